/-
  The reference of layer 18: what a procedure takes; numbers, truth values; texts and characters.
  The reference of layer 18: what a pure procedure comes to, of plain arguments.
  The reference of layer 18: what comes, parted by the arguments.
  The reference of layer 18: what comes, parted by the arguments.
  The reference of layer 18: what comes, parted by the arguments.
  The reference of layer 18: what comes, parted by the arguments.
  The reference's Eval, one contract; what comes, plain; the same data.
  The reference's names.
-/
import Derived.Test.YtneokkhnjnomdaaGreatDoorPrJ
import Derived.Test.YtneokkhnjnomdaaGreatDoorGB2
import Derived.Deep.RegionHeld3
import Derived.BigQuiet
import Derived.Test.YtneokkhnjnomdaaGreatDoorGrC
import Derived.Test.YtneokkhnjnomdaaGreatDoorPShx10
import Derived.Test.YtneokkhnjnomdaaGreatDoorPrA
import Derived.Deep.LoopGhost

/-! GrE -/
namespace Go.Proofs.YtneokkhnjnomdaaGreatDoor
open Go.RowKit Go.Proofs.YtneokkhnjnomdaaGreatDoorW.PrintWords

def resRV (r : Res) : Value := .tuple #[datV r.k r.n r.t, .int .i64 r.e]
theorem keep_al {w : World} {p : Addr} {v : Value} {o : Obj} (h : w.cell? p = some v) : (w.alloc o).cell? p = some v := (World.cell?_alloc_some w p o (by rw [h]; rfl)).trans h
theorem keep_dr {w : World} {p : Addr} {v : Value} (h : w.cell? p = some v) : w.drew.cell? p = some v := h
theorem keep_st {w : World} {p q : Addr} {v u : Value} (hne : q.block ≠ p.block) (h : w.cell? p = some v) : (w.setCell q u).cell? p = some v := (World.cell?_setCell_far w q p u hne).trans h
theorem below_putB {w W : World} {b : Nat} (h : Below w.heap.size w W) (hb : w.heap.size ≤ b) (k' n' : Int) (t' : ByteArray) :
    Below w.heap.size w ((((W.setCell ⟨b, 0, none⟩ (.int .i64 k')).setCell ⟨b, 1, none⟩ (.int .i64 n')).setCell ⟨b, 2, none⟩ (.string t')).setCell ⟨b, 3, none⟩ (.slice none 0 0)) :=
  below_set (below_set (below_set (below_set h hb) hb) hb) hb

set_option maxRecDepth 100000 in
set_option maxHeartbeats 4000000 in
theorem rkinds_1 (w : World) : Calls Tryz.prog 36 #[.int .i64 1] w (KTo [1, 1] w) := by
  go_enter Tryz.func36, Tryz.ntmps36
  go_wp2_with fail
  go_ret
  exact ⟨⟨_, rfl, ints_new w [1, 1]⟩, below_alloc (Below.refl _ _) _⟩
set_option maxRecDepth 100000 in
set_option maxHeartbeats 4000000 in
theorem rkinds_2 (w : World) : Calls Tryz.prog 36 #[.int .i64 2] w (KTo [1, 1] w) := by
  go_enter Tryz.func36, Tryz.ntmps36
  go_wp2_with fail
  go_ret
  exact ⟨⟨_, rfl, ints_new w [1, 1]⟩, below_alloc (Below.refl _ _) _⟩
set_option maxRecDepth 100000 in
set_option maxHeartbeats 4000000 in
theorem rkinds_3 (w : World) : Calls Tryz.prog 36 #[.int .i64 3] w (KTo [1, 1] w) := by
  go_enter Tryz.func36, Tryz.ntmps36
  go_wp2_with fail
  go_ret
  exact ⟨⟨_, rfl, ints_new w [1, 1]⟩, below_alloc (Below.refl _ _) _⟩
set_option maxRecDepth 100000 in
set_option maxHeartbeats 4000000 in
theorem rkinds_4 (w : World) : Calls Tryz.prog 36 #[.int .i64 4] w (KTo [1, 1] w) := by
  go_enter Tryz.func36, Tryz.ntmps36
  go_wp2_with fail
  go_ret
  exact ⟨⟨_, rfl, ints_new w [1, 1]⟩, below_alloc (Below.refl _ _) _⟩
set_option maxRecDepth 100000 in
set_option maxHeartbeats 4000000 in
theorem rkinds_5 (w : World) : Calls Tryz.prog 36 #[.int .i64 5] w (KTo [1, 1] w) := by
  go_enter Tryz.func36, Tryz.ntmps36
  go_wp2_with fail
  go_ret
  exact ⟨⟨_, rfl, ints_new w [1, 1]⟩, below_alloc (Below.refl _ _) _⟩
set_option maxRecDepth 100000 in
set_option maxHeartbeats 4000000 in
theorem rkinds_6 (w : World) : Calls Tryz.prog 36 #[.int .i64 6] w (KTo [1, 1] w) := by
  go_enter Tryz.func36, Tryz.ntmps36
  go_wp2_with fail
  go_ret
  exact ⟨⟨_, rfl, ints_new w [1, 1]⟩, below_alloc (Below.refl _ _) _⟩
set_option maxRecDepth 100000 in
set_option maxHeartbeats 4000000 in
theorem rkinds_7 (w : World) : Calls Tryz.prog 36 #[.int .i64 7] w (KTo [1, 1] w) := by
  go_enter Tryz.func36, Tryz.ntmps36
  go_wp2_with fail
  go_ret
  exact ⟨⟨_, rfl, ints_new w [1, 1]⟩, below_alloc (Below.refl _ _) _⟩
set_option maxRecDepth 100000 in
set_option maxHeartbeats 4000000 in
theorem rkinds_8 (w : World) : Calls Tryz.prog 36 #[.int .i64 8] w (KTo [1, 1] w) := by
  go_enter Tryz.func36, Tryz.ntmps36
  go_wp2_with fail
  go_ret
  exact ⟨⟨_, rfl, ints_new w [1, 1]⟩, below_alloc (Below.refl _ _) _⟩
set_option maxRecDepth 100000 in
set_option maxHeartbeats 4000000 in
theorem rkinds_29 (w : World) : Calls Tryz.prog 36 #[.int .i64 29] w (KTo [4] w) := by
  go_enter Tryz.func36, Tryz.ntmps36
  go_wp2_with fail
  go_ret
  exact ⟨⟨_, rfl, ints_new w [4]⟩, below_alloc (Below.refl _ _) _⟩
set_option maxRecDepth 100000 in
set_option maxHeartbeats 4000000 in
theorem rkinds_30 (w : World) : Calls Tryz.prog 36 #[.int .i64 30] w (KTo [4, 1] w) := by
  go_enter Tryz.func36, Tryz.ntmps36
  go_wp2_with fail
  go_ret
  exact ⟨⟨_, rfl, ints_new w [4, 1]⟩, below_alloc (Below.refl _ _) _⟩
set_option maxRecDepth 100000 in
set_option maxHeartbeats 4000000 in
theorem rkinds_31 (w : World) : Calls Tryz.prog 36 #[.int .i64 31] w (KTo [4, 4] w) := by
  go_enter Tryz.func36, Tryz.ntmps36
  go_wp2_with fail
  go_ret
  exact ⟨⟨_, rfl, ints_new w [4, 4]⟩, below_alloc (Below.refl _ _) _⟩
set_option maxRecDepth 100000 in
set_option maxHeartbeats 4000000 in
theorem rkinds_32 (w : World) : Calls Tryz.prog 36 #[.int .i64 32] w (KTo [4, 4] w) := by
  go_enter Tryz.func36, Tryz.ntmps36
  go_wp2_with fail
  go_ret
  exact ⟨⟨_, rfl, ints_new w [4, 4]⟩, below_alloc (Below.refl _ _) _⟩
set_option maxRecDepth 100000 in
set_option maxHeartbeats 4000000 in
theorem rkinds_33 (w : World) : Calls Tryz.prog 36 #[.int .i64 33] w (KTo [4, 1, 1] w) := by
  go_enter Tryz.func36, Tryz.ntmps36
  go_wp2_with fail
  go_ret
  exact ⟨⟨_, rfl, ints_new w [4, 1, 1]⟩, below_alloc (Below.refl _ _) _⟩
set_option maxRecDepth 100000 in
set_option maxHeartbeats 4000000 in
theorem rkinds_34 (w : World) : Calls Tryz.prog 36 #[.int .i64 34] w (KTo [1] w) := by
  go_enter Tryz.func36, Tryz.ntmps36
  go_wp2_with fail
  go_ret
  exact ⟨⟨_, rfl, ints_new w [1]⟩, below_alloc (Below.refl _ _) _⟩
set_option maxRecDepth 100000 in
set_option maxHeartbeats 4000000 in
theorem rkinds_35 (w : World) : Calls Tryz.prog 36 #[.int .i64 35] w (KTo [4] w) := by
  go_enter Tryz.func36, Tryz.ntmps36
  go_wp2_with fail
  go_ret
  exact ⟨⟨_, rfl, ints_new w [4]⟩, below_alloc (Below.refl _ _) _⟩
set_option maxRecDepth 100000 in
set_option maxHeartbeats 4000000 in
theorem rkinds_36 (w : World) : Calls Tryz.prog 36 #[.int .i64 36] w (KTo [5] w) := by
  go_enter Tryz.func36, Tryz.ntmps36
  go_wp2_with fail
  go_ret
  exact ⟨⟨_, rfl, ints_new w [5]⟩, below_alloc (Below.refl _ _) _⟩
set_option maxRecDepth 100000 in
set_option maxHeartbeats 4000000 in
theorem rkinds_37 (w : World) : Calls Tryz.prog 36 #[.int .i64 37] w (KTo [4] w) := by
  go_enter Tryz.func36, Tryz.ntmps36
  go_wp2_with fail
  go_ret
  exact ⟨⟨_, rfl, ints_new w [4]⟩, below_alloc (Below.refl _ _) _⟩
set_option maxRecDepth 100000 in
set_option maxHeartbeats 4000000 in
theorem rkinds_38 (w : World) : Calls Tryz.prog 36 #[.int .i64 38] w (KTo [3] w) := by
  go_enter Tryz.func36, Tryz.ntmps36
  go_wp2_with fail
  go_ret
  exact ⟨⟨_, rfl, ints_new w [3]⟩, below_alloc (Below.refl _ _) _⟩
set_option maxRecDepth 100000 in
set_option maxHeartbeats 4000000 in
theorem rkinds_39 (w : World) : Calls Tryz.prog 36 #[.int .i64 39] w (KTo [1] w) := by
  go_enter Tryz.func36, Tryz.ntmps36
  go_wp2_with fail
  go_ret
  exact ⟨⟨_, rfl, ints_new w [1]⟩, below_alloc (Below.refl _ _) _⟩
theorem rkinds_of (n : Int) (w : World) (h : pureB n = true) : Calls Tryz.prog 36 #[.int .i64 n] w (KTo (kindsN n) w) := by
  rcases pure_cases h with rfl | rfl | rfl | rfl | rfl | rfl | rfl | rfl | rfl | rfl | rfl | rfl | rfl | rfl | rfl | rfl | rfl | rfl | rfl
  · exact rkinds_1 w
  · exact rkinds_2 w
  · exact rkinds_3 w
  · exact rkinds_4 w
  · exact rkinds_5 w
  · exact rkinds_6 w
  · exact rkinds_7 w
  · exact rkinds_8 w
  · exact rkinds_29 w
  · exact rkinds_30 w
  · exact rkinds_31 w
  · exact rkinds_32 w
  · exact rkinds_33 w
  · exact rkinds_34 w
  · exact rkinds_35 w
  · exact rkinds_36 w
  · exact rkinds_37 w
  · exact rkinds_38 w
  · exact rkinds_39 w

set_option maxRecDepth 100000 in
set_option maxHeartbeats 4000000 in
theorem rnum_ok (n : Int) (w : World) : Calls Tryz.prog 37 #[.int .i64 n, .int .i64 0] w (Giv (.tuple #[datV 1 n ⟨#[]⟩, .int .i64 0]) w) := by
  go_enter Tryz.func37, Tryz.ntmps37
  go_wp2_with fail
  (try simp only [Exit.inBlock, Exit.then])
  refine bodyPost_ret (by simp [results, Tryz.results37, go_sem]; rfl) rfl ?_
  exact ⟨rfl, below_alloc (Below.refl _ _) _⟩
set_option maxRecDepth 100000 in
set_option maxHeartbeats 4000000 in
theorem rnum_err (n e : Int) (he : e ≠ 0) (w : World) : Calls Tryz.prog 37 #[.int .i64 n, .int .i64 e] w (Giv (.tuple #[datV 0 0 ⟨#[]⟩, .int .i64 e]) w) := by
  have h0 : (e == 0) = false := beq_eq_false_iff_ne.2 he
  go_enter Tryz.func37, Tryz.ntmps37
  go_wp2_with fail
  (try simp only [Exit.inBlock, Exit.then])
  refine bodyPost_ret (by simp [results, Tryz.results37, go_sem]; rfl) rfl ?_
  exact ⟨rfl, below_alloc (Below.refl _ _) _⟩
theorem rnum_any (p : Int × Int) (w : World) : Calls Tryz.prog 37 #[.int .i64 p.1, .int .i64 p.2] w (Giv (resRV (numR p)) w) := by
  unfold numR
  by_cases h : p.2 = 0
  · rw [if_pos h, h]
    exact rnum_ok p.1 w
  · rw [if_neg h]
    exact rnum_err p.1 p.2 h w
set_option maxRecDepth 100000 in
set_option maxHeartbeats 4000000 in
theorem rtruth_of (b : Bool) (w : World) : Calls Tryz.prog 44 #[.bool b] w (Giv (.tuple #[datV 2 (if b = true then 1 else 0) ⟨#[]⟩, .int .i64 0]) w) := by
  cases b
  · go_enter Tryz.func44, Tryz.ntmps44
    go_wp2_with fail
    (try simp only [Exit.inBlock, Exit.then])
    refine bodyPost_ret (by simp [results, Tryz.results44, go_sem]; rfl) rfl ?_
    exact ⟨rfl, below_alloc (Below.refl _ _) _⟩
  · go_enter Tryz.func44, Tryz.ntmps44
    go_wp2_with fail
    (try simp only [Exit.inBlock, Exit.then])
    refine bodyPost_ret (by simp [results, Tryz.results44, go_sem]; rfl) rfl ?_
    exact ⟨rfl, below_alloc (Below.refl _ _) _⟩

/-- The three variables that text begins with. -/
structure TyI (w : World) (x y : Nd) (w' : World) : Prop where
  one : w'.heap[w.heap.size]? = some x.obj
  last : w'.heap[w.heap.size + 1]? = some y.obj
  res : w'.heap[w.heap.size + 1 + 1]? = some (.cells #[.int .i64 0, .int .i64 0, .string ⟨#[]⟩, .slice none 0 0] 26 (0, 0))
  below : Below w.heap.size w w'
theorem TyI.step {w : World} {x y : Nd} {w1 w2 : World} (h : TyI w x y w1) (hb : Below w1.heap.size w1 w2) : TyI w x y w2 := ⟨blk_below h.one hb, blk_below h.last hb, blk_below h.res hb, below_step h.below hb⟩
theorem tyI_start (w : World) (x y : Nd) : TyI w x y (((w.alloc (.cells #[.int .i64 x.k, .int .i64 x.n, .string x.t, .slice x.a x.m x.c] 26)).alloc (.cells #[.int .i64 y.k, .int .i64 y.n, .string y.t, .slice y.a y.m y.c] 26)).alloc (.cells #[.int .i64 0, .int .i64 0, .string ⟨#[]⟩, .slice none 0 0] 26)) := by
  refine ⟨blk_alloc (blk_alloc (blk_new w x.obj) _) _, blk_alloc ?_ _, ?_, below_alloc (below_alloc (below_alloc (Below.refl _ _) _) _) _⟩
  · have := blk_new (w.alloc x.obj) y.obj
    rw [show (w.alloc x.obj).heap.size = w.heap.size + 1 by simp] at this
    exact this
  · have := blk_new ((w.alloc x.obj).alloc y.obj) (.cells #[.int .i64 0, .int .i64 0, .string ⟨#[]⟩, .slice none 0 0] 26 (0, 0))
    rw [show ((w.alloc x.obj).alloc y.obj).heap.size = w.heap.size + 1 + 1 by simp] at this
    exact this

set_option maxRecDepth 100000 in
set_option maxHeartbeats 4000000 in
theorem rtext_29 (d : Nd) (v : Value) (w : World) : Calls Tryz.prog 45 #[.int .i64 29, v, d.val, d.val] w (Giv (.tuple #[datV 1 (d.t.size : Nat) ⟨#[]⟩, .int .i64 0]) w) := by

  go_enter Tryz.func45, Tryz.ntmps45
  go_upto_region 1 with (fail)
  have HT := Lib.hid (tyI_start w d d)
  generalize ((w.alloc (.cells #[.int .i64 d.k, .int .i64 d.n, .string d.t, .slice d.a d.m d.c] 26)).alloc (.cells #[.int .i64 d.k, .int .i64 d.n, .string d.t, .slice d.a d.m d.c] 26)).alloc (.cells #[.int .i64 0, .int .i64 0, .string ⟨#[]⟩, .slice none 0 0] 26) = w0 at HT ⊢
  have p0 : w0.cell? ⟨w.heap.size, 0, none⟩ = some (.int .i64 d.k) := blk_cell HT.out.one 0
  have p1 : w0.cell? ⟨w.heap.size, 1, none⟩ = some (.int .i64 d.n) := blk_cell HT.out.one 1
  have p2 : w0.cell? ⟨w.heap.size, 2, none⟩ = some (.string d.t) := blk_cell HT.out.one 2
  have p3 : w0.cell? ⟨w.heap.size, 3, none⟩ = some (.slice d.a d.m d.c) := blk_cell HT.out.one 3
  have l0 : w0.cell? ⟨w.heap.size + 1, 0, none⟩ = some (.int .i64 d.k) := blk_cell HT.out.last 0
  have l1 : w0.cell? ⟨w.heap.size + 1, 1, none⟩ = some (.int .i64 d.n) := blk_cell HT.out.last 1
  have l2 : w0.cell? ⟨w.heap.size + 1, 2, none⟩ = some (.string d.t) := blk_cell HT.out.last 2
  have l3 : w0.cell? ⟨w.heap.size + 1, 3, none⟩ = some (.slice d.a d.m d.c) := blk_cell HT.out.last 3
  have r0 : w0.cell? ⟨w.heap.size + 1 + 1, 0, none⟩ = some (.int .i64 0) := blk_cell HT.out.res 0
  have s0 := blk_frozen HT.out.res 0
  have r1 : w0.cell? ⟨w.heap.size + 1 + 1, 1, none⟩ = some (.int .i64 0) := blk_cell HT.out.res 1
  have s1 := blk_frozen HT.out.res 1
  have r2 : w0.cell? ⟨w.heap.size + 1 + 1, 2, none⟩ = some (.string ⟨#[]⟩) := blk_cell HT.out.res 2
  have s2 := blk_frozen HT.out.res 2
  have r3 : w0.cell? ⟨w.heap.size + 1 + 1, 3, none⟩ = some (.slice none 0 0) := blk_cell HT.out.res 3
  have s3 := blk_frozen HT.out.res 3
  go_wp2_with fail
  refine (rnum_ok _ _).mono ?_
  rintro e' w2 ⟨rfl, hb2⟩
  have HT2 := Lib.hid (HT.out.step hb2)
  clear r0 r1 r2 r3 s0 s1 s2 s3 hb2
  have r0 : w2.cell? ⟨w.heap.size + 1 + 1, 0, none⟩ = some (.int .i64 0) := blk_cell HT2.out.res 0
  have s0 := blk_frozen HT2.out.res 0
  have r1 : w2.cell? ⟨w.heap.size + 1 + 1, 1, none⟩ = some (.int .i64 0) := blk_cell HT2.out.res 1
  have s1 := blk_frozen HT2.out.res 1
  have r2 : w2.cell? ⟨w.heap.size + 1 + 1, 2, none⟩ = some (.string ⟨#[]⟩) := blk_cell HT2.out.res 2
  have s2 := blk_frozen HT2.out.res 2
  have r3 : w2.cell? ⟨w.heap.size + 1 + 1, 3, none⟩ = some (.slice none 0 0) := blk_cell HT2.out.res 3
  have s3 := blk_frozen HT2.out.res 3
  go_wp2_with fail
  have H4 := dat_put HT2.out.res (1) ((d.t.size : Nat)) (⟨#[]⟩)
  have HB4 := Lib.hid (below_putB HT2.out.below (show w.heap.size ≤ w.heap.size + 1 + 1 by omega) (1) ((d.t.size : Nat)) (⟨#[]⟩))
  have q0 := blk_cell H4 0
  have q1 := blk_cell H4 1
  have q2 := blk_cell H4 2
  have q3 := blk_cell H4 3
  clear r0 r1 r2 r3 s0 s1 s2 s3
  (try simp only [Exit.inBlock, Exit.then])
  refine bodyPost_ret (by simp [results, Tryz.results45, go_sem, q0, q1, q2, q3]; rfl) rfl ?_
  exact ⟨rfl, HB4.out⟩
set_option maxRecDepth 100000 in
set_option maxHeartbeats 4000000 in
theorem rtext_30 (d e : Nd) (v : Value) (w : World) (h0 : 0 ≤ e.n) (h1 : e.n < d.t.size) (x : UInt8) (hx : ∀ h, d.t[e.n.toNat]'h = x) : Calls Tryz.prog 45 #[.int .i64 30, v, d.val, e.val] w (Giv (.tuple #[datV 3 (x.toNat : Int) ⟨#[]⟩, .int .i64 0]) w) := by
  have x256 : x.toNat < 256 := x.toNat_lt
  have y0 : decide (e.n < 0) = false := decide_eq_false (by omega)
  have y1 : decide ((d.t.size : Int) ≤ e.n) = false := decide_eq_false (by omega)
  go_enter Tryz.func45, Tryz.ntmps45
  go_upto_region 1 with (fail)
  have HT := Lib.hid (tyI_start w d e)
  generalize ((w.alloc (.cells #[.int .i64 d.k, .int .i64 d.n, .string d.t, .slice d.a d.m d.c] 26)).alloc (.cells #[.int .i64 e.k, .int .i64 e.n, .string e.t, .slice e.a e.m e.c] 26)).alloc (.cells #[.int .i64 0, .int .i64 0, .string ⟨#[]⟩, .slice none 0 0] 26) = w0 at HT ⊢
  have p0 : w0.cell? ⟨w.heap.size, 0, none⟩ = some (.int .i64 d.k) := blk_cell HT.out.one 0
  have p1 : w0.cell? ⟨w.heap.size, 1, none⟩ = some (.int .i64 d.n) := blk_cell HT.out.one 1
  have p2 : w0.cell? ⟨w.heap.size, 2, none⟩ = some (.string d.t) := blk_cell HT.out.one 2
  have p3 : w0.cell? ⟨w.heap.size, 3, none⟩ = some (.slice d.a d.m d.c) := blk_cell HT.out.one 3
  have l0 : w0.cell? ⟨w.heap.size + 1, 0, none⟩ = some (.int .i64 e.k) := blk_cell HT.out.last 0
  have l1 : w0.cell? ⟨w.heap.size + 1, 1, none⟩ = some (.int .i64 e.n) := blk_cell HT.out.last 1
  have l2 : w0.cell? ⟨w.heap.size + 1, 2, none⟩ = some (.string e.t) := blk_cell HT.out.last 2
  have l3 : w0.cell? ⟨w.heap.size + 1, 3, none⟩ = some (.slice e.a e.m e.c) := blk_cell HT.out.last 3
  have r0 : w0.cell? ⟨w.heap.size + 1 + 1, 0, none⟩ = some (.int .i64 0) := blk_cell HT.out.res 0
  have s0 := blk_frozen HT.out.res 0
  have r1 : w0.cell? ⟨w.heap.size + 1 + 1, 1, none⟩ = some (.int .i64 0) := blk_cell HT.out.res 1
  have s1 := blk_frozen HT.out.res 1
  have r2 : w0.cell? ⟨w.heap.size + 1 + 1, 2, none⟩ = some (.string ⟨#[]⟩) := blk_cell HT.out.res 2
  have s2 := blk_frozen HT.out.res 2
  have r3 : w0.cell? ⟨w.heap.size + 1 + 1, 3, none⟩ = some (.slice none 0 0) := blk_cell HT.out.res 3
  have s3 := blk_frozen HT.out.res 3
  go_wp2_with fail
  have H4 := dat_put HT.out.res (3) ((x.toNat : Int)) (⟨#[]⟩)
  have HB4 := Lib.hid (below_putB HT.out.below (show w.heap.size ≤ w.heap.size + 1 + 1 by omega) (3) ((x.toNat : Int)) (⟨#[]⟩))
  have q0 := blk_cell H4 0
  have q1 := blk_cell H4 1
  have q2 := blk_cell H4 2
  have q3 := blk_cell H4 3
  clear r0 r1 r2 r3 s0 s1 s2 s3
  (try simp only [Exit.inBlock, Exit.then])
  refine bodyPost_ret (by simp [results, Tryz.results45, go_sem, q0, q1, q2, q3]; rfl) rfl ?_
  exact ⟨rfl, HB4.out⟩
set_option maxRecDepth 100000 in
set_option maxHeartbeats 4000000 in
theorem rtext_30a (d e : Nd) (v : Value) (w : World) (h0 : e.n < 0) : Calls Tryz.prog 45 #[.int .i64 30, v, d.val, e.val] w (Giv (.tuple #[datV 0 0 ⟨#[]⟩, .int .i64 13]) w) := by
  have y0 : decide (e.n < 0) = true := decide_eq_true (by omega)
  go_enter Tryz.func45, Tryz.ntmps45
  go_upto_region 1 with (fail)
  have HT := Lib.hid (tyI_start w d e)
  generalize ((w.alloc (.cells #[.int .i64 d.k, .int .i64 d.n, .string d.t, .slice d.a d.m d.c] 26)).alloc (.cells #[.int .i64 e.k, .int .i64 e.n, .string e.t, .slice e.a e.m e.c] 26)).alloc (.cells #[.int .i64 0, .int .i64 0, .string ⟨#[]⟩, .slice none 0 0] 26) = w0 at HT ⊢
  have p0 : w0.cell? ⟨w.heap.size, 0, none⟩ = some (.int .i64 d.k) := blk_cell HT.out.one 0
  have p1 : w0.cell? ⟨w.heap.size, 1, none⟩ = some (.int .i64 d.n) := blk_cell HT.out.one 1
  have p2 : w0.cell? ⟨w.heap.size, 2, none⟩ = some (.string d.t) := blk_cell HT.out.one 2
  have p3 : w0.cell? ⟨w.heap.size, 3, none⟩ = some (.slice d.a d.m d.c) := blk_cell HT.out.one 3
  have l0 : w0.cell? ⟨w.heap.size + 1, 0, none⟩ = some (.int .i64 e.k) := blk_cell HT.out.last 0
  have l1 : w0.cell? ⟨w.heap.size + 1, 1, none⟩ = some (.int .i64 e.n) := blk_cell HT.out.last 1
  have l2 : w0.cell? ⟨w.heap.size + 1, 2, none⟩ = some (.string e.t) := blk_cell HT.out.last 2
  have l3 : w0.cell? ⟨w.heap.size + 1, 3, none⟩ = some (.slice e.a e.m e.c) := blk_cell HT.out.last 3
  have r0 : w0.cell? ⟨w.heap.size + 1 + 1, 0, none⟩ = some (.int .i64 0) := blk_cell HT.out.res 0
  have s0 := blk_frozen HT.out.res 0
  have r1 : w0.cell? ⟨w.heap.size + 1 + 1, 1, none⟩ = some (.int .i64 0) := blk_cell HT.out.res 1
  have s1 := blk_frozen HT.out.res 1
  have r2 : w0.cell? ⟨w.heap.size + 1 + 1, 2, none⟩ = some (.string ⟨#[]⟩) := blk_cell HT.out.res 2
  have s2 := blk_frozen HT.out.res 2
  have r3 : w0.cell? ⟨w.heap.size + 1 + 1, 3, none⟩ = some (.slice none 0 0) := blk_cell HT.out.res 3
  have s3 := blk_frozen HT.out.res 3
  go_wp2_with fail
  have H4 := dat_put HT.out.res (0) (0) (⟨#[]⟩)
  have HB4 := Lib.hid (below_putB HT.out.below (show w.heap.size ≤ w.heap.size + 1 + 1 by omega) (0) (0) (⟨#[]⟩))
  have q0 := blk_cell H4 0
  have q1 := blk_cell H4 1
  have q2 := blk_cell H4 2
  have q3 := blk_cell H4 3
  clear r0 r1 r2 r3 s0 s1 s2 s3
  (try simp only [Exit.inBlock, Exit.then])
  refine bodyPost_ret (by simp [results, Tryz.results45, go_sem, q0, q1, q2, q3]; rfl) rfl ?_
  exact ⟨rfl, HB4.out⟩
set_option maxRecDepth 100000 in
set_option maxHeartbeats 4000000 in
theorem rtext_30b (d e : Nd) (v : Value) (w : World) (h0 : 0 ≤ e.n) (h1 : (d.t.size : Int) ≤ e.n) : Calls Tryz.prog 45 #[.int .i64 30, v, d.val, e.val] w (Giv (.tuple #[datV 0 0 ⟨#[]⟩, .int .i64 13]) w) := by
  have y0 : decide (e.n < 0) = false := decide_eq_false (by omega)
  have y1 : decide ((d.t.size : Int) ≤ e.n) = true := decide_eq_true (by omega)
  go_enter Tryz.func45, Tryz.ntmps45
  go_upto_region 1 with (fail)
  have HT := Lib.hid (tyI_start w d e)
  generalize ((w.alloc (.cells #[.int .i64 d.k, .int .i64 d.n, .string d.t, .slice d.a d.m d.c] 26)).alloc (.cells #[.int .i64 e.k, .int .i64 e.n, .string e.t, .slice e.a e.m e.c] 26)).alloc (.cells #[.int .i64 0, .int .i64 0, .string ⟨#[]⟩, .slice none 0 0] 26) = w0 at HT ⊢
  have p0 : w0.cell? ⟨w.heap.size, 0, none⟩ = some (.int .i64 d.k) := blk_cell HT.out.one 0
  have p1 : w0.cell? ⟨w.heap.size, 1, none⟩ = some (.int .i64 d.n) := blk_cell HT.out.one 1
  have p2 : w0.cell? ⟨w.heap.size, 2, none⟩ = some (.string d.t) := blk_cell HT.out.one 2
  have p3 : w0.cell? ⟨w.heap.size, 3, none⟩ = some (.slice d.a d.m d.c) := blk_cell HT.out.one 3
  have l0 : w0.cell? ⟨w.heap.size + 1, 0, none⟩ = some (.int .i64 e.k) := blk_cell HT.out.last 0
  have l1 : w0.cell? ⟨w.heap.size + 1, 1, none⟩ = some (.int .i64 e.n) := blk_cell HT.out.last 1
  have l2 : w0.cell? ⟨w.heap.size + 1, 2, none⟩ = some (.string e.t) := blk_cell HT.out.last 2
  have l3 : w0.cell? ⟨w.heap.size + 1, 3, none⟩ = some (.slice e.a e.m e.c) := blk_cell HT.out.last 3
  have r0 : w0.cell? ⟨w.heap.size + 1 + 1, 0, none⟩ = some (.int .i64 0) := blk_cell HT.out.res 0
  have s0 := blk_frozen HT.out.res 0
  have r1 : w0.cell? ⟨w.heap.size + 1 + 1, 1, none⟩ = some (.int .i64 0) := blk_cell HT.out.res 1
  have s1 := blk_frozen HT.out.res 1
  have r2 : w0.cell? ⟨w.heap.size + 1 + 1, 2, none⟩ = some (.string ⟨#[]⟩) := blk_cell HT.out.res 2
  have s2 := blk_frozen HT.out.res 2
  have r3 : w0.cell? ⟨w.heap.size + 1 + 1, 3, none⟩ = some (.slice none 0 0) := blk_cell HT.out.res 3
  have s3 := blk_frozen HT.out.res 3
  go_wp2_with fail
  have H4 := dat_put HT.out.res (0) (0) (⟨#[]⟩)
  have HB4 := Lib.hid (below_putB HT.out.below (show w.heap.size ≤ w.heap.size + 1 + 1 by omega) (0) (0) (⟨#[]⟩))
  have q0 := blk_cell H4 0
  have q1 := blk_cell H4 1
  have q2 := blk_cell H4 2
  have q3 := blk_cell H4 3
  clear r0 r1 r2 r3 s0 s1 s2 s3
  (try simp only [Exit.inBlock, Exit.then])
  refine bodyPost_ret (by simp [results, Tryz.results45, go_sem, q0, q1, q2, q3]; rfl) rfl ?_
  exact ⟨rfl, HB4.out⟩
set_option maxRecDepth 100000 in
set_option maxHeartbeats 4000000 in
theorem rtext_31 (d e : Nd) (v : Value) (w : World) (hz : (d.t.size : Int) ≤ 1000000000) (hz2 : (e.t.size : Int) ≤ 1000000000) (h : (d.t.size : Int) + e.t.size ≤ 500) : Calls Tryz.prog 45 #[.int .i64 31, v, d.val, e.val] w (Giv (.tuple #[datV 4 0 (d.t ++ e.t), .int .i64 0]) w) := by
  have y0 : decide ((500 : Int) < (d.t.size : Nat) + (e.t.size : Nat)) = false := decide_eq_false (by omega)
  go_enter Tryz.func45, Tryz.ntmps45
  go_upto_region 1 with (fail)
  have HT := Lib.hid (tyI_start w d e)
  generalize ((w.alloc (.cells #[.int .i64 d.k, .int .i64 d.n, .string d.t, .slice d.a d.m d.c] 26)).alloc (.cells #[.int .i64 e.k, .int .i64 e.n, .string e.t, .slice e.a e.m e.c] 26)).alloc (.cells #[.int .i64 0, .int .i64 0, .string ⟨#[]⟩, .slice none 0 0] 26) = w0 at HT ⊢
  have p0 : w0.cell? ⟨w.heap.size, 0, none⟩ = some (.int .i64 d.k) := blk_cell HT.out.one 0
  have p1 : w0.cell? ⟨w.heap.size, 1, none⟩ = some (.int .i64 d.n) := blk_cell HT.out.one 1
  have p2 : w0.cell? ⟨w.heap.size, 2, none⟩ = some (.string d.t) := blk_cell HT.out.one 2
  have p3 : w0.cell? ⟨w.heap.size, 3, none⟩ = some (.slice d.a d.m d.c) := blk_cell HT.out.one 3
  have l0 : w0.cell? ⟨w.heap.size + 1, 0, none⟩ = some (.int .i64 e.k) := blk_cell HT.out.last 0
  have l1 : w0.cell? ⟨w.heap.size + 1, 1, none⟩ = some (.int .i64 e.n) := blk_cell HT.out.last 1
  have l2 : w0.cell? ⟨w.heap.size + 1, 2, none⟩ = some (.string e.t) := blk_cell HT.out.last 2
  have l3 : w0.cell? ⟨w.heap.size + 1, 3, none⟩ = some (.slice e.a e.m e.c) := blk_cell HT.out.last 3
  have r0 : w0.cell? ⟨w.heap.size + 1 + 1, 0, none⟩ = some (.int .i64 0) := blk_cell HT.out.res 0
  have s0 := blk_frozen HT.out.res 0
  have r1 : w0.cell? ⟨w.heap.size + 1 + 1, 1, none⟩ = some (.int .i64 0) := blk_cell HT.out.res 1
  have s1 := blk_frozen HT.out.res 1
  have r2 : w0.cell? ⟨w.heap.size + 1 + 1, 2, none⟩ = some (.string ⟨#[]⟩) := blk_cell HT.out.res 2
  have s2 := blk_frozen HT.out.res 2
  have r3 : w0.cell? ⟨w.heap.size + 1 + 1, 3, none⟩ = some (.slice none 0 0) := blk_cell HT.out.res 3
  have s3 := blk_frozen HT.out.res 3
  go_wp2_with fail
  have H4 := dat_put HT.out.res (4) (0) ((d.t ++ e.t))
  have HB4 := Lib.hid (below_putB HT.out.below (show w.heap.size ≤ w.heap.size + 1 + 1 by omega) (4) (0) ((d.t ++ e.t)))
  have q0 := blk_cell H4 0
  have q1 := blk_cell H4 1
  have q2 := blk_cell H4 2
  have q3 := blk_cell H4 3
  clear r0 r1 r2 r3 s0 s1 s2 s3
  (try simp only [Exit.inBlock, Exit.then])
  refine bodyPost_ret (by simp [results, Tryz.results45, go_sem, q0, q1, q2, q3]; rfl) rfl ?_
  exact ⟨rfl, HB4.out⟩
set_option maxRecDepth 100000 in
set_option maxHeartbeats 4000000 in
theorem rtext_31a (d e : Nd) (v : Value) (w : World) (hz : (d.t.size : Int) ≤ 1000000000) (hz2 : (e.t.size : Int) ≤ 1000000000) (h : 500 < (d.t.size : Int) + e.t.size) : Calls Tryz.prog 45 #[.int .i64 31, v, d.val, e.val] w (Giv (.tuple #[datV 0 0 ⟨#[]⟩, .int .i64 14]) w) := by
  have y0 : decide ((500 : Int) < (d.t.size : Nat) + (e.t.size : Nat)) = true := decide_eq_true (by omega)
  go_enter Tryz.func45, Tryz.ntmps45
  go_upto_region 1 with (fail)
  have HT := Lib.hid (tyI_start w d e)
  generalize ((w.alloc (.cells #[.int .i64 d.k, .int .i64 d.n, .string d.t, .slice d.a d.m d.c] 26)).alloc (.cells #[.int .i64 e.k, .int .i64 e.n, .string e.t, .slice e.a e.m e.c] 26)).alloc (.cells #[.int .i64 0, .int .i64 0, .string ⟨#[]⟩, .slice none 0 0] 26) = w0 at HT ⊢
  have p0 : w0.cell? ⟨w.heap.size, 0, none⟩ = some (.int .i64 d.k) := blk_cell HT.out.one 0
  have p1 : w0.cell? ⟨w.heap.size, 1, none⟩ = some (.int .i64 d.n) := blk_cell HT.out.one 1
  have p2 : w0.cell? ⟨w.heap.size, 2, none⟩ = some (.string d.t) := blk_cell HT.out.one 2
  have p3 : w0.cell? ⟨w.heap.size, 3, none⟩ = some (.slice d.a d.m d.c) := blk_cell HT.out.one 3
  have l0 : w0.cell? ⟨w.heap.size + 1, 0, none⟩ = some (.int .i64 e.k) := blk_cell HT.out.last 0
  have l1 : w0.cell? ⟨w.heap.size + 1, 1, none⟩ = some (.int .i64 e.n) := blk_cell HT.out.last 1
  have l2 : w0.cell? ⟨w.heap.size + 1, 2, none⟩ = some (.string e.t) := blk_cell HT.out.last 2
  have l3 : w0.cell? ⟨w.heap.size + 1, 3, none⟩ = some (.slice e.a e.m e.c) := blk_cell HT.out.last 3
  have r0 : w0.cell? ⟨w.heap.size + 1 + 1, 0, none⟩ = some (.int .i64 0) := blk_cell HT.out.res 0
  have s0 := blk_frozen HT.out.res 0
  have r1 : w0.cell? ⟨w.heap.size + 1 + 1, 1, none⟩ = some (.int .i64 0) := blk_cell HT.out.res 1
  have s1 := blk_frozen HT.out.res 1
  have r2 : w0.cell? ⟨w.heap.size + 1 + 1, 2, none⟩ = some (.string ⟨#[]⟩) := blk_cell HT.out.res 2
  have s2 := blk_frozen HT.out.res 2
  have r3 : w0.cell? ⟨w.heap.size + 1 + 1, 3, none⟩ = some (.slice none 0 0) := blk_cell HT.out.res 3
  have s3 := blk_frozen HT.out.res 3
  go_wp2_with fail
  have H4 := dat_put HT.out.res (0) (0) (⟨#[]⟩)
  have HB4 := Lib.hid (below_putB HT.out.below (show w.heap.size ≤ w.heap.size + 1 + 1 by omega) (0) (0) (⟨#[]⟩))
  have q0 := blk_cell H4 0
  have q1 := blk_cell H4 1
  have q2 := blk_cell H4 2
  have q3 := blk_cell H4 3
  clear r0 r1 r2 r3 s0 s1 s2 s3
  (try simp only [Exit.inBlock, Exit.then])
  refine bodyPost_ret (by simp [results, Tryz.results45, go_sem, q0, q1, q2, q3]; rfl) rfl ?_
  exact ⟨rfl, HB4.out⟩
set_option maxRecDepth 100000 in
set_option maxHeartbeats 4000000 in
theorem rtext_32 (d e : Nd) (v : Value) (w : World) : Calls Tryz.prog 45 #[.int .i64 32, v, d.val, e.val] w (Giv (.tuple #[datV 2 (if (d.t.toList == e.t.toList) = true then 1 else 0) ⟨#[]⟩, .int .i64 0]) w) := by
  have hcT := Lib.hid (fun w => rtruth_of (d.t.toList == e.t.toList) w)
  obtain ⟨N, hN⟩ : ∃ N : Int, (if (d.t.toList == e.t.toList) = true then 1 else 0) = N := ⟨_, rfl⟩
  rw [hN] at hcT ⊢
  clear hN
  go_enter Tryz.func45, Tryz.ntmps45
  go_upto_region 1 with (fail)
  have HT := Lib.hid (tyI_start w d e)
  generalize ((w.alloc (.cells #[.int .i64 d.k, .int .i64 d.n, .string d.t, .slice d.a d.m d.c] 26)).alloc (.cells #[.int .i64 e.k, .int .i64 e.n, .string e.t, .slice e.a e.m e.c] 26)).alloc (.cells #[.int .i64 0, .int .i64 0, .string ⟨#[]⟩, .slice none 0 0] 26) = w0 at HT ⊢
  have p0 : w0.cell? ⟨w.heap.size, 0, none⟩ = some (.int .i64 d.k) := blk_cell HT.out.one 0
  have p1 : w0.cell? ⟨w.heap.size, 1, none⟩ = some (.int .i64 d.n) := blk_cell HT.out.one 1
  have p2 : w0.cell? ⟨w.heap.size, 2, none⟩ = some (.string d.t) := blk_cell HT.out.one 2
  have p3 : w0.cell? ⟨w.heap.size, 3, none⟩ = some (.slice d.a d.m d.c) := blk_cell HT.out.one 3
  have l0 : w0.cell? ⟨w.heap.size + 1, 0, none⟩ = some (.int .i64 e.k) := blk_cell HT.out.last 0
  have l1 : w0.cell? ⟨w.heap.size + 1, 1, none⟩ = some (.int .i64 e.n) := blk_cell HT.out.last 1
  have l2 : w0.cell? ⟨w.heap.size + 1, 2, none⟩ = some (.string e.t) := blk_cell HT.out.last 2
  have l3 : w0.cell? ⟨w.heap.size + 1, 3, none⟩ = some (.slice e.a e.m e.c) := blk_cell HT.out.last 3
  have r0 : w0.cell? ⟨w.heap.size + 1 + 1, 0, none⟩ = some (.int .i64 0) := blk_cell HT.out.res 0
  have s0 := blk_frozen HT.out.res 0
  have r1 : w0.cell? ⟨w.heap.size + 1 + 1, 1, none⟩ = some (.int .i64 0) := blk_cell HT.out.res 1
  have s1 := blk_frozen HT.out.res 1
  have r2 : w0.cell? ⟨w.heap.size + 1 + 1, 2, none⟩ = some (.string ⟨#[]⟩) := blk_cell HT.out.res 2
  have s2 := blk_frozen HT.out.res 2
  have r3 : w0.cell? ⟨w.heap.size + 1 + 1, 3, none⟩ = some (.slice none 0 0) := blk_cell HT.out.res 3
  have s3 := blk_frozen HT.out.res 3
  go_wp2_with fail
  refine (hcT.out _).mono ?_
  rintro e' w2 ⟨rfl, hb2⟩
  have HT2 := Lib.hid (HT.out.step hb2)
  clear r0 r1 r2 r3 s0 s1 s2 s3 hb2
  have r0 : w2.cell? ⟨w.heap.size + 1 + 1, 0, none⟩ = some (.int .i64 0) := blk_cell HT2.out.res 0
  have s0 := blk_frozen HT2.out.res 0
  have r1 : w2.cell? ⟨w.heap.size + 1 + 1, 1, none⟩ = some (.int .i64 0) := blk_cell HT2.out.res 1
  have s1 := blk_frozen HT2.out.res 1
  have r2 : w2.cell? ⟨w.heap.size + 1 + 1, 2, none⟩ = some (.string ⟨#[]⟩) := blk_cell HT2.out.res 2
  have s2 := blk_frozen HT2.out.res 2
  have r3 : w2.cell? ⟨w.heap.size + 1 + 1, 3, none⟩ = some (.slice none 0 0) := blk_cell HT2.out.res 3
  have s3 := blk_frozen HT2.out.res 3
  go_wp2_with fail
  have H4 := dat_put HT2.out.res (2) (N) (⟨#[]⟩)
  have HB4 := Lib.hid (below_putB HT2.out.below (show w.heap.size ≤ w.heap.size + 1 + 1 by omega) (2) (N) (⟨#[]⟩))
  have q0 := blk_cell H4 0
  have q1 := blk_cell H4 1
  have q2 := blk_cell H4 2
  have q3 := blk_cell H4 3
  clear r0 r1 r2 r3 s0 s1 s2 s3
  (try simp only [Exit.inBlock, Exit.then])
  refine bodyPost_ret (by simp [results, Tryz.results45, go_sem, q0, q1, q2, q3]; rfl) rfl ?_
  exact ⟨rfl, HB4.out⟩
set_option maxRecDepth 100000 in
set_option maxHeartbeats 4000000 in
theorem rtext_33a (d e f : Nd) (v : Value) (w : World) (hA : ArgsAt [d, e, f] v w) (h0 : e.n < 0) : Calls Tryz.prog 45 #[.int .i64 33, v, d.val, f.val] w (Giv (.tuple #[datV 0 0 ⟨#[]⟩, .int .i64 13]) w) := by
  have y0 : decide (e.n < 0) = true := decide_eq_true (by omega)
  obtain ⟨A, cap, rfl, hc⟩ := hA.row
  obtain ⟨g, o, rfl, hg, b0, b1, b2, b3⟩ := hc 1 (by simp)
  replace b1 : w.cell? ⟨g, o + 5, none⟩ = some (.int .i64 e.n) := b1
  have hlen : [d, e, f].length = 3 := rfl
  rw [hlen]
  clear hc hA hlen b0 b2 b3
  have HARG := Lib.hid (fun (w2 : World) (hb : Below w.heap.size w w2) (i : Nat) => hb.cell (p := ⟨g, i, none⟩) hg)
  go_enter Tryz.func45, Tryz.ntmps45
  go_upto_region 1 with (fail)
  have HT := Lib.hid (tyI_start w d f)
  generalize ((w.alloc (.cells #[.int .i64 d.k, .int .i64 d.n, .string d.t, .slice d.a d.m d.c] 26)).alloc (.cells #[.int .i64 f.k, .int .i64 f.n, .string f.t, .slice f.a f.m f.c] 26)).alloc (.cells #[.int .i64 0, .int .i64 0, .string ⟨#[]⟩, .slice none 0 0] 26) = w0 at HT ⊢
  replace b1 := (HARG.out w0 HT.out.below (o + 5)).trans b1
  have p0 : w0.cell? ⟨w.heap.size, 0, none⟩ = some (.int .i64 d.k) := blk_cell HT.out.one 0
  have p1 : w0.cell? ⟨w.heap.size, 1, none⟩ = some (.int .i64 d.n) := blk_cell HT.out.one 1
  have p2 : w0.cell? ⟨w.heap.size, 2, none⟩ = some (.string d.t) := blk_cell HT.out.one 2
  have p3 : w0.cell? ⟨w.heap.size, 3, none⟩ = some (.slice d.a d.m d.c) := blk_cell HT.out.one 3
  have l0 : w0.cell? ⟨w.heap.size + 1, 0, none⟩ = some (.int .i64 f.k) := blk_cell HT.out.last 0
  have l1 : w0.cell? ⟨w.heap.size + 1, 1, none⟩ = some (.int .i64 f.n) := blk_cell HT.out.last 1
  have l2 : w0.cell? ⟨w.heap.size + 1, 2, none⟩ = some (.string f.t) := blk_cell HT.out.last 2
  have l3 : w0.cell? ⟨w.heap.size + 1, 3, none⟩ = some (.slice f.a f.m f.c) := blk_cell HT.out.last 3
  have r0 : w0.cell? ⟨w.heap.size + 1 + 1, 0, none⟩ = some (.int .i64 0) := blk_cell HT.out.res 0
  have s0 := blk_frozen HT.out.res 0
  have r1 : w0.cell? ⟨w.heap.size + 1 + 1, 1, none⟩ = some (.int .i64 0) := blk_cell HT.out.res 1
  have s1 := blk_frozen HT.out.res 1
  have r2 : w0.cell? ⟨w.heap.size + 1 + 1, 2, none⟩ = some (.string ⟨#[]⟩) := blk_cell HT.out.res 2
  have s2 := blk_frozen HT.out.res 2
  have r3 : w0.cell? ⟨w.heap.size + 1 + 1, 3, none⟩ = some (.slice none 0 0) := blk_cell HT.out.res 3
  have s3 := blk_frozen HT.out.res 3
  go_upto_region 15 with (fail)
  go_quiet (fail)
  go_wp2_with fail
  have HT2 := Lib.hid (HT.out.step (below_drewN (Below.refl _ _) nq))
  have H4 := dat_put HT2.out.res (0) (0) (⟨#[]⟩)
  have HB4 := Lib.hid (below_putB HT2.out.below (show w.heap.size ≤ w.heap.size + 1 + 1 by omega) (0) (0) (⟨#[]⟩))
  have q0 := blk_cell H4 0
  have q1 := blk_cell H4 1
  have q2 := blk_cell H4 2
  have q3 := blk_cell H4 3
  clear r0 r1 r2 r3 s0 s1 s2 s3
  (try simp only [Exit.inBlock, Exit.then])
  refine bodyPost_ret (by simp [results, Tryz.results45, go_sem, q0, q1, q2, q3]; rfl) rfl ?_
  exact ⟨rfl, HB4.out⟩
set_option maxRecDepth 100000 in
set_option maxHeartbeats 4000000 in
theorem rtext_33b (d e f : Nd) (v : Value) (w : World) (hA : ArgsAt [d, e, f] v w) (h0 : 0 ≤ e.n) (h1 : f.n < e.n) : Calls Tryz.prog 45 #[.int .i64 33, v, d.val, f.val] w (Giv (.tuple #[datV 0 0 ⟨#[]⟩, .int .i64 13]) w) := by
  have y0 : decide (e.n < 0) = false := decide_eq_false (by omega)
  have y1 : decide (f.n < e.n) = true := decide_eq_true (by omega)
  obtain ⟨A, cap, rfl, hc⟩ := hA.row
  obtain ⟨g, o, rfl, hg, b0, b1, b2, b3⟩ := hc 1 (by simp)
  replace b1 : w.cell? ⟨g, o + 5, none⟩ = some (.int .i64 e.n) := b1
  have hlen : [d, e, f].length = 3 := rfl
  rw [hlen]
  clear hc hA hlen b0 b2 b3
  have HARG := Lib.hid (fun (w2 : World) (hb : Below w.heap.size w w2) (i : Nat) => hb.cell (p := ⟨g, i, none⟩) hg)
  go_enter Tryz.func45, Tryz.ntmps45
  go_upto_region 1 with (fail)
  have HT := Lib.hid (tyI_start w d f)
  generalize ((w.alloc (.cells #[.int .i64 d.k, .int .i64 d.n, .string d.t, .slice d.a d.m d.c] 26)).alloc (.cells #[.int .i64 f.k, .int .i64 f.n, .string f.t, .slice f.a f.m f.c] 26)).alloc (.cells #[.int .i64 0, .int .i64 0, .string ⟨#[]⟩, .slice none 0 0] 26) = w0 at HT ⊢
  replace b1 := (HARG.out w0 HT.out.below (o + 5)).trans b1
  have p0 : w0.cell? ⟨w.heap.size, 0, none⟩ = some (.int .i64 d.k) := blk_cell HT.out.one 0
  have p1 : w0.cell? ⟨w.heap.size, 1, none⟩ = some (.int .i64 d.n) := blk_cell HT.out.one 1
  have p2 : w0.cell? ⟨w.heap.size, 2, none⟩ = some (.string d.t) := blk_cell HT.out.one 2
  have p3 : w0.cell? ⟨w.heap.size, 3, none⟩ = some (.slice d.a d.m d.c) := blk_cell HT.out.one 3
  have l0 : w0.cell? ⟨w.heap.size + 1, 0, none⟩ = some (.int .i64 f.k) := blk_cell HT.out.last 0
  have l1 : w0.cell? ⟨w.heap.size + 1, 1, none⟩ = some (.int .i64 f.n) := blk_cell HT.out.last 1
  have l2 : w0.cell? ⟨w.heap.size + 1, 2, none⟩ = some (.string f.t) := blk_cell HT.out.last 2
  have l3 : w0.cell? ⟨w.heap.size + 1, 3, none⟩ = some (.slice f.a f.m f.c) := blk_cell HT.out.last 3
  have r0 : w0.cell? ⟨w.heap.size + 1 + 1, 0, none⟩ = some (.int .i64 0) := blk_cell HT.out.res 0
  have s0 := blk_frozen HT.out.res 0
  have r1 : w0.cell? ⟨w.heap.size + 1 + 1, 1, none⟩ = some (.int .i64 0) := blk_cell HT.out.res 1
  have s1 := blk_frozen HT.out.res 1
  have r2 : w0.cell? ⟨w.heap.size + 1 + 1, 2, none⟩ = some (.string ⟨#[]⟩) := blk_cell HT.out.res 2
  have s2 := blk_frozen HT.out.res 2
  have r3 : w0.cell? ⟨w.heap.size + 1 + 1, 3, none⟩ = some (.slice none 0 0) := blk_cell HT.out.res 3
  have s3 := blk_frozen HT.out.res 3
  go_upto_region 15 with (fail)
  go_quiet (fail)
  go_wp2_with fail
  have HT2 := Lib.hid (HT.out.step (below_drewN (Below.refl _ _) nq))
  have H4 := dat_put HT2.out.res (0) (0) (⟨#[]⟩)
  have HB4 := Lib.hid (below_putB HT2.out.below (show w.heap.size ≤ w.heap.size + 1 + 1 by omega) (0) (0) (⟨#[]⟩))
  have q0 := blk_cell H4 0
  have q1 := blk_cell H4 1
  have q2 := blk_cell H4 2
  have q3 := blk_cell H4 3
  clear r0 r1 r2 r3 s0 s1 s2 s3
  (try simp only [Exit.inBlock, Exit.then])
  refine bodyPost_ret (by simp [results, Tryz.results45, go_sem, q0, q1, q2, q3]; rfl) rfl ?_
  exact ⟨rfl, HB4.out⟩
set_option maxRecDepth 100000 in
set_option maxHeartbeats 4000000 in
theorem rtext_33c (d e f : Nd) (v : Value) (w : World) (hA : ArgsAt [d, e, f] v w) (h0 : 0 ≤ e.n) (h1 : e.n ≤ f.n) (h2 : (d.t.size : Int) < f.n) : Calls Tryz.prog 45 #[.int .i64 33, v, d.val, f.val] w (Giv (.tuple #[datV 0 0 ⟨#[]⟩, .int .i64 13]) w) := by
  have y0 : decide (e.n < 0) = false := decide_eq_false (by omega)
  have y1 : decide (f.n < e.n) = false := decide_eq_false (by omega)
  have y2 : decide ((d.t.size : Int) < f.n) = true := decide_eq_true (by omega)
  obtain ⟨A, cap, rfl, hc⟩ := hA.row
  obtain ⟨g, o, rfl, hg, b0, b1, b2, b3⟩ := hc 1 (by simp)
  replace b1 : w.cell? ⟨g, o + 5, none⟩ = some (.int .i64 e.n) := b1
  have hlen : [d, e, f].length = 3 := rfl
  rw [hlen]
  clear hc hA hlen b0 b2 b3
  have HARG := Lib.hid (fun (w2 : World) (hb : Below w.heap.size w w2) (i : Nat) => hb.cell (p := ⟨g, i, none⟩) hg)
  go_enter Tryz.func45, Tryz.ntmps45
  go_upto_region 1 with (fail)
  have HT := Lib.hid (tyI_start w d f)
  generalize ((w.alloc (.cells #[.int .i64 d.k, .int .i64 d.n, .string d.t, .slice d.a d.m d.c] 26)).alloc (.cells #[.int .i64 f.k, .int .i64 f.n, .string f.t, .slice f.a f.m f.c] 26)).alloc (.cells #[.int .i64 0, .int .i64 0, .string ⟨#[]⟩, .slice none 0 0] 26) = w0 at HT ⊢
  replace b1 := (HARG.out w0 HT.out.below (o + 5)).trans b1
  have p0 : w0.cell? ⟨w.heap.size, 0, none⟩ = some (.int .i64 d.k) := blk_cell HT.out.one 0
  have p1 : w0.cell? ⟨w.heap.size, 1, none⟩ = some (.int .i64 d.n) := blk_cell HT.out.one 1
  have p2 : w0.cell? ⟨w.heap.size, 2, none⟩ = some (.string d.t) := blk_cell HT.out.one 2
  have p3 : w0.cell? ⟨w.heap.size, 3, none⟩ = some (.slice d.a d.m d.c) := blk_cell HT.out.one 3
  have l0 : w0.cell? ⟨w.heap.size + 1, 0, none⟩ = some (.int .i64 f.k) := blk_cell HT.out.last 0
  have l1 : w0.cell? ⟨w.heap.size + 1, 1, none⟩ = some (.int .i64 f.n) := blk_cell HT.out.last 1
  have l2 : w0.cell? ⟨w.heap.size + 1, 2, none⟩ = some (.string f.t) := blk_cell HT.out.last 2
  have l3 : w0.cell? ⟨w.heap.size + 1, 3, none⟩ = some (.slice f.a f.m f.c) := blk_cell HT.out.last 3
  have r0 : w0.cell? ⟨w.heap.size + 1 + 1, 0, none⟩ = some (.int .i64 0) := blk_cell HT.out.res 0
  have s0 := blk_frozen HT.out.res 0
  have r1 : w0.cell? ⟨w.heap.size + 1 + 1, 1, none⟩ = some (.int .i64 0) := blk_cell HT.out.res 1
  have s1 := blk_frozen HT.out.res 1
  have r2 : w0.cell? ⟨w.heap.size + 1 + 1, 2, none⟩ = some (.string ⟨#[]⟩) := blk_cell HT.out.res 2
  have s2 := blk_frozen HT.out.res 2
  have r3 : w0.cell? ⟨w.heap.size + 1 + 1, 3, none⟩ = some (.slice none 0 0) := blk_cell HT.out.res 3
  have s3 := blk_frozen HT.out.res 3
  go_upto_region 15 with (fail)
  go_quiet (fail)
  go_wp2_with fail
  have HT2 := Lib.hid (HT.out.step (below_drewN (Below.refl _ _) nq))
  have H4 := dat_put HT2.out.res (0) (0) (⟨#[]⟩)
  have HB4 := Lib.hid (below_putB HT2.out.below (show w.heap.size ≤ w.heap.size + 1 + 1 by omega) (0) (0) (⟨#[]⟩))
  have q0 := blk_cell H4 0
  have q1 := blk_cell H4 1
  have q2 := blk_cell H4 2
  have q3 := blk_cell H4 3
  clear r0 r1 r2 r3 s0 s1 s2 s3
  (try simp only [Exit.inBlock, Exit.then])
  refine bodyPost_ret (by simp [results, Tryz.results45, go_sem, q0, q1, q2, q3]; rfl) rfl ?_
  exact ⟨rfl, HB4.out⟩
set_option maxRecDepth 100000 in
set_option maxHeartbeats 4000000 in
theorem rtext_33 (d e f : Nd) (v : Value) (w : World) (hA : ArgsAt [d, e, f] v w) (h0 : 0 ≤ e.n) (h1 : e.n ≤ f.n) (h2 : f.n ≤ d.t.size) : Calls Tryz.prog 45 #[.int .i64 33, v, d.val, f.val] w (Giv (.tuple #[datV 4 0 (d.t.extract e.n.toNat f.n.toNat), .int .i64 0]) w) := by
  have y0 : decide (e.n < 0) = false := decide_eq_false (by omega)
  have y1 : decide (f.n < e.n) = false := decide_eq_false (by omega)
  have y2 : decide ((d.t.size : Int) < f.n) = false := decide_eq_false (by omega)
  have hsl := fun w => run_slice_string (P := Tryz.prog) (w := w) 9 d.t .i64 .i64 e.n f.n Tryz.underlying9 h0 h1 h2
  obtain ⟨A, cap, rfl, hc⟩ := hA.row
  obtain ⟨g, o, rfl, hg, b0, b1, b2, b3⟩ := hc 1 (by simp)
  replace b1 : w.cell? ⟨g, o + 5, none⟩ = some (.int .i64 e.n) := b1
  have hlen : [d, e, f].length = 3 := rfl
  rw [hlen]
  clear hc hA hlen b0 b2 b3
  have HARG := Lib.hid (fun (w2 : World) (hb : Below w.heap.size w w2) (i : Nat) => hb.cell (p := ⟨g, i, none⟩) hg)
  go_enter Tryz.func45, Tryz.ntmps45
  go_upto_region 1 with (fail)
  have HT := Lib.hid (tyI_start w d f)
  generalize ((w.alloc (.cells #[.int .i64 d.k, .int .i64 d.n, .string d.t, .slice d.a d.m d.c] 26)).alloc (.cells #[.int .i64 f.k, .int .i64 f.n, .string f.t, .slice f.a f.m f.c] 26)).alloc (.cells #[.int .i64 0, .int .i64 0, .string ⟨#[]⟩, .slice none 0 0] 26) = w0 at HT ⊢
  replace b1 := (HARG.out w0 HT.out.below (o + 5)).trans b1
  have p0 : w0.cell? ⟨w.heap.size, 0, none⟩ = some (.int .i64 d.k) := blk_cell HT.out.one 0
  have p1 : w0.cell? ⟨w.heap.size, 1, none⟩ = some (.int .i64 d.n) := blk_cell HT.out.one 1
  have p2 : w0.cell? ⟨w.heap.size, 2, none⟩ = some (.string d.t) := blk_cell HT.out.one 2
  have p3 : w0.cell? ⟨w.heap.size, 3, none⟩ = some (.slice d.a d.m d.c) := blk_cell HT.out.one 3
  have l0 : w0.cell? ⟨w.heap.size + 1, 0, none⟩ = some (.int .i64 f.k) := blk_cell HT.out.last 0
  have l1 : w0.cell? ⟨w.heap.size + 1, 1, none⟩ = some (.int .i64 f.n) := blk_cell HT.out.last 1
  have l2 : w0.cell? ⟨w.heap.size + 1, 2, none⟩ = some (.string f.t) := blk_cell HT.out.last 2
  have l3 : w0.cell? ⟨w.heap.size + 1, 3, none⟩ = some (.slice f.a f.m f.c) := blk_cell HT.out.last 3
  have r0 : w0.cell? ⟨w.heap.size + 1 + 1, 0, none⟩ = some (.int .i64 0) := blk_cell HT.out.res 0
  have s0 := blk_frozen HT.out.res 0
  have r1 : w0.cell? ⟨w.heap.size + 1 + 1, 1, none⟩ = some (.int .i64 0) := blk_cell HT.out.res 1
  have s1 := blk_frozen HT.out.res 1
  have r2 : w0.cell? ⟨w.heap.size + 1 + 1, 2, none⟩ = some (.string ⟨#[]⟩) := blk_cell HT.out.res 2
  have s2 := blk_frozen HT.out.res 2
  have r3 : w0.cell? ⟨w.heap.size + 1 + 1, 3, none⟩ = some (.slice none 0 0) := blk_cell HT.out.res 3
  have s3 := blk_frozen HT.out.res 3
  go_upto_region 15 with (fail)
  go_quiet (fail)
  have HT1 := Lib.hid (HT.out.step (below_drewN (Below.refl _ _) nq))
  replace b1 : (w0.drewN nq).cell? ⟨g, o + 5, none⟩ = some (.int .i64 e.n) := b1
  have hlg : g < (w0.drewN nq).heap.size := Nat.lt_of_lt_of_le hg HT1.out.below.size
  clear p0 p1 p2 p3 l0 l1 l2 l3 r0 r1 r2 r3 s0 s1 s2 s3
  generalize w0.drewN nq = w1 at HT1 b1 hlg ⊢
  have p0 : w1.cell? ⟨w.heap.size, 0, none⟩ = some (.int .i64 d.k) := blk_cell HT1.out.one 0
  have p1 : w1.cell? ⟨w.heap.size, 1, none⟩ = some (.int .i64 d.n) := blk_cell HT1.out.one 1
  have p2 : w1.cell? ⟨w.heap.size, 2, none⟩ = some (.string d.t) := blk_cell HT1.out.one 2
  have p3 : w1.cell? ⟨w.heap.size, 3, none⟩ = some (.slice d.a d.m d.c) := blk_cell HT1.out.one 3
  have l0 : w1.cell? ⟨w.heap.size + 1, 0, none⟩ = some (.int .i64 f.k) := blk_cell HT1.out.last 0
  have l1 : w1.cell? ⟨w.heap.size + 1, 1, none⟩ = some (.int .i64 f.n) := blk_cell HT1.out.last 1
  have l2 : w1.cell? ⟨w.heap.size + 1, 2, none⟩ = some (.string f.t) := blk_cell HT1.out.last 2
  have l3 : w1.cell? ⟨w.heap.size + 1, 3, none⟩ = some (.slice f.a f.m f.c) := blk_cell HT1.out.last 3
  have r0 : w1.cell? ⟨w.heap.size + 1 + 1, 0, none⟩ = some (.int .i64 0) := blk_cell HT1.out.res 0
  have s0 := blk_frozen HT1.out.res 0
  have r1 : w1.cell? ⟨w.heap.size + 1 + 1, 1, none⟩ = some (.int .i64 0) := blk_cell HT1.out.res 1
  have s1 := blk_frozen HT1.out.res 1
  have r2 : w1.cell? ⟨w.heap.size + 1 + 1, 2, none⟩ = some (.string ⟨#[]⟩) := blk_cell HT1.out.res 2
  have s2 := blk_frozen HT1.out.res 2
  have r3 : w1.cell? ⟨w.heap.size + 1 + 1, 3, none⟩ = some (.slice none 0 0) := blk_cell HT1.out.res 3
  have s3 := blk_frozen HT1.out.res 3
  have hlr : w.heap.size + 1 + 1 < w1.heap.size := blk_lt HT1.out.res
  go_wp2_with fail
  go_region_held3 (fun w' => w'.cell? ⟨g, o + 5, none⟩ = some (.int .i64 e.n) ∧ w'.cell? ⟨w.heap.size + 1, 1, none⟩ = some (.int .i64 f.n) ∧ w'.cell? ⟨w.heap.size, 2, none⟩ = some (.string d.t))
    ((repeat (first | (with_reducible assumption) | (with_reducible refine And.intro ?_ ?_) | (with_reducible refine keep_al ?_) | (with_reducible refine keep_dr ?_) | (with_reducible refine keep_st ?_ ?_) | (intro eqb; simp at eqb <;> omega))))
    (fail)
  all_goals go_wp2_with fail
  all_goals (
    have H4 := dat_put HT1.out.res (4) (0) ((d.t.extract e.n.toNat f.n.toNat))
    have HB4 := Lib.hid (below_putB HT1.out.below (show w.heap.size ≤ w.heap.size + 1 + 1 by omega) (4) (0) ((d.t.extract e.n.toNat f.n.toNat)))
    have q0 := blk_cell H4 0
    have q1 := blk_cell H4 1
    have q2 := blk_cell H4 2
    have q3 := blk_cell H4 3
    clear r0 r1 r2 r3 s0 s1 s2 s3
    (try simp only [Exit.inBlock, Exit.then])
    refine bodyPost_ret (by simp [results, Tryz.results45, go_sem, q0, q1, q2, q3]; rfl) rfl ?_
    exact ⟨rfl, below_drew HB4.out⟩)
set_option maxRecDepth 100000 in
set_option maxHeartbeats 4000000 in
theorem rtext_34 (d : Nd) (v : Value) (w : World) (h0 : -9223372036854775808 ≤ d.n) (h1 : d.n ≤ 9223372036854775807) : Calls Tryz.prog 45 #[.int .i64 34, v, d.val, d.val] w (Giv (.tuple #[datV 4 0 ⟨(Lib.itoa d.n).toArray⟩, .int .i64 0]) w) := by

  go_enter Tryz.func45, Tryz.ntmps45
  go_upto_region 1 with (fail)
  have HT := Lib.hid (tyI_start w d d)
  generalize ((w.alloc (.cells #[.int .i64 d.k, .int .i64 d.n, .string d.t, .slice d.a d.m d.c] 26)).alloc (.cells #[.int .i64 d.k, .int .i64 d.n, .string d.t, .slice d.a d.m d.c] 26)).alloc (.cells #[.int .i64 0, .int .i64 0, .string ⟨#[]⟩, .slice none 0 0] 26) = w0 at HT ⊢
  have p0 : w0.cell? ⟨w.heap.size, 0, none⟩ = some (.int .i64 d.k) := blk_cell HT.out.one 0
  have p1 : w0.cell? ⟨w.heap.size, 1, none⟩ = some (.int .i64 d.n) := blk_cell HT.out.one 1
  have p2 : w0.cell? ⟨w.heap.size, 2, none⟩ = some (.string d.t) := blk_cell HT.out.one 2
  have p3 : w0.cell? ⟨w.heap.size, 3, none⟩ = some (.slice d.a d.m d.c) := blk_cell HT.out.one 3
  have l0 : w0.cell? ⟨w.heap.size + 1, 0, none⟩ = some (.int .i64 d.k) := blk_cell HT.out.last 0
  have l1 : w0.cell? ⟨w.heap.size + 1, 1, none⟩ = some (.int .i64 d.n) := blk_cell HT.out.last 1
  have l2 : w0.cell? ⟨w.heap.size + 1, 2, none⟩ = some (.string d.t) := blk_cell HT.out.last 2
  have l3 : w0.cell? ⟨w.heap.size + 1, 3, none⟩ = some (.slice d.a d.m d.c) := blk_cell HT.out.last 3
  have r0 : w0.cell? ⟨w.heap.size + 1 + 1, 0, none⟩ = some (.int .i64 0) := blk_cell HT.out.res 0
  have s0 := blk_frozen HT.out.res 0
  have r1 : w0.cell? ⟨w.heap.size + 1 + 1, 1, none⟩ = some (.int .i64 0) := blk_cell HT.out.res 1
  have s1 := blk_frozen HT.out.res 1
  have r2 : w0.cell? ⟨w.heap.size + 1 + 1, 2, none⟩ = some (.string ⟨#[]⟩) := blk_cell HT.out.res 2
  have s2 := blk_frozen HT.out.res 2
  have r3 : w0.cell? ⟨w.heap.size + 1 + 1, 3, none⟩ = some (.slice none 0 0) := blk_cell HT.out.res 3
  have s3 := blk_frozen HT.out.res 3
  go_wp2_with fail
  refine (reftext_any d.n _ h0 h1).mono ?_
  rintro e' w2 ⟨rfl, hb2⟩
  have HT2 := Lib.hid (HT.out.step hb2)
  clear r0 r1 r2 r3 s0 s1 s2 s3 hb2
  have r0 : w2.cell? ⟨w.heap.size + 1 + 1, 0, none⟩ = some (.int .i64 0) := blk_cell HT2.out.res 0
  have s0 := blk_frozen HT2.out.res 0
  have r1 : w2.cell? ⟨w.heap.size + 1 + 1, 1, none⟩ = some (.int .i64 0) := blk_cell HT2.out.res 1
  have s1 := blk_frozen HT2.out.res 1
  have r2 : w2.cell? ⟨w.heap.size + 1 + 1, 2, none⟩ = some (.string ⟨#[]⟩) := blk_cell HT2.out.res 2
  have s2 := blk_frozen HT2.out.res 2
  have r3 : w2.cell? ⟨w.heap.size + 1 + 1, 3, none⟩ = some (.slice none 0 0) := blk_cell HT2.out.res 3
  have s3 := blk_frozen HT2.out.res 3
  go_wp2_with fail
  have H4 := dat_put HT2.out.res (4) (0) (⟨(Lib.itoa d.n).toArray⟩)
  have HB4 := Lib.hid (below_putB HT2.out.below (show w.heap.size ≤ w.heap.size + 1 + 1 by omega) (4) (0) (⟨(Lib.itoa d.n).toArray⟩))
  have q0 := blk_cell H4 0
  have q1 := blk_cell H4 1
  have q2 := blk_cell H4 2
  have q3 := blk_cell H4 3
  clear r0 r1 r2 r3 s0 s1 s2 s3
  (try simp only [Exit.inBlock, Exit.then])
  refine bodyPost_ret (by simp [results, Tryz.results45, go_sem, q0, q1, q2, q3]; rfl) rfl ?_
  exact ⟨rfl, HB4.out⟩
set_option maxRecDepth 100000 in
set_option maxHeartbeats 4000000 in
theorem rtext_35 (d : Nd) (v : Value) (w : World) (n : Int) (hp : parseL d.t.data.toList = (n, 0)) : Calls Tryz.prog 45 #[.int .i64 35, v, d.val, d.val] w (Giv (.tuple #[datV 1 n ⟨#[]⟩, .int .i64 0]) w) := by
  have HPR := Lib.hid hp
  clear hp
  go_enter Tryz.func45, Tryz.ntmps45
  go_upto_region 1 with (fail)
  have HT := Lib.hid (tyI_start w d d)
  generalize ((w.alloc (.cells #[.int .i64 d.k, .int .i64 d.n, .string d.t, .slice d.a d.m d.c] 26)).alloc (.cells #[.int .i64 d.k, .int .i64 d.n, .string d.t, .slice d.a d.m d.c] 26)).alloc (.cells #[.int .i64 0, .int .i64 0, .string ⟨#[]⟩, .slice none 0 0] 26) = w0 at HT ⊢
  have p0 : w0.cell? ⟨w.heap.size, 0, none⟩ = some (.int .i64 d.k) := blk_cell HT.out.one 0
  have p1 : w0.cell? ⟨w.heap.size, 1, none⟩ = some (.int .i64 d.n) := blk_cell HT.out.one 1
  have p2 : w0.cell? ⟨w.heap.size, 2, none⟩ = some (.string d.t) := blk_cell HT.out.one 2
  have p3 : w0.cell? ⟨w.heap.size, 3, none⟩ = some (.slice d.a d.m d.c) := blk_cell HT.out.one 3
  have l0 : w0.cell? ⟨w.heap.size + 1, 0, none⟩ = some (.int .i64 d.k) := blk_cell HT.out.last 0
  have l1 : w0.cell? ⟨w.heap.size + 1, 1, none⟩ = some (.int .i64 d.n) := blk_cell HT.out.last 1
  have l2 : w0.cell? ⟨w.heap.size + 1, 2, none⟩ = some (.string d.t) := blk_cell HT.out.last 2
  have l3 : w0.cell? ⟨w.heap.size + 1, 3, none⟩ = some (.slice d.a d.m d.c) := blk_cell HT.out.last 3
  have r0 : w0.cell? ⟨w.heap.size + 1 + 1, 0, none⟩ = some (.int .i64 0) := blk_cell HT.out.res 0
  have s0 := blk_frozen HT.out.res 0
  have r1 : w0.cell? ⟨w.heap.size + 1 + 1, 1, none⟩ = some (.int .i64 0) := blk_cell HT.out.res 1
  have s1 := blk_frozen HT.out.res 1
  have r2 : w0.cell? ⟨w.heap.size + 1 + 1, 2, none⟩ = some (.string ⟨#[]⟩) := blk_cell HT.out.res 2
  have s2 := blk_frozen HT.out.res 2
  have r3 : w0.cell? ⟨w.heap.size + 1 + 1, 3, none⟩ = some (.slice none 0 0) := blk_cell HT.out.res 3
  have s3 := blk_frozen HT.out.res 3
  go_wp2_with fail
  refine (refparse_any d.t _).mono ?_
  rintro e' w1 ⟨rfl, hb1⟩
  have HT1 := Lib.hid (HT.out.step hb1)
  clear r0 r1 r2 r3 s0 s1 s2 s3 hb1
  rw [HPR.out]
  unfold refV
  go_wp2_with fail
  refine (rnum_ok _ _).mono ?_
  rintro e' w2 ⟨rfl, hb2⟩
  have HT2 := Lib.hid (HT1.out.step hb2)
  clear hb2
  have r0 : w2.cell? ⟨w.heap.size + 1 + 1, 0, none⟩ = some (.int .i64 0) := blk_cell HT2.out.res 0
  have s0 := blk_frozen HT2.out.res 0
  have r1 : w2.cell? ⟨w.heap.size + 1 + 1, 1, none⟩ = some (.int .i64 0) := blk_cell HT2.out.res 1
  have s1 := blk_frozen HT2.out.res 1
  have r2 : w2.cell? ⟨w.heap.size + 1 + 1, 2, none⟩ = some (.string ⟨#[]⟩) := blk_cell HT2.out.res 2
  have s2 := blk_frozen HT2.out.res 2
  have r3 : w2.cell? ⟨w.heap.size + 1 + 1, 3, none⟩ = some (.slice none 0 0) := blk_cell HT2.out.res 3
  have s3 := blk_frozen HT2.out.res 3
  go_wp2_with fail
  have H4 := dat_put HT2.out.res (1) (n) (⟨#[]⟩)
  have HB4 := Lib.hid (below_putB HT2.out.below (show w.heap.size ≤ w.heap.size + 1 + 1 by omega) (1) (n) (⟨#[]⟩))
  have q0 := blk_cell H4 0
  have q1 := blk_cell H4 1
  have q2 := blk_cell H4 2
  have q3 := blk_cell H4 3
  clear r0 r1 r2 r3 s0 s1 s2 s3
  (try simp only [Exit.inBlock, Exit.then])
  refine bodyPost_ret (by simp [results, Tryz.results45, go_sem, q0, q1, q2, q3]; rfl) rfl ?_
  exact ⟨rfl, HB4.out⟩
set_option maxRecDepth 100000 in
set_option maxHeartbeats 4000000 in
theorem rtext_35a (d : Nd) (v : Value) (w : World) (k : Int) (hk : k ≠ 0) (m : Int) (hp : parseL d.t.data.toList = (m, k)) : Calls Tryz.prog 45 #[.int .i64 35, v, d.val, d.val] w (Giv (.tuple #[datV 2 0 ⟨#[]⟩, .int .i64 0]) w) := by
  have HPR := Lib.hid hp
  clear hp
  have hkb : (k == 0) = false := beq_eq_false_iff_ne.2 hk
  go_enter Tryz.func45, Tryz.ntmps45
  go_upto_region 1 with (fail)
  have HT := Lib.hid (tyI_start w d d)
  generalize ((w.alloc (.cells #[.int .i64 d.k, .int .i64 d.n, .string d.t, .slice d.a d.m d.c] 26)).alloc (.cells #[.int .i64 d.k, .int .i64 d.n, .string d.t, .slice d.a d.m d.c] 26)).alloc (.cells #[.int .i64 0, .int .i64 0, .string ⟨#[]⟩, .slice none 0 0] 26) = w0 at HT ⊢
  have p0 : w0.cell? ⟨w.heap.size, 0, none⟩ = some (.int .i64 d.k) := blk_cell HT.out.one 0
  have p1 : w0.cell? ⟨w.heap.size, 1, none⟩ = some (.int .i64 d.n) := blk_cell HT.out.one 1
  have p2 : w0.cell? ⟨w.heap.size, 2, none⟩ = some (.string d.t) := blk_cell HT.out.one 2
  have p3 : w0.cell? ⟨w.heap.size, 3, none⟩ = some (.slice d.a d.m d.c) := blk_cell HT.out.one 3
  have l0 : w0.cell? ⟨w.heap.size + 1, 0, none⟩ = some (.int .i64 d.k) := blk_cell HT.out.last 0
  have l1 : w0.cell? ⟨w.heap.size + 1, 1, none⟩ = some (.int .i64 d.n) := blk_cell HT.out.last 1
  have l2 : w0.cell? ⟨w.heap.size + 1, 2, none⟩ = some (.string d.t) := blk_cell HT.out.last 2
  have l3 : w0.cell? ⟨w.heap.size + 1, 3, none⟩ = some (.slice d.a d.m d.c) := blk_cell HT.out.last 3
  have r0 : w0.cell? ⟨w.heap.size + 1 + 1, 0, none⟩ = some (.int .i64 0) := blk_cell HT.out.res 0
  have s0 := blk_frozen HT.out.res 0
  have r1 : w0.cell? ⟨w.heap.size + 1 + 1, 1, none⟩ = some (.int .i64 0) := blk_cell HT.out.res 1
  have s1 := blk_frozen HT.out.res 1
  have r2 : w0.cell? ⟨w.heap.size + 1 + 1, 2, none⟩ = some (.string ⟨#[]⟩) := blk_cell HT.out.res 2
  have s2 := blk_frozen HT.out.res 2
  have r3 : w0.cell? ⟨w.heap.size + 1 + 1, 3, none⟩ = some (.slice none 0 0) := blk_cell HT.out.res 3
  have s3 := blk_frozen HT.out.res 3
  go_wp2_with fail
  refine (refparse_any d.t _).mono ?_
  rintro e' w1 ⟨rfl, hb1⟩
  have HT1 := Lib.hid (HT.out.step hb1)
  clear r0 r1 r2 r3 s0 s1 s2 s3 hb1
  rw [HPR.out]
  unfold refV
  go_wp2_with fail
  refine (rtruth_of false _).mono ?_
  rintro e' w2 ⟨rfl, hb2⟩
  have HT2 := Lib.hid (HT1.out.step hb2)
  clear hb2
  have r0 : w2.cell? ⟨w.heap.size + 1 + 1, 0, none⟩ = some (.int .i64 0) := blk_cell HT2.out.res 0
  have s0 := blk_frozen HT2.out.res 0
  have r1 : w2.cell? ⟨w.heap.size + 1 + 1, 1, none⟩ = some (.int .i64 0) := blk_cell HT2.out.res 1
  have s1 := blk_frozen HT2.out.res 1
  have r2 : w2.cell? ⟨w.heap.size + 1 + 1, 2, none⟩ = some (.string ⟨#[]⟩) := blk_cell HT2.out.res 2
  have s2 := blk_frozen HT2.out.res 2
  have r3 : w2.cell? ⟨w.heap.size + 1 + 1, 3, none⟩ = some (.slice none 0 0) := blk_cell HT2.out.res 3
  have s3 := blk_frozen HT2.out.res 3
  go_wp2_with fail
  have H4 := dat_put HT2.out.res (2) (0) (⟨#[]⟩)
  have HB4 := Lib.hid (below_putB HT2.out.below (show w.heap.size ≤ w.heap.size + 1 + 1 by omega) (2) (0) (⟨#[]⟩))
  have q0 := blk_cell H4 0
  have q1 := blk_cell H4 1
  have q2 := blk_cell H4 2
  have q3 := blk_cell H4 3
  clear r0 r1 r2 r3 s0 s1 s2 s3
  (try simp only [Exit.inBlock, Exit.then])
  refine bodyPost_ret (by simp [results, Tryz.results45, go_sem, q0, q1, q2, q3]; rfl) rfl ?_
  exact ⟨rfl, HB4.out⟩
set_option maxRecDepth 100000 in
set_option maxHeartbeats 4000000 in
theorem rtext_36 (d : Nd) (v : Value) (w : World) : Calls Tryz.prog 45 #[.int .i64 36, v, d.val, d.val] w (Giv (.tuple #[datV 4 0 d.t, .int .i64 0]) w) := by

  go_enter Tryz.func45, Tryz.ntmps45
  go_upto_region 1 with (fail)
  have HT := Lib.hid (tyI_start w d d)
  generalize ((w.alloc (.cells #[.int .i64 d.k, .int .i64 d.n, .string d.t, .slice d.a d.m d.c] 26)).alloc (.cells #[.int .i64 d.k, .int .i64 d.n, .string d.t, .slice d.a d.m d.c] 26)).alloc (.cells #[.int .i64 0, .int .i64 0, .string ⟨#[]⟩, .slice none 0 0] 26) = w0 at HT ⊢
  have p0 : w0.cell? ⟨w.heap.size, 0, none⟩ = some (.int .i64 d.k) := blk_cell HT.out.one 0
  have p1 : w0.cell? ⟨w.heap.size, 1, none⟩ = some (.int .i64 d.n) := blk_cell HT.out.one 1
  have p2 : w0.cell? ⟨w.heap.size, 2, none⟩ = some (.string d.t) := blk_cell HT.out.one 2
  have p3 : w0.cell? ⟨w.heap.size, 3, none⟩ = some (.slice d.a d.m d.c) := blk_cell HT.out.one 3
  have l0 : w0.cell? ⟨w.heap.size + 1, 0, none⟩ = some (.int .i64 d.k) := blk_cell HT.out.last 0
  have l1 : w0.cell? ⟨w.heap.size + 1, 1, none⟩ = some (.int .i64 d.n) := blk_cell HT.out.last 1
  have l2 : w0.cell? ⟨w.heap.size + 1, 2, none⟩ = some (.string d.t) := blk_cell HT.out.last 2
  have l3 : w0.cell? ⟨w.heap.size + 1, 3, none⟩ = some (.slice d.a d.m d.c) := blk_cell HT.out.last 3
  have r0 : w0.cell? ⟨w.heap.size + 1 + 1, 0, none⟩ = some (.int .i64 0) := blk_cell HT.out.res 0
  have s0 := blk_frozen HT.out.res 0
  have r1 : w0.cell? ⟨w.heap.size + 1 + 1, 1, none⟩ = some (.int .i64 0) := blk_cell HT.out.res 1
  have s1 := blk_frozen HT.out.res 1
  have r2 : w0.cell? ⟨w.heap.size + 1 + 1, 2, none⟩ = some (.string ⟨#[]⟩) := blk_cell HT.out.res 2
  have s2 := blk_frozen HT.out.res 2
  have r3 : w0.cell? ⟨w.heap.size + 1 + 1, 3, none⟩ = some (.slice none 0 0) := blk_cell HT.out.res 3
  have s3 := blk_frozen HT.out.res 3
  go_wp2_with fail
  have H4 := dat_put HT.out.res (4) (0) (d.t)
  have HB4 := Lib.hid (below_putB HT.out.below (show w.heap.size ≤ w.heap.size + 1 + 1 by omega) (4) (0) (d.t))
  have q0 := blk_cell H4 0
  have q1 := blk_cell H4 1
  have q2 := blk_cell H4 2
  have q3 := blk_cell H4 3
  clear r0 r1 r2 r3 s0 s1 s2 s3
  (try simp only [Exit.inBlock, Exit.then])
  refine bodyPost_ret (by simp [results, Tryz.results45, go_sem, q0, q1, q2, q3]; rfl) rfl ?_
  exact ⟨rfl, HB4.out⟩
set_option maxRecDepth 100000 in
set_option maxHeartbeats 4000000 in
theorem rtext_37 (d : Nd) (v : Value) (w : World) (h : symL d.t.data.toList = true) : Calls Tryz.prog 45 #[.int .i64 37, v, d.val, d.val] w (Giv (.tuple #[datV 5 0 d.t, .int .i64 0]) w) := by
  have HS := Lib.hid h
  clear h
  go_enter Tryz.func45, Tryz.ntmps45
  go_upto_region 1 with (fail)
  have HT := Lib.hid (tyI_start w d d)
  generalize ((w.alloc (.cells #[.int .i64 d.k, .int .i64 d.n, .string d.t, .slice d.a d.m d.c] 26)).alloc (.cells #[.int .i64 d.k, .int .i64 d.n, .string d.t, .slice d.a d.m d.c] 26)).alloc (.cells #[.int .i64 0, .int .i64 0, .string ⟨#[]⟩, .slice none 0 0] 26) = w0 at HT ⊢
  have p0 : w0.cell? ⟨w.heap.size, 0, none⟩ = some (.int .i64 d.k) := blk_cell HT.out.one 0
  have p1 : w0.cell? ⟨w.heap.size, 1, none⟩ = some (.int .i64 d.n) := blk_cell HT.out.one 1
  have p2 : w0.cell? ⟨w.heap.size, 2, none⟩ = some (.string d.t) := blk_cell HT.out.one 2
  have p3 : w0.cell? ⟨w.heap.size, 3, none⟩ = some (.slice d.a d.m d.c) := blk_cell HT.out.one 3
  have l0 : w0.cell? ⟨w.heap.size + 1, 0, none⟩ = some (.int .i64 d.k) := blk_cell HT.out.last 0
  have l1 : w0.cell? ⟨w.heap.size + 1, 1, none⟩ = some (.int .i64 d.n) := blk_cell HT.out.last 1
  have l2 : w0.cell? ⟨w.heap.size + 1, 2, none⟩ = some (.string d.t) := blk_cell HT.out.last 2
  have l3 : w0.cell? ⟨w.heap.size + 1, 3, none⟩ = some (.slice d.a d.m d.c) := blk_cell HT.out.last 3
  have r0 : w0.cell? ⟨w.heap.size + 1 + 1, 0, none⟩ = some (.int .i64 0) := blk_cell HT.out.res 0
  have s0 := blk_frozen HT.out.res 0
  have r1 : w0.cell? ⟨w.heap.size + 1 + 1, 1, none⟩ = some (.int .i64 0) := blk_cell HT.out.res 1
  have s1 := blk_frozen HT.out.res 1
  have r2 : w0.cell? ⟨w.heap.size + 1 + 1, 2, none⟩ = some (.string ⟨#[]⟩) := blk_cell HT.out.res 2
  have s2 := blk_frozen HT.out.res 2
  have r3 : w0.cell? ⟨w.heap.size + 1 + 1, 3, none⟩ = some (.slice none 0 0) := blk_cell HT.out.res 3
  have s3 := blk_frozen HT.out.res 3
  go_wp2_with fail
  refine (refsymbol_any _ _).mono ?_
  rintro e' w2 ⟨rfl, rfl⟩
  rw [HS.out]
  go_wp2_with fail
  have H4 := dat_put HT.out.res (5) (0) (d.t)
  have HB4 := Lib.hid (below_putB HT.out.below (show w.heap.size ≤ w.heap.size + 1 + 1 by omega) (5) (0) (d.t))
  have q0 := blk_cell H4 0
  have q1 := blk_cell H4 1
  have q2 := blk_cell H4 2
  have q3 := blk_cell H4 3
  clear r0 r1 r2 r3 s0 s1 s2 s3
  (try simp only [Exit.inBlock, Exit.then])
  refine bodyPost_ret (by simp [results, Tryz.results45, go_sem, q0, q1, q2, q3]; rfl) rfl ?_
  exact ⟨rfl, HB4.out⟩
set_option maxRecDepth 100000 in
set_option maxHeartbeats 4000000 in
theorem rtext_37a (d : Nd) (v : Value) (w : World) (h : symL d.t.data.toList = false) : Calls Tryz.prog 45 #[.int .i64 37, v, d.val, d.val] w (Giv (.tuple #[datV 0 0 ⟨#[]⟩, .int .i64 9]) w) := by
  have HS := Lib.hid h
  clear h
  go_enter Tryz.func45, Tryz.ntmps45
  go_upto_region 1 with (fail)
  have HT := Lib.hid (tyI_start w d d)
  generalize ((w.alloc (.cells #[.int .i64 d.k, .int .i64 d.n, .string d.t, .slice d.a d.m d.c] 26)).alloc (.cells #[.int .i64 d.k, .int .i64 d.n, .string d.t, .slice d.a d.m d.c] 26)).alloc (.cells #[.int .i64 0, .int .i64 0, .string ⟨#[]⟩, .slice none 0 0] 26) = w0 at HT ⊢
  have p0 : w0.cell? ⟨w.heap.size, 0, none⟩ = some (.int .i64 d.k) := blk_cell HT.out.one 0
  have p1 : w0.cell? ⟨w.heap.size, 1, none⟩ = some (.int .i64 d.n) := blk_cell HT.out.one 1
  have p2 : w0.cell? ⟨w.heap.size, 2, none⟩ = some (.string d.t) := blk_cell HT.out.one 2
  have p3 : w0.cell? ⟨w.heap.size, 3, none⟩ = some (.slice d.a d.m d.c) := blk_cell HT.out.one 3
  have l0 : w0.cell? ⟨w.heap.size + 1, 0, none⟩ = some (.int .i64 d.k) := blk_cell HT.out.last 0
  have l1 : w0.cell? ⟨w.heap.size + 1, 1, none⟩ = some (.int .i64 d.n) := blk_cell HT.out.last 1
  have l2 : w0.cell? ⟨w.heap.size + 1, 2, none⟩ = some (.string d.t) := blk_cell HT.out.last 2
  have l3 : w0.cell? ⟨w.heap.size + 1, 3, none⟩ = some (.slice d.a d.m d.c) := blk_cell HT.out.last 3
  have r0 : w0.cell? ⟨w.heap.size + 1 + 1, 0, none⟩ = some (.int .i64 0) := blk_cell HT.out.res 0
  have s0 := blk_frozen HT.out.res 0
  have r1 : w0.cell? ⟨w.heap.size + 1 + 1, 1, none⟩ = some (.int .i64 0) := blk_cell HT.out.res 1
  have s1 := blk_frozen HT.out.res 1
  have r2 : w0.cell? ⟨w.heap.size + 1 + 1, 2, none⟩ = some (.string ⟨#[]⟩) := blk_cell HT.out.res 2
  have s2 := blk_frozen HT.out.res 2
  have r3 : w0.cell? ⟨w.heap.size + 1 + 1, 3, none⟩ = some (.slice none 0 0) := blk_cell HT.out.res 3
  have s3 := blk_frozen HT.out.res 3
  go_wp2_with fail
  refine (refsymbol_any _ _).mono ?_
  rintro e' w2 ⟨rfl, rfl⟩
  rw [HS.out]
  go_wp2_with fail
  have H4 := dat_put HT.out.res (0) (0) (⟨#[]⟩)
  have HB4 := Lib.hid (below_putB HT.out.below (show w.heap.size ≤ w.heap.size + 1 + 1 by omega) (0) (0) (⟨#[]⟩))
  have q0 := blk_cell H4 0
  have q1 := blk_cell H4 1
  have q2 := blk_cell H4 2
  have q3 := blk_cell H4 3
  clear r0 r1 r2 r3 s0 s1 s2 s3
  (try simp only [Exit.inBlock, Exit.then])
  refine bodyPost_ret (by simp [results, Tryz.results45, go_sem, q0, q1, q2, q3]; rfl) rfl ?_
  exact ⟨rfl, HB4.out⟩
set_option maxRecDepth 100000 in
set_option maxHeartbeats 4000000 in
theorem rtext_38 (d : Nd) (v : Value) (w : World) : Calls Tryz.prog 45 #[.int .i64 38, v, d.val, d.val] w (Giv (.tuple #[datV 1 d.n ⟨#[]⟩, .int .i64 0]) w) := by

  go_enter Tryz.func45, Tryz.ntmps45
  go_upto_region 1 with (fail)
  have HT := Lib.hid (tyI_start w d d)
  generalize ((w.alloc (.cells #[.int .i64 d.k, .int .i64 d.n, .string d.t, .slice d.a d.m d.c] 26)).alloc (.cells #[.int .i64 d.k, .int .i64 d.n, .string d.t, .slice d.a d.m d.c] 26)).alloc (.cells #[.int .i64 0, .int .i64 0, .string ⟨#[]⟩, .slice none 0 0] 26) = w0 at HT ⊢
  have p0 : w0.cell? ⟨w.heap.size, 0, none⟩ = some (.int .i64 d.k) := blk_cell HT.out.one 0
  have p1 : w0.cell? ⟨w.heap.size, 1, none⟩ = some (.int .i64 d.n) := blk_cell HT.out.one 1
  have p2 : w0.cell? ⟨w.heap.size, 2, none⟩ = some (.string d.t) := blk_cell HT.out.one 2
  have p3 : w0.cell? ⟨w.heap.size, 3, none⟩ = some (.slice d.a d.m d.c) := blk_cell HT.out.one 3
  have l0 : w0.cell? ⟨w.heap.size + 1, 0, none⟩ = some (.int .i64 d.k) := blk_cell HT.out.last 0
  have l1 : w0.cell? ⟨w.heap.size + 1, 1, none⟩ = some (.int .i64 d.n) := blk_cell HT.out.last 1
  have l2 : w0.cell? ⟨w.heap.size + 1, 2, none⟩ = some (.string d.t) := blk_cell HT.out.last 2
  have l3 : w0.cell? ⟨w.heap.size + 1, 3, none⟩ = some (.slice d.a d.m d.c) := blk_cell HT.out.last 3
  have r0 : w0.cell? ⟨w.heap.size + 1 + 1, 0, none⟩ = some (.int .i64 0) := blk_cell HT.out.res 0
  have s0 := blk_frozen HT.out.res 0
  have r1 : w0.cell? ⟨w.heap.size + 1 + 1, 1, none⟩ = some (.int .i64 0) := blk_cell HT.out.res 1
  have s1 := blk_frozen HT.out.res 1
  have r2 : w0.cell? ⟨w.heap.size + 1 + 1, 2, none⟩ = some (.string ⟨#[]⟩) := blk_cell HT.out.res 2
  have s2 := blk_frozen HT.out.res 2
  have r3 : w0.cell? ⟨w.heap.size + 1 + 1, 3, none⟩ = some (.slice none 0 0) := blk_cell HT.out.res 3
  have s3 := blk_frozen HT.out.res 3
  go_wp2_with fail
  refine (rnum_ok _ _).mono ?_
  rintro e' w2 ⟨rfl, hb2⟩
  have HT2 := Lib.hid (HT.out.step hb2)
  clear r0 r1 r2 r3 s0 s1 s2 s3 hb2
  have r0 : w2.cell? ⟨w.heap.size + 1 + 1, 0, none⟩ = some (.int .i64 0) := blk_cell HT2.out.res 0
  have s0 := blk_frozen HT2.out.res 0
  have r1 : w2.cell? ⟨w.heap.size + 1 + 1, 1, none⟩ = some (.int .i64 0) := blk_cell HT2.out.res 1
  have s1 := blk_frozen HT2.out.res 1
  have r2 : w2.cell? ⟨w.heap.size + 1 + 1, 2, none⟩ = some (.string ⟨#[]⟩) := blk_cell HT2.out.res 2
  have s2 := blk_frozen HT2.out.res 2
  have r3 : w2.cell? ⟨w.heap.size + 1 + 1, 3, none⟩ = some (.slice none 0 0) := blk_cell HT2.out.res 3
  have s3 := blk_frozen HT2.out.res 3
  go_wp2_with fail
  have H4 := dat_put HT2.out.res (1) (d.n) (⟨#[]⟩)
  have HB4 := Lib.hid (below_putB HT2.out.below (show w.heap.size ≤ w.heap.size + 1 + 1 by omega) (1) (d.n) (⟨#[]⟩))
  have q0 := blk_cell H4 0
  have q1 := blk_cell H4 1
  have q2 := blk_cell H4 2
  have q3 := blk_cell H4 3
  clear r0 r1 r2 r3 s0 s1 s2 s3
  (try simp only [Exit.inBlock, Exit.then])
  refine bodyPost_ret (by simp [results, Tryz.results45, go_sem, q0, q1, q2, q3]; rfl) rfl ?_
  exact ⟨rfl, HB4.out⟩
set_option maxRecDepth 100000 in
set_option maxHeartbeats 4000000 in
theorem rtext_39 (d : Nd) (v : Value) (w : World) (h0 : 0 ≤ d.n) (h1 : d.n ≤ 255) : Calls Tryz.prog 45 #[.int .i64 39, v, d.val, d.val] w (Giv (.tuple #[datV 3 d.n ⟨#[]⟩, .int .i64 0]) w) := by
  have y0 : decide (d.n < 0) = false := decide_eq_false (by omega)
  have y1 : decide (255 < d.n) = false := decide_eq_false (by omega)
  go_enter Tryz.func45, Tryz.ntmps45
  go_upto_region 1 with (fail)
  have HT := Lib.hid (tyI_start w d d)
  generalize ((w.alloc (.cells #[.int .i64 d.k, .int .i64 d.n, .string d.t, .slice d.a d.m d.c] 26)).alloc (.cells #[.int .i64 d.k, .int .i64 d.n, .string d.t, .slice d.a d.m d.c] 26)).alloc (.cells #[.int .i64 0, .int .i64 0, .string ⟨#[]⟩, .slice none 0 0] 26) = w0 at HT ⊢
  have p0 : w0.cell? ⟨w.heap.size, 0, none⟩ = some (.int .i64 d.k) := blk_cell HT.out.one 0
  have p1 : w0.cell? ⟨w.heap.size, 1, none⟩ = some (.int .i64 d.n) := blk_cell HT.out.one 1
  have p2 : w0.cell? ⟨w.heap.size, 2, none⟩ = some (.string d.t) := blk_cell HT.out.one 2
  have p3 : w0.cell? ⟨w.heap.size, 3, none⟩ = some (.slice d.a d.m d.c) := blk_cell HT.out.one 3
  have l0 : w0.cell? ⟨w.heap.size + 1, 0, none⟩ = some (.int .i64 d.k) := blk_cell HT.out.last 0
  have l1 : w0.cell? ⟨w.heap.size + 1, 1, none⟩ = some (.int .i64 d.n) := blk_cell HT.out.last 1
  have l2 : w0.cell? ⟨w.heap.size + 1, 2, none⟩ = some (.string d.t) := blk_cell HT.out.last 2
  have l3 : w0.cell? ⟨w.heap.size + 1, 3, none⟩ = some (.slice d.a d.m d.c) := blk_cell HT.out.last 3
  have r0 : w0.cell? ⟨w.heap.size + 1 + 1, 0, none⟩ = some (.int .i64 0) := blk_cell HT.out.res 0
  have s0 := blk_frozen HT.out.res 0
  have r1 : w0.cell? ⟨w.heap.size + 1 + 1, 1, none⟩ = some (.int .i64 0) := blk_cell HT.out.res 1
  have s1 := blk_frozen HT.out.res 1
  have r2 : w0.cell? ⟨w.heap.size + 1 + 1, 2, none⟩ = some (.string ⟨#[]⟩) := blk_cell HT.out.res 2
  have s2 := blk_frozen HT.out.res 2
  have r3 : w0.cell? ⟨w.heap.size + 1 + 1, 3, none⟩ = some (.slice none 0 0) := blk_cell HT.out.res 3
  have s3 := blk_frozen HT.out.res 3
  go_wp2_with fail
  have H4 := dat_put HT.out.res (3) (d.n) (⟨#[]⟩)
  have HB4 := Lib.hid (below_putB HT.out.below (show w.heap.size ≤ w.heap.size + 1 + 1 by omega) (3) (d.n) (⟨#[]⟩))
  have q0 := blk_cell H4 0
  have q1 := blk_cell H4 1
  have q2 := blk_cell H4 2
  have q3 := blk_cell H4 3
  clear r0 r1 r2 r3 s0 s1 s2 s3
  (try simp only [Exit.inBlock, Exit.then])
  refine bodyPost_ret (by simp [results, Tryz.results45, go_sem, q0, q1, q2, q3]; rfl) rfl ?_
  exact ⟨rfl, HB4.out⟩
set_option maxRecDepth 100000 in
set_option maxHeartbeats 4000000 in
theorem rtext_39a (d : Nd) (v : Value) (w : World) (h0 : d.n < 0) : Calls Tryz.prog 45 #[.int .i64 39, v, d.val, d.val] w (Giv (.tuple #[datV 0 0 ⟨#[]⟩, .int .i64 13]) w) := by
  have y0 : decide (d.n < 0) = true := decide_eq_true (by omega)
  go_enter Tryz.func45, Tryz.ntmps45
  go_upto_region 1 with (fail)
  have HT := Lib.hid (tyI_start w d d)
  generalize ((w.alloc (.cells #[.int .i64 d.k, .int .i64 d.n, .string d.t, .slice d.a d.m d.c] 26)).alloc (.cells #[.int .i64 d.k, .int .i64 d.n, .string d.t, .slice d.a d.m d.c] 26)).alloc (.cells #[.int .i64 0, .int .i64 0, .string ⟨#[]⟩, .slice none 0 0] 26) = w0 at HT ⊢
  have p0 : w0.cell? ⟨w.heap.size, 0, none⟩ = some (.int .i64 d.k) := blk_cell HT.out.one 0
  have p1 : w0.cell? ⟨w.heap.size, 1, none⟩ = some (.int .i64 d.n) := blk_cell HT.out.one 1
  have p2 : w0.cell? ⟨w.heap.size, 2, none⟩ = some (.string d.t) := blk_cell HT.out.one 2
  have p3 : w0.cell? ⟨w.heap.size, 3, none⟩ = some (.slice d.a d.m d.c) := blk_cell HT.out.one 3
  have l0 : w0.cell? ⟨w.heap.size + 1, 0, none⟩ = some (.int .i64 d.k) := blk_cell HT.out.last 0
  have l1 : w0.cell? ⟨w.heap.size + 1, 1, none⟩ = some (.int .i64 d.n) := blk_cell HT.out.last 1
  have l2 : w0.cell? ⟨w.heap.size + 1, 2, none⟩ = some (.string d.t) := blk_cell HT.out.last 2
  have l3 : w0.cell? ⟨w.heap.size + 1, 3, none⟩ = some (.slice d.a d.m d.c) := blk_cell HT.out.last 3
  have r0 : w0.cell? ⟨w.heap.size + 1 + 1, 0, none⟩ = some (.int .i64 0) := blk_cell HT.out.res 0
  have s0 := blk_frozen HT.out.res 0
  have r1 : w0.cell? ⟨w.heap.size + 1 + 1, 1, none⟩ = some (.int .i64 0) := blk_cell HT.out.res 1
  have s1 := blk_frozen HT.out.res 1
  have r2 : w0.cell? ⟨w.heap.size + 1 + 1, 2, none⟩ = some (.string ⟨#[]⟩) := blk_cell HT.out.res 2
  have s2 := blk_frozen HT.out.res 2
  have r3 : w0.cell? ⟨w.heap.size + 1 + 1, 3, none⟩ = some (.slice none 0 0) := blk_cell HT.out.res 3
  have s3 := blk_frozen HT.out.res 3
  go_wp2_with fail
  have H4 := dat_put HT.out.res (0) (0) (⟨#[]⟩)
  have HB4 := Lib.hid (below_putB HT.out.below (show w.heap.size ≤ w.heap.size + 1 + 1 by omega) (0) (0) (⟨#[]⟩))
  have q0 := blk_cell H4 0
  have q1 := blk_cell H4 1
  have q2 := blk_cell H4 2
  have q3 := blk_cell H4 3
  clear r0 r1 r2 r3 s0 s1 s2 s3
  (try simp only [Exit.inBlock, Exit.then])
  refine bodyPost_ret (by simp [results, Tryz.results45, go_sem, q0, q1, q2, q3]; rfl) rfl ?_
  exact ⟨rfl, HB4.out⟩
set_option maxRecDepth 100000 in
set_option maxHeartbeats 4000000 in
theorem rtext_39b (d : Nd) (v : Value) (w : World) (h1 : 255 < d.n) : Calls Tryz.prog 45 #[.int .i64 39, v, d.val, d.val] w (Giv (.tuple #[datV 0 0 ⟨#[]⟩, .int .i64 13]) w) := by
  have y0 : decide (d.n < 0) = false := decide_eq_false (by omega)
  have y1 : decide (255 < d.n) = true := decide_eq_true (by omega)
  go_enter Tryz.func45, Tryz.ntmps45
  go_upto_region 1 with (fail)
  have HT := Lib.hid (tyI_start w d d)
  generalize ((w.alloc (.cells #[.int .i64 d.k, .int .i64 d.n, .string d.t, .slice d.a d.m d.c] 26)).alloc (.cells #[.int .i64 d.k, .int .i64 d.n, .string d.t, .slice d.a d.m d.c] 26)).alloc (.cells #[.int .i64 0, .int .i64 0, .string ⟨#[]⟩, .slice none 0 0] 26) = w0 at HT ⊢
  have p0 : w0.cell? ⟨w.heap.size, 0, none⟩ = some (.int .i64 d.k) := blk_cell HT.out.one 0
  have p1 : w0.cell? ⟨w.heap.size, 1, none⟩ = some (.int .i64 d.n) := blk_cell HT.out.one 1
  have p2 : w0.cell? ⟨w.heap.size, 2, none⟩ = some (.string d.t) := blk_cell HT.out.one 2
  have p3 : w0.cell? ⟨w.heap.size, 3, none⟩ = some (.slice d.a d.m d.c) := blk_cell HT.out.one 3
  have l0 : w0.cell? ⟨w.heap.size + 1, 0, none⟩ = some (.int .i64 d.k) := blk_cell HT.out.last 0
  have l1 : w0.cell? ⟨w.heap.size + 1, 1, none⟩ = some (.int .i64 d.n) := blk_cell HT.out.last 1
  have l2 : w0.cell? ⟨w.heap.size + 1, 2, none⟩ = some (.string d.t) := blk_cell HT.out.last 2
  have l3 : w0.cell? ⟨w.heap.size + 1, 3, none⟩ = some (.slice d.a d.m d.c) := blk_cell HT.out.last 3
  have r0 : w0.cell? ⟨w.heap.size + 1 + 1, 0, none⟩ = some (.int .i64 0) := blk_cell HT.out.res 0
  have s0 := blk_frozen HT.out.res 0
  have r1 : w0.cell? ⟨w.heap.size + 1 + 1, 1, none⟩ = some (.int .i64 0) := blk_cell HT.out.res 1
  have s1 := blk_frozen HT.out.res 1
  have r2 : w0.cell? ⟨w.heap.size + 1 + 1, 2, none⟩ = some (.string ⟨#[]⟩) := blk_cell HT.out.res 2
  have s2 := blk_frozen HT.out.res 2
  have r3 : w0.cell? ⟨w.heap.size + 1 + 1, 3, none⟩ = some (.slice none 0 0) := blk_cell HT.out.res 3
  have s3 := blk_frozen HT.out.res 3
  go_wp2_with fail
  have H4 := dat_put HT.out.res (0) (0) (⟨#[]⟩)
  have HB4 := Lib.hid (below_putB HT.out.below (show w.heap.size ≤ w.heap.size + 1 + 1 by omega) (0) (0) (⟨#[]⟩))
  have q0 := blk_cell H4 0
  have q1 := blk_cell H4 1
  have q2 := blk_cell H4 2
  have q3 := blk_cell H4 3
  clear r0 r1 r2 r3 s0 s1 s2 s3
  (try simp only [Exit.inBlock, Exit.then])
  refine bodyPost_ret (by simp [results, Tryz.results45, go_sem, q0, q1, q2, q3]; rfl) rfl ?_
  exact ⟨rfl, HB4.out⟩
end Go.Proofs.YtneokkhnjnomdaaGreatDoor

/-! GrF -/
namespace Go.Proofs.YtneokkhnjnomdaaGreatDoor
open Go.RowKit Go.Proofs.YtneokkhnjnomdaaGreatDoorW.PrintWords

theorem plain_num_bound {d : Nd} (h : plainN d = true) (hk : d.k = 1) : -9223372036854775808 ≤ d.n ∧ d.n ≤ 9223372036854775807 := by
  unfold plainN at h
  rw [hk] at h
  simp at h
  omega
theorem rtextA_1 (n : Int) (d : Nd) (v : Value) (w : World) (hn : n = 29 ∨ n = 34 ∨ n = 35 ∨ n = 36 ∨ n = 37 ∨ n = 38 ∨ n = 39) (hl : [d].any (fun d => !plainN d) = false) (hk : eqK [d] (kindsN n) = true) :
    Calls Tryz.prog 45 #[.int .i64 n, v, d.val, d.val] w (Giv (resRV (valR n d d d)) w) := by
  rcases hn with rfl | rfl | rfl | rfl | rfl | rfl | rfl
  · exact rtext_29 d v w
  · have hb := plain_num_bound (plain_bound hl d (by simp)) (by unfold kindsN eqK at hk; simpa using hk)
    exact rtext_34 d v w hb.1 hb.2
  · show Calls Tryz.prog _ _ _ (Giv (resRV (parseR (parseL d.t.data.toList))) w)
    unfold parseR
    by_cases h0 : (parseL d.t.data.toList).2 = 0
    · rw [if_pos h0]
      exact rtext_35 d v w _ (by rw [← h0])
    · rw [if_neg h0]
      exact rtext_35a d v w _ h0 _ rfl
  · exact rtext_36 d v w
  · show Calls Tryz.prog _ _ _ (Giv (resRV (symR d.t)) w)
    unfold symR
    by_cases h0 : symL d.t.data.toList = true
    · rw [if_pos h0]
      exact rtext_37 d v w h0
    · rw [if_neg h0]
      exact rtext_37a d v w (by simpa using h0)
  · exact rtext_38 d v w
  · show Calls Tryz.prog _ _ _ (Giv (resRV (byteR d.n)) w)
    unfold byteR
    by_cases h0 : 0 ≤ d.n ∧ d.n ≤ 255
    · rw [if_pos h0]
      exact rtext_39 d v w h0.1 h0.2
    · rw [if_neg h0]
      by_cases h1 : d.n < 0
      · exact rtext_39a d v w h1
      · exact rtext_39b d v w (by omega)
theorem rtextA_2 (n : Int) (d e : Nd) (v : Value) (w : World) (hn : n = 30 ∨ n = 31 ∨ n = 32) (hl : [d, e].any (fun d => !plainN d) = false) (hk : eqK [d, e] (kindsN n) = true) :
    Calls Tryz.prog 45 #[.int .i64 n, v, d.val, e.val] w (Giv (resRV (valR n d e e)) w) := by
  rcases hn with rfl | rfl | rfl
  · show Calls Tryz.prog _ _ _ (Giv (resRV (charR d.t e.n)) w)
    unfold charR
    by_cases h0 : 0 ≤ e.n ∧ e.n < d.t.size
    · rw [dif_pos h0]
      exact rtext_30 d e v w h0.1 h0.2 _ (fun _ => rfl)
    · rw [dif_neg h0]
      by_cases h1 : e.n < 0
      · exact rtext_30a d e v w h1
      · exact rtext_30b d e v w (by omega) (by omega)
  · have p0 := plain_str_size (plain_bound hl d (by simp)) (by unfold kindsN eqK at hk; simp at hk; exact hk.1)
    have p1 := plain_str_size (plain_bound hl e (by simp)) (by unfold kindsN eqK at hk; simp at hk; exact hk.2)
    show Calls Tryz.prog _ _ _ (Giv (resRV (appR d.t e.t)) w)
    unfold appR
    by_cases h0 : (d.t.size : Int) + e.t.size ≤ 500
    · rw [if_pos h0]
      exact rtext_31 d e v w (by omega) (by omega) h0
    · rw [if_neg h0]
      exact rtext_31a d e v w (by omega) (by omega) (by omega)
  · exact rtext_32 d e v w
theorem rtextA_3 (n : Int) (d e f : Nd) (v : Value) (w : World) (hn : n = 33) (hA : ArgsAt [d, e, f] v w) :
    Calls Tryz.prog 45 #[.int .i64 n, v, d.val, f.val] w (Giv (resRV (valR n d e f)) w) := by
  rcases hn with rfl
  · show Calls Tryz.prog _ _ _ (Giv (resRV (cutR d.t e.n f.n)) w)
    unfold cutR
    by_cases h0 : 0 ≤ e.n ∧ e.n ≤ f.n ∧ f.n ≤ d.t.size
    · rw [if_pos h0]
      exact rtext_33 d e f v w hA h0.1 h0.2.1 h0.2.2
    · rw [if_neg h0]
      by_cases h1 : e.n < 0
      · exact rtext_33a d e f v w hA h1
      by_cases h2 : f.n < e.n
      · exact rtext_33b d e f v w hA (by omega) h2
      · exact rtext_33c d e f v w hA (by omega) (by omega) (by omega)

/-- What stands at every round's head. -/
structure RlI (w w2 wr : World) : Prop where
  res : DZ w.heap.size 0 0 ⟨#[]⟩ wr
  below : Below w.heap.size w wr
  since : Below w2.heap.size w2 wr
theorem RlI.step {w w2 w3 w4 : World} (h : RlI w w2 w3) (hb : Below w3.heap.size w3 w4) : RlI w w2 w4 := ⟨blk_below h.res hb, below_step h.below hb, below_step h.since hb⟩
/-- Behind the loop: the two variables. -/
structure RmI (w : World) (bx : Nat) (x y : Nd) (wr : World) : Prop where
  res : DZ w.heap.size 0 0 ⟨#[]⟩ wr
  one : wr.heap[bx]? = some x.obj
  last : wr.heap[bx + 1]? = some y.obj
  below : Below w.heap.size w wr
theorem RmI.step {w w3 w4 : World} {bx : Nat} {x y : Nd} (h : RmI w bx x y w3) (hb : Below w3.heap.size w3 w4) : RmI w bx x y w4 := ⟨blk_below h.res hb, blk_below h.one hb, blk_below h.last hb, below_step h.below hb⟩
theorem rmI_start {w w2 wr : World} (h : RlI w w2 wr) (x y : Nd) : RmI w wr.heap.size x y ((wr.alloc (.cells #[.int .i64 x.k, .int .i64 x.n, .string x.t, .slice x.a x.m x.c] 26)).alloc (.cells #[.int .i64 y.k, .int .i64 y.n, .string y.t, .slice y.a y.m y.c] 26)) := by
  refine ⟨blk_alloc (blk_alloc h.res _) _, blk_alloc (blk_new wr x.obj) _, ?_, below_alloc (below_alloc h.below _) _⟩
  have := blk_new (wr.alloc x.obj) y.obj
  rw [show (wr.alloc x.obj).heap.size = wr.heap.size + 1 by simp] at this
  exact this

set_option maxRecDepth 100000 in
set_option maxHeartbeats 40000000 in
theorem reval_len (n : Int) (L : List Nd) (v : Value) (w : World) (hA : ArgsAt L v w) (hp : pureB n = true) (hlen : L.length ≠ (kindsN n).length) :
    Calls Tryz.prog 14 #[.int .i64 n, v] w (Giv (.tuple #[datV 0 0 ⟨#[]⟩, .int .i64 10]) w) := by
  have HA := Lib.hid hA
  obtain ⟨A, cap, rfl, hc0⟩ := hA.row
  have hle : ¬ (L.length : Int) = ((kindsN n).length : Nat) := by omega
  have hlb : ((L.length : Int) == ((kindsN n).length : Nat)) = false := beq_eq_false_iff_ne.2 hle
  have HP := Lib.hid hp
  clear hlen
  clear hA hc0 hp
  go_enter Tryz.func14, Tryz.ntmps14
  go_upto_region 1 with (fail)
  have HR := Lib.hid (blk_new w (.cells #[.int .i64 0, .int .i64 0, .string ⟨#[]⟩, .slice none 0 0] 26 (0, 0)))
  have HB := Lib.hid (below_alloc (Below.refl w.heap.size w) (.cells #[.int .i64 0, .int .i64 0, .string ⟨#[]⟩, .slice none 0 0] 26))
  generalize w.alloc (.cells #[.int .i64 0, .int .i64 0, .string ⟨#[]⟩, .slice none 0 0] 26) = w0 at HR HB ⊢
  go_wp2_with fail
  refine (rkinds_of n _ HP.out).mono ?_
  rintro e2 w2 ⟨⟨u, rfl, hK⟩, hb2⟩
  obtain ⟨gk, capk, rfl, hgk, hck⟩ := hK.row
  have HI := Lib.hid (⟨blk_below HR.out hb2, below_step HB.out hb2, Below.refl _ _⟩ : RlI w w2 w2)
  have HGK := Lib.hid hgk
  have HCK := Lib.hid hck
  clear hb2 hK hck hgk HR HB
  clear HGK HCK HA
  generalize (kindsN n).length = m at hle hlb ⊢
  have r0 : w2.cell? ⟨w.heap.size, 0, none⟩ = some (.int .i64 0) := blk_cell HI.out.res 0
  have s0 := blk_frozen HI.out.res 0
  have r1 : w2.cell? ⟨w.heap.size, 1, none⟩ = some (.int .i64 0) := blk_cell HI.out.res 1
  have s1 := blk_frozen HI.out.res 1
  have r2 : w2.cell? ⟨w.heap.size, 2, none⟩ = some (.string ⟨#[]⟩) := blk_cell HI.out.res 2
  have s2 := blk_frozen HI.out.res 2
  have r3 : w2.cell? ⟨w.heap.size, 3, none⟩ = some (.slice none 0 0) := blk_cell HI.out.res 3
  have s3 := blk_frozen HI.out.res 3
  go_wp2_with fail
  have H4 := dat_put HI.out.res (0) (0) (⟨#[]⟩)
  have HB4 := Lib.hid (below_put HI.out.below (0) (0) (⟨#[]⟩))
  have q0 := blk_cell H4 0
  have q1 := blk_cell H4 1
  have q2 := blk_cell H4 2
  have q3 := blk_cell H4 3
  clear r0 r1 r2 r3 s0 s1 s2 s3
  (try simp only [Exit.inBlock, Exit.then])
  refine bodyPost_ret (by simp [results, Tryz.results14, go_sem, q0, q1, q2, q3]; rfl) rfl ?_
  exact ⟨rfl, HB4.out⟩
set_option maxRecDepth 100000 in
set_option maxHeartbeats 40000000 in
theorem reval_kind (n : Int) (L : List Nd) (v : Value) (w : World) (hA : ArgsAt L v w) (hp : pureB n = true) (hlen : L.length = (kindsN n).length) (hk : eqK L (kindsN n) = false) :
    Calls Tryz.prog 14 #[.int .i64 n, v] w (Giv (.tuple #[datV 0 0 ⟨#[]⟩, .int .i64 9]) w) := by
  have HA := Lib.hid hA
  obtain ⟨A, cap, rfl, hc0⟩ := hA.row
  have hL3 : L.length ≤ 3 := by rw [hlen]; unfold kindsN; (repeat' split) <;> decide
  have hle : (L.length : Int) = ((kindsN n).length : Nat) := by omega
  have hlb : ((L.length : Int) == ((kindsN n).length : Nat)) = true := by simp [hle]
  have HP := Lib.hid hp
  have HE := Lib.hid hk
  clear hk
  clear hA hc0 hp
  go_enter Tryz.func14, Tryz.ntmps14
  go_upto_region 1 with (fail)
  have HR := Lib.hid (blk_new w (.cells #[.int .i64 0, .int .i64 0, .string ⟨#[]⟩, .slice none 0 0] 26 (0, 0)))
  have HB := Lib.hid (below_alloc (Below.refl w.heap.size w) (.cells #[.int .i64 0, .int .i64 0, .string ⟨#[]⟩, .slice none 0 0] 26))
  generalize w.alloc (.cells #[.int .i64 0, .int .i64 0, .string ⟨#[]⟩, .slice none 0 0] 26) = w0 at HR HB ⊢
  go_wp2_with fail
  refine (rkinds_of n _ HP.out).mono ?_
  rintro e2 w2 ⟨⟨u, rfl, hK⟩, hb2⟩
  obtain ⟨gk, capk, rfl, hgk, hck⟩ := hK.row
  have HI := Lib.hid (⟨blk_below HR.out hb2, below_step HB.out hb2, Below.refl _ _⟩ : RlI w w2 w2)
  have HGK := Lib.hid hgk
  have HCK := Lib.hid hck
  clear hb2 hK hck hgk HR HB
  have HLK : Hid (L.length = (kindsN n).length) := Lib.hid hlen
  clear hlen
  go_upto_region 4 with (fail)
  generalize kindsN n = K at HCK HLK HE hle hlb ⊢
  go_wp2_with fail
  go_loopw [7] (fun i wr => ∃ j : Nat, j ≤ L.length ∧ i = .int .i64 (j : Nat) ∧ Hid (RlI w w2 wr) ∧ Hid ((L.take j).map Nd.k = K.take j)) (fun i _ => L.length - (intOf i).toNat)
  case atStart => exact ⟨0, Nat.zero_le _, rfl, HI, Lib.hid (by simp)⟩
  case round =>
    clear HI hle hlb
    obtain ⟨j, hj, rfl, HI, HT⟩ := hrel
    by_cases hlt : j < L.length
    · have hlt' : (j : Int) < (L.length : Nat) := by omega
      have hltk : j < K.length := by rw [← HLK.out]; exact hlt
      have hltk' : (j : Int) < (K.length : Nat) := by omega
      have HAr := Lib.hid (HA.out.later HI.out.below)
      obtain ⟨A2, cap2, e2, hc⟩ := HAr.out.row
      injection e2 with eA _ ec
      subst eA ec
      obtain ⟨g, o, rfl, hg, h0, h1, h2, h3⟩ := hc j hlt
      obtain ⟨z, hd⟩ : ∃ z, L[j] = z := ⟨_, rfl⟩
      rw [hd] at h0 h1 h2 h3
      obtain ⟨x, hx⟩ : ∃ x, ∀ h, K[j]'h = x := ⟨K[j]'hltk, fun _ => rfl⟩
      have hkx : wr.cell? ⟨gk, j, none⟩ = some (.int .i64 x) := by
        rw [HI.out.since.cell (p := ⟨gk, j, none⟩) HGK.out, HCK.out j hltk, hx]
      have HD := Lib.hid hd
      have HX := Lib.hid hx
      have HLT := Lib.hid hlt
      have HLTK := Lib.hid hltk
      clear hc hd hx
      by_cases hdx : z.k = x
      · have HY := Lib.hid (show (L.take (j + 1)).map Nd.k = K.take (j + 1) by
          rw [List.take_succ_eq_append_getElem HLT.out, List.take_succ_eq_append_getElem HLTK.out, List.map_append, HT.out, HD.out, HX.out, List.map_singleton, hdx])
        have hb : (z.k == x) = true := by simp [hdx]
        go_wp2_with fail
        go_quiet (fail)
        have HI2 := Lib.hid (HI.out.step (below_drewN (Below.refl _ _) nq))
        go_wp2_with fail
        go_roundw
        case rel => exact ⟨j + 1, HLT.out, by go_num, HI2, HY⟩
        case measure => have := HLT.out; simp [intOf]; omega
      · have hb : (z.k == x) = false := beq_eq_false_iff_ne.2 hdx
        go_wp2_with fail
        go_quiet (fail)
        have HI2 := Lib.hid (HI.out.step (below_drewN (Below.refl _ _) nq))
        have r0 : (wr.drewN nq).cell? ⟨w.heap.size, 0, none⟩ = some (.int .i64 0) := blk_cell HI2.out.res 0
        have s0 := blk_frozen HI2.out.res 0
        have r1 : (wr.drewN nq).cell? ⟨w.heap.size, 1, none⟩ = some (.int .i64 0) := blk_cell HI2.out.res 1
        have s1 := blk_frozen HI2.out.res 1
        have r2 : (wr.drewN nq).cell? ⟨w.heap.size, 2, none⟩ = some (.string ⟨#[]⟩) := blk_cell HI2.out.res 2
        have s2 := blk_frozen HI2.out.res 2
        have r3 : (wr.drewN nq).cell? ⟨w.heap.size, 3, none⟩ = some (.slice none 0 0) := blk_cell HI2.out.res 3
        have s3 := blk_frozen HI2.out.res 3
        go_wp2_with fail
        have H4 := dat_put HI2.out.res (0) (0) (⟨#[]⟩)
        have HB4 := Lib.hid (below_put HI2.out.below (0) (0) (⟨#[]⟩))
        have q0 := blk_cell H4 0
        have q1 := blk_cell H4 1
        have q2 := blk_cell H4 2
        have q3 := blk_cell H4 3
        clear r0 r1 r2 r3 s0 s1 s2 s3
        (try simp only [Exit.inBlock, Exit.then])
        refine bodyPost_ret (by simp [results, Tryz.results14, go_sem, q0, q1, q2, q3]; rfl) rfl ?_
        exact ⟨rfl, HB4.out⟩
    · exfalso
      obtain rfl : j = L.length := by omega
      have h := HT.out
      have hlk := HLK.out
      rw [List.take_length, hlk, List.take_length] at h
      have h2 := HE.out
      unfold eqK at h2
      rw [h] at h2
      simp at h2
set_option maxRecDepth 100000 in
set_option maxHeartbeats 40000000 in
theorem reval_1 (n : Int) (d : Nd) (v : Value) (w : World) (hA : ArgsAt [d] v w) (hn : n = 29 ∨ n = 34 ∨ n = 35 ∨ n = 36 ∨ n = 37 ∨ n = 38 ∨ n = 39) (hl : [d].any (fun d => !plainN d) = false) (hk : eqK [d] (kindsN n) = true) :
    Calls Tryz.prog 14 #[.int .i64 n, v] w (Giv (resRV (valR n d d d)) w) := by
  have HTX := Lib.hid (fun v3 w3  => rtextA_1 n d v3 w3 hn hl hk)
  obtain ⟨R, hR⟩ : ∃ R, valR n d d d = R := ⟨_, rfl⟩
  rw [hR] at HTX ⊢
  clear hR
  have hp : pureB n = true := by unfold pureB; exact decide_eq_true (by omega)
  have hlen : 1 = (kindsN n).length := by rcases hn with rfl | rfl | rfl | rfl | rfl | rfl | rfl <;> rfl
  have HA := Lib.hid hA
  obtain ⟨A, cap, rfl, hc0⟩ := hA.row
  have hL3 : 1 ≤ 3 := by rw [hlen]; unfold kindsN; (repeat' split) <;> decide
  have hle : (((kindsN n).length : Nat) : Int) = 1 := by omega
  have hlb : True := trivial
  have HP := Lib.hid hp
  have HE := Lib.hid hk
  clear hk hl
  rw [show [d].length = 1 from rfl]
  clear hA hc0 hp
  go_enter Tryz.func14, Tryz.ntmps14
  go_upto_region 1 with (fail)
  have HR := Lib.hid (blk_new w (.cells #[.int .i64 0, .int .i64 0, .string ⟨#[]⟩, .slice none 0 0] 26 (0, 0)))
  have HB := Lib.hid (below_alloc (Below.refl w.heap.size w) (.cells #[.int .i64 0, .int .i64 0, .string ⟨#[]⟩, .slice none 0 0] 26))
  generalize w.alloc (.cells #[.int .i64 0, .int .i64 0, .string ⟨#[]⟩, .slice none 0 0] 26) = w0 at HR HB ⊢
  go_wp2_with fail
  refine (rkinds_of n _ HP.out).mono ?_
  rintro e2 w2 ⟨⟨u, rfl, hK⟩, hb2⟩
  obtain ⟨gk, capk, rfl, hgk, hck⟩ := hK.row
  have HI := Lib.hid (⟨blk_below HR.out hb2, below_step HB.out hb2, Below.refl _ _⟩ : RlI w w2 w2)
  have HGK := Lib.hid hgk
  have HCK := Lib.hid hck
  clear hb2 hK hck hgk HR HB
  have HLK : Hid (1 = (kindsN n).length) := Lib.hid hlen
  clear hlen
  go_upto_region 4 with (fail)
  generalize kindsN n = K at HCK HLK HE hle hlb ⊢
  go_wp2_with fail
  go_loopw [7] (fun i wr => ∃ j : Nat, j ≤ 1 ∧ i = .int .i64 (j : Nat) ∧ Hid (RlI w w2 wr) ∧ Hid (([d].take j).map Nd.k = K.take j)) (fun i _ => 1 - (intOf i).toNat)
  case atStart => exact ⟨0, Nat.zero_le _, rfl, HI, Lib.hid (by simp)⟩
  case round =>
    clear HI hle hlb
    obtain ⟨j, hj, rfl, HI, HT⟩ := hrel
    by_cases hlt : j < 1
    · have hlt' : (j : Int) < (1 : Nat) := by omega
      have hltk : j < K.length := by rw [← HLK.out]; exact hlt
      have hltk' : (j : Int) < (K.length : Nat) := by omega
      have HAr := Lib.hid (HA.out.later HI.out.below)
      obtain ⟨A2, cap2, e2, hc⟩ := HAr.out.row
      injection e2 with eA _ ec
      subst eA ec
      obtain ⟨g, o, rfl, hg, h0, h1, h2, h3⟩ := hc j hlt
      obtain ⟨z, hd⟩ : ∃ z, [d][j] = z := ⟨_, rfl⟩
      rw [hd] at h0 h1 h2 h3
      obtain ⟨x, hx⟩ : ∃ x, ∀ h, K[j]'h = x := ⟨K[j]'hltk, fun _ => rfl⟩
      have hkx : wr.cell? ⟨gk, j, none⟩ = some (.int .i64 x) := by
        rw [HI.out.since.cell (p := ⟨gk, j, none⟩) HGK.out, HCK.out j hltk, hx]
      have HD := Lib.hid hd
      have HX := Lib.hid hx
      have HLT := Lib.hid hlt
      have HLTK := Lib.hid hltk
      clear hc hd hx
      by_cases hdx : z.k = x
      · have HY := Lib.hid (show ([d].take (j + 1)).map Nd.k = K.take (j + 1) by
          rw [List.take_succ_eq_append_getElem HLT.out, List.take_succ_eq_append_getElem HLTK.out, List.map_append, HT.out, HD.out, HX.out, List.map_singleton, hdx])
        have hb : (z.k == x) = true := by simp [hdx]
        go_wp2_with fail
        go_quiet (fail)
        have HI2 := Lib.hid (HI.out.step (below_drewN (Below.refl _ _) nq))
        go_wp2_with fail
        go_roundw
        case rel => exact ⟨j + 1, HLT.out, by go_num, HI2, HY⟩
        case measure => have := HLT.out; simp [intOf]; omega
      · exfalso
        have h2 := HE.out
        unfold eqK at h2
        have h3 := of_decide_eq_true h2
        subst h3
        have h := HX.out (by simpa using HLT.out)
        rw [List.getElem_map, HD.out] at h
        exact hdx h
    · obtain rfl : j = 1 := by simp at hlt hj; omega
      clear HT HE HCK HGK HLK
      have HAr := Lib.hid (HA.out.later HI.out.below)
      obtain ⟨A2, cap2, e2, hc⟩ := HAr.out.row
      injection e2 with eA _ ec
      subst eA ec
      obtain ⟨g, o, rfl, hg, a0, a1, a2, a3⟩ := hc 0 (by simp)
      replace a0 : wr.cell? ⟨g, o, none⟩ = some (.int .i64 d.k) := a0
      replace a1 : wr.cell? ⟨g, o + 1, none⟩ = some (.int .i64 d.n) := a1
      replace a2 : wr.cell? ⟨g, o + 2, none⟩ = some (.string d.t) := a2
      replace a3 : wr.cell? ⟨g, o + 3, none⟩ = some (.slice d.a d.m d.c) := a3
      have hg2 : g < wr.heap.size := hg
      clear hc
      have y0 := keep_al (o := (.cells #[.int .i64 d.k, .int .i64 d.n, .string d.t, .slice d.a d.m d.c] 26 (0, 0))) a0
      have y1 := keep_al (o := (.cells #[.int .i64 d.k, .int .i64 d.n, .string d.t, .slice d.a d.m d.c] 26 (0, 0))) a1
      have y2 := keep_al (o := (.cells #[.int .i64 d.k, .int .i64 d.n, .string d.t, .slice d.a d.m d.c] 26 (0, 0))) a2
      have y3 := keep_al (o := (.cells #[.int .i64 d.k, .int .i64 d.n, .string d.t, .slice d.a d.m d.c] 26 (0, 0))) a3
      go_upto_region 11 with (fail)
      have HM := Lib.hid (rmI_start HI.out d d)
      generalize (wr.alloc (.cells #[.int .i64 d.k, .int .i64 d.n, .string d.t, .slice d.a d.m d.c] 26)).alloc (.cells #[.int .i64 d.k, .int .i64 d.n, .string d.t, .slice d.a d.m d.c] 26) = w5 at HM ⊢
      generalize wr.heap.size = bx at HM ⊢
      clear y0 y1 y2 y3 a0 a1 a2 a3 hg2 hg hlt hj
      have p0 : w5.cell? ⟨bx, 0, none⟩ = some (.int .i64 d.k) := blk_cell HM.out.one 0
      have p1 : w5.cell? ⟨bx, 1, none⟩ = some (.int .i64 d.n) := blk_cell HM.out.one 1
      have p2 : w5.cell? ⟨bx, 2, none⟩ = some (.string d.t) := blk_cell HM.out.one 2
      have p3 : w5.cell? ⟨bx, 3, none⟩ = some (.slice d.a d.m d.c) := blk_cell HM.out.one 3
      have l0 : w5.cell? ⟨bx + 1, 0, none⟩ = some (.int .i64 d.k) := blk_cell HM.out.last 0
      have l1 : w5.cell? ⟨bx + 1, 1, none⟩ = some (.int .i64 d.n) := blk_cell HM.out.last 1
      have l2 : w5.cell? ⟨bx + 1, 2, none⟩ = some (.string d.t) := blk_cell HM.out.last 2
      have l3 : w5.cell? ⟨bx + 1, 3, none⟩ = some (.slice d.a d.m d.c) := blk_cell HM.out.last 3
      have r0 : w5.cell? ⟨w.heap.size, 0, none⟩ = some (.int .i64 0) := blk_cell HM.out.res 0
      have s0 := blk_frozen HM.out.res 0
      have r1 : w5.cell? ⟨w.heap.size, 1, none⟩ = some (.int .i64 0) := blk_cell HM.out.res 1
      have s1 := blk_frozen HM.out.res 1
      have r2 : w5.cell? ⟨w.heap.size, 2, none⟩ = some (.string ⟨#[]⟩) := blk_cell HM.out.res 2
      have s2 := blk_frozen HM.out.res 2
      have r3 : w5.cell? ⟨w.heap.size, 3, none⟩ = some (.slice none 0 0) := blk_cell HM.out.res 3
      have s3 := blk_frozen HM.out.res 3
      have n1 : (n == 1) = false := beq_eq_false_iff_ne.2 (by omega)
      have n2 : (n == 2) = false := beq_eq_false_iff_ne.2 (by omega)
      have n3 : (n == 3) = false := beq_eq_false_iff_ne.2 (by omega)
      have n4 : (n == 4) = false := beq_eq_false_iff_ne.2 (by omega)
      have n5 : (n == 5) = false := beq_eq_false_iff_ne.2 (by omega)
      have n6 : (n == 6) = false := beq_eq_false_iff_ne.2 (by omega)
      have n7 : (n == 7) = false := beq_eq_false_iff_ne.2 (by omega)
      have n8 : (n == 8) = false := beq_eq_false_iff_ne.2 (by omega)
      go_wp2_with fail
      refine (HTX.out _ _).mono ?_
      rintro e6 w6 ⟨rfl, hb6⟩
      have HM6 := Lib.hid (HM.out.step hb6)
      clear r0 r1 r2 r3 s0 s1 s2 s3 hb6
      unfold resRV
      have r0 : w6.cell? ⟨w.heap.size, 0, none⟩ = some (.int .i64 0) := blk_cell HM6.out.res 0
      have s0 := blk_frozen HM6.out.res 0
      have r1 : w6.cell? ⟨w.heap.size, 1, none⟩ = some (.int .i64 0) := blk_cell HM6.out.res 1
      have s1 := blk_frozen HM6.out.res 1
      have r2 : w6.cell? ⟨w.heap.size, 2, none⟩ = some (.string ⟨#[]⟩) := blk_cell HM6.out.res 2
      have s2 := blk_frozen HM6.out.res 2
      have r3 : w6.cell? ⟨w.heap.size, 3, none⟩ = some (.slice none 0 0) := blk_cell HM6.out.res 3
      have s3 := blk_frozen HM6.out.res 3
      go_wp2_with fail
      have H4 := dat_put HM6.out.res (R.k) (R.n) (R.t)
      have HB4 := Lib.hid (below_put HM6.out.below (R.k) (R.n) (R.t))
      have q0 := blk_cell H4 0
      have q1 := blk_cell H4 1
      have q2 := blk_cell H4 2
      have q3 := blk_cell H4 3
      clear r0 r1 r2 r3 s0 s1 s2 s3
      (try simp only [Exit.inBlock, Exit.then])
      refine bodyPost_ret (by simp [results, Tryz.results14, go_sem, q0, q1, q2, q3]; rfl) rfl ?_
      exact ⟨rfl, HB4.out⟩
end Go.Proofs.YtneokkhnjnomdaaGreatDoor

/-! GrG -/
namespace Go.Proofs.YtneokkhnjnomdaaGreatDoor
open Go.RowKit Go.Proofs.YtneokkhnjnomdaaGreatDoorW.PrintWords

set_option maxRecDepth 100000 in
set_option maxHeartbeats 40000000 in
theorem reval_2 (n : Int) (d e : Nd) (v : Value) (w : World) (hA : ArgsAt [d, e] v w) (hn : n = 30 ∨ n = 31 ∨ n = 32) (hl : [d, e].any (fun d => !plainN d) = false) (hk : eqK [d, e] (kindsN n) = true) :
    Calls Tryz.prog 14 #[.int .i64 n, v] w (Giv (resRV (valR n d e e)) w) := by
  have HTX := Lib.hid (fun v3 w3  => rtextA_2 n d e v3 w3 hn hl hk)
  obtain ⟨R, hR⟩ : ∃ R, valR n d e e = R := ⟨_, rfl⟩
  rw [hR] at HTX ⊢
  clear hR
  have hp : pureB n = true := by unfold pureB; exact decide_eq_true (by omega)
  have hlen : 2 = (kindsN n).length := by rcases hn with rfl | rfl | rfl <;> rfl
  have HA := Lib.hid hA
  obtain ⟨A, cap, rfl, hc0⟩ := hA.row
  have hL3 : 2 ≤ 3 := by rw [hlen]; unfold kindsN; (repeat' split) <;> decide
  have hle : (((kindsN n).length : Nat) : Int) = 2 := by omega
  have hlb : True := trivial
  have HP := Lib.hid hp
  have HE := Lib.hid hk
  clear hk hl
  rw [show [d, e].length = 2 from rfl]
  clear hA hc0 hp
  go_enter Tryz.func14, Tryz.ntmps14
  go_upto_region 1 with (fail)
  have HR := Lib.hid (blk_new w (.cells #[.int .i64 0, .int .i64 0, .string ⟨#[]⟩, .slice none 0 0] 26 (0, 0)))
  have HB := Lib.hid (below_alloc (Below.refl w.heap.size w) (.cells #[.int .i64 0, .int .i64 0, .string ⟨#[]⟩, .slice none 0 0] 26))
  generalize w.alloc (.cells #[.int .i64 0, .int .i64 0, .string ⟨#[]⟩, .slice none 0 0] 26) = w0 at HR HB ⊢
  go_wp2_with fail
  refine (rkinds_of n _ HP.out).mono ?_
  rintro e2 w2 ⟨⟨u, rfl, hK⟩, hb2⟩
  obtain ⟨gk, capk, rfl, hgk, hck⟩ := hK.row
  have HI := Lib.hid (⟨blk_below HR.out hb2, below_step HB.out hb2, Below.refl _ _⟩ : RlI w w2 w2)
  have HGK := Lib.hid hgk
  have HCK := Lib.hid hck
  clear hb2 hK hck hgk HR HB
  have HLK : Hid (2 = (kindsN n).length) := Lib.hid hlen
  clear hlen
  go_upto_region 4 with (fail)
  generalize kindsN n = K at HCK HLK HE hle hlb ⊢
  go_wp2_with fail
  go_loopw [7] (fun i wr => ∃ j : Nat, j ≤ 2 ∧ i = .int .i64 (j : Nat) ∧ Hid (RlI w w2 wr) ∧ Hid (([d, e].take j).map Nd.k = K.take j)) (fun i _ => 2 - (intOf i).toNat)
  case atStart => exact ⟨0, Nat.zero_le _, rfl, HI, Lib.hid (by simp)⟩
  case round =>
    clear HI hle hlb
    obtain ⟨j, hj, rfl, HI, HT⟩ := hrel
    by_cases hlt : j < 2
    · have hlt' : (j : Int) < (2 : Nat) := by omega
      have hltk : j < K.length := by rw [← HLK.out]; exact hlt
      have hltk' : (j : Int) < (K.length : Nat) := by omega
      have HAr := Lib.hid (HA.out.later HI.out.below)
      obtain ⟨A2, cap2, e2, hc⟩ := HAr.out.row
      injection e2 with eA _ ec
      subst eA ec
      obtain ⟨g, o, rfl, hg, h0, h1, h2, h3⟩ := hc j hlt
      obtain ⟨z, hd⟩ : ∃ z, [d, e][j] = z := ⟨_, rfl⟩
      rw [hd] at h0 h1 h2 h3
      obtain ⟨x, hx⟩ : ∃ x, ∀ h, K[j]'h = x := ⟨K[j]'hltk, fun _ => rfl⟩
      have hkx : wr.cell? ⟨gk, j, none⟩ = some (.int .i64 x) := by
        rw [HI.out.since.cell (p := ⟨gk, j, none⟩) HGK.out, HCK.out j hltk, hx]
      have HD := Lib.hid hd
      have HX := Lib.hid hx
      have HLT := Lib.hid hlt
      have HLTK := Lib.hid hltk
      clear hc hd hx
      by_cases hdx : z.k = x
      · have HY := Lib.hid (show ([d, e].take (j + 1)).map Nd.k = K.take (j + 1) by
          rw [List.take_succ_eq_append_getElem HLT.out, List.take_succ_eq_append_getElem HLTK.out, List.map_append, HT.out, HD.out, HX.out, List.map_singleton, hdx])
        have hb : (z.k == x) = true := by simp [hdx]
        go_wp2_with fail
        go_quiet (fail)
        have HI2 := Lib.hid (HI.out.step (below_drewN (Below.refl _ _) nq))
        go_wp2_with fail
        go_roundw
        case rel => exact ⟨j + 1, HLT.out, by go_num, HI2, HY⟩
        case measure => have := HLT.out; simp [intOf]; omega
      · exfalso
        have h2 := HE.out
        unfold eqK at h2
        have h3 := of_decide_eq_true h2
        subst h3
        have h := HX.out (by simpa using HLT.out)
        rw [List.getElem_map, HD.out] at h
        exact hdx h
    · obtain rfl : j = 2 := by simp at hlt hj; omega
      clear HT HE HCK HGK HLK
      have HAr := Lib.hid (HA.out.later HI.out.below)
      obtain ⟨A2, cap2, e2, hc⟩ := HAr.out.row
      injection e2 with eA _ ec
      subst eA ec
      obtain ⟨g, o, rfl, hg, a0, a1, a2, a3⟩ := hc 0 (by simp)
      obtain ⟨g1, o1, e1, -, b0, b1, b2, b3⟩ := hc 1 (by simp)
      injection e1 with e1
      injection e1 with eg1 eo1 _
      subst eg1 eo1
      replace a0 : wr.cell? ⟨g, o, none⟩ = some (.int .i64 d.k) := a0
      replace a1 : wr.cell? ⟨g, o + 1, none⟩ = some (.int .i64 d.n) := a1
      replace a2 : wr.cell? ⟨g, o + 2, none⟩ = some (.string d.t) := a2
      replace a3 : wr.cell? ⟨g, o + 3, none⟩ = some (.slice d.a d.m d.c) := a3
      replace b0 : wr.cell? ⟨g, o + 4, none⟩ = some (.int .i64 e.k) := b0
      replace b1 : wr.cell? ⟨g, o + 5, none⟩ = some (.int .i64 e.n) := b1
      replace b2 : wr.cell? ⟨g, o + 6, none⟩ = some (.string e.t) := b2
      replace b3 : wr.cell? ⟨g, o + 7, none⟩ = some (.slice e.a e.m e.c) := b3
      have hg2 : g < wr.heap.size := hg
      clear hc
      have y0 := keep_al (o := (.cells #[.int .i64 d.k, .int .i64 d.n, .string d.t, .slice d.a d.m d.c] 26 (0, 0))) b0
      have y1 := keep_al (o := (.cells #[.int .i64 d.k, .int .i64 d.n, .string d.t, .slice d.a d.m d.c] 26 (0, 0))) b1
      have y2 := keep_al (o := (.cells #[.int .i64 d.k, .int .i64 d.n, .string d.t, .slice d.a d.m d.c] 26 (0, 0))) b2
      have y3 := keep_al (o := (.cells #[.int .i64 d.k, .int .i64 d.n, .string d.t, .slice d.a d.m d.c] 26 (0, 0))) b3
      go_upto_region 11 with (fail)
      have HM := Lib.hid (rmI_start HI.out d e)
      generalize (wr.alloc (.cells #[.int .i64 d.k, .int .i64 d.n, .string d.t, .slice d.a d.m d.c] 26)).alloc (.cells #[.int .i64 e.k, .int .i64 e.n, .string e.t, .slice e.a e.m e.c] 26) = w5 at HM ⊢
      generalize wr.heap.size = bx at HM ⊢
      clear y0 y1 y2 y3 a0 a1 a2 a3 b0 b1 b2 b3 hg2 hg hlt hj
      have p0 : w5.cell? ⟨bx, 0, none⟩ = some (.int .i64 d.k) := blk_cell HM.out.one 0
      have p1 : w5.cell? ⟨bx, 1, none⟩ = some (.int .i64 d.n) := blk_cell HM.out.one 1
      have p2 : w5.cell? ⟨bx, 2, none⟩ = some (.string d.t) := blk_cell HM.out.one 2
      have p3 : w5.cell? ⟨bx, 3, none⟩ = some (.slice d.a d.m d.c) := blk_cell HM.out.one 3
      have l0 : w5.cell? ⟨bx + 1, 0, none⟩ = some (.int .i64 e.k) := blk_cell HM.out.last 0
      have l1 : w5.cell? ⟨bx + 1, 1, none⟩ = some (.int .i64 e.n) := blk_cell HM.out.last 1
      have l2 : w5.cell? ⟨bx + 1, 2, none⟩ = some (.string e.t) := blk_cell HM.out.last 2
      have l3 : w5.cell? ⟨bx + 1, 3, none⟩ = some (.slice e.a e.m e.c) := blk_cell HM.out.last 3
      have r0 : w5.cell? ⟨w.heap.size, 0, none⟩ = some (.int .i64 0) := blk_cell HM.out.res 0
      have s0 := blk_frozen HM.out.res 0
      have r1 : w5.cell? ⟨w.heap.size, 1, none⟩ = some (.int .i64 0) := blk_cell HM.out.res 1
      have s1 := blk_frozen HM.out.res 1
      have r2 : w5.cell? ⟨w.heap.size, 2, none⟩ = some (.string ⟨#[]⟩) := blk_cell HM.out.res 2
      have s2 := blk_frozen HM.out.res 2
      have r3 : w5.cell? ⟨w.heap.size, 3, none⟩ = some (.slice none 0 0) := blk_cell HM.out.res 3
      have s3 := blk_frozen HM.out.res 3
      have n1 : (n == 1) = false := beq_eq_false_iff_ne.2 (by omega)
      have n2 : (n == 2) = false := beq_eq_false_iff_ne.2 (by omega)
      have n3 : (n == 3) = false := beq_eq_false_iff_ne.2 (by omega)
      have n4 : (n == 4) = false := beq_eq_false_iff_ne.2 (by omega)
      have n5 : (n == 5) = false := beq_eq_false_iff_ne.2 (by omega)
      have n6 : (n == 6) = false := beq_eq_false_iff_ne.2 (by omega)
      have n7 : (n == 7) = false := beq_eq_false_iff_ne.2 (by omega)
      have n8 : (n == 8) = false := beq_eq_false_iff_ne.2 (by omega)
      go_wp2_with fail
      refine (HTX.out _ _).mono ?_
      rintro e6 w6 ⟨rfl, hb6⟩
      have HM6 := Lib.hid (HM.out.step hb6)
      clear r0 r1 r2 r3 s0 s1 s2 s3 hb6
      unfold resRV
      have r0 : w6.cell? ⟨w.heap.size, 0, none⟩ = some (.int .i64 0) := blk_cell HM6.out.res 0
      have s0 := blk_frozen HM6.out.res 0
      have r1 : w6.cell? ⟨w.heap.size, 1, none⟩ = some (.int .i64 0) := blk_cell HM6.out.res 1
      have s1 := blk_frozen HM6.out.res 1
      have r2 : w6.cell? ⟨w.heap.size, 2, none⟩ = some (.string ⟨#[]⟩) := blk_cell HM6.out.res 2
      have s2 := blk_frozen HM6.out.res 2
      have r3 : w6.cell? ⟨w.heap.size, 3, none⟩ = some (.slice none 0 0) := blk_cell HM6.out.res 3
      have s3 := blk_frozen HM6.out.res 3
      go_wp2_with fail
      have H4 := dat_put HM6.out.res (R.k) (R.n) (R.t)
      have HB4 := Lib.hid (below_put HM6.out.below (R.k) (R.n) (R.t))
      have q0 := blk_cell H4 0
      have q1 := blk_cell H4 1
      have q2 := blk_cell H4 2
      have q3 := blk_cell H4 3
      clear r0 r1 r2 r3 s0 s1 s2 s3
      (try simp only [Exit.inBlock, Exit.then])
      refine bodyPost_ret (by simp [results, Tryz.results14, go_sem, q0, q1, q2, q3]; rfl) rfl ?_
      exact ⟨rfl, HB4.out⟩
end Go.Proofs.YtneokkhnjnomdaaGreatDoor

/-! GrH -/
namespace Go.Proofs.YtneokkhnjnomdaaGreatDoor
open Go.RowKit Go.Proofs.YtneokkhnjnomdaaGreatDoorW.PrintWords

set_option maxRecDepth 100000 in
set_option maxHeartbeats 40000000 in
theorem reval_3 (d e f : Nd) (v : Value) (w : World) (hA : ArgsAt [d, e, f] v w) (hk : eqK [d, e, f] (kindsN 33) = true) :
    Calls Tryz.prog 14 #[.int .i64 33, v] w (Giv (resRV (valR 33 d e f)) w) := by
  have HTX := Lib.hid (fun v3 w3 hA3 => rtextA_3 33 d e f v3 w3 rfl hA3)
  obtain ⟨R, hR⟩ : ∃ R, valR 33 d e f = R := ⟨_, rfl⟩
  rw [hR] at HTX ⊢
  clear hR
  have hp : pureB 33 = true := rfl
  have hlen : 3 = (kindsN 33).length := by rfl
  have HA := Lib.hid hA
  obtain ⟨A, cap, rfl, hc0⟩ := hA.row
  have hL3 : 3 ≤ 3 := by rw [hlen]; unfold kindsN; (repeat' split) <;> decide
  have hle : (((kindsN 33).length : Nat) : Int) = 3 := by omega
  have hlb : True := trivial
  have HP := Lib.hid hp
  have HE := Lib.hid hk
  clear hk
  rw [show [d, e, f].length = 3 from rfl]
  clear hA hc0 hp
  go_enter Tryz.func14, Tryz.ntmps14
  go_upto_region 1 with (fail)
  have HR := Lib.hid (blk_new w (.cells #[.int .i64 0, .int .i64 0, .string ⟨#[]⟩, .slice none 0 0] 26 (0, 0)))
  have HB := Lib.hid (below_alloc (Below.refl w.heap.size w) (.cells #[.int .i64 0, .int .i64 0, .string ⟨#[]⟩, .slice none 0 0] 26))
  generalize w.alloc (.cells #[.int .i64 0, .int .i64 0, .string ⟨#[]⟩, .slice none 0 0] 26) = w0 at HR HB ⊢
  go_wp2_with fail
  refine (rkinds_of 33 _ HP.out).mono ?_
  rintro e2 w2 ⟨⟨u, rfl, hK⟩, hb2⟩
  obtain ⟨gk, capk, rfl, hgk, hck⟩ := hK.row
  have HI := Lib.hid (⟨blk_below HR.out hb2, below_step HB.out hb2, Below.refl _ _⟩ : RlI w w2 w2)
  have HGK := Lib.hid hgk
  have HCK := Lib.hid hck
  clear hb2 hK hck hgk HR HB
  have HLK : Hid (3 = (kindsN 33).length) := Lib.hid hlen
  clear hlen
  go_upto_region 4 with (fail)
  generalize kindsN 33 = K at HCK HLK HE hle hlb ⊢
  go_wp2_with fail
  go_loopw [7] (fun i wr => ∃ j : Nat, j ≤ 3 ∧ i = .int .i64 (j : Nat) ∧ Hid (RlI w w2 wr) ∧ Hid (([d, e, f].take j).map Nd.k = K.take j)) (fun i _ => 3 - (intOf i).toNat)
  case atStart => exact ⟨0, Nat.zero_le _, rfl, HI, Lib.hid (by simp)⟩
  case round =>
    clear HI hle hlb
    obtain ⟨j, hj, rfl, HI, HT⟩ := hrel
    by_cases hlt : j < 3
    · have hlt' : (j : Int) < (3 : Nat) := by omega
      have hltk : j < K.length := by rw [← HLK.out]; exact hlt
      have hltk' : (j : Int) < (K.length : Nat) := by omega
      have HAr := Lib.hid (HA.out.later HI.out.below)
      obtain ⟨A2, cap2, e2, hc⟩ := HAr.out.row
      injection e2 with eA _ ec
      subst eA ec
      obtain ⟨g, o, rfl, hg, h0, h1, h2, h3⟩ := hc j hlt
      obtain ⟨z, hd⟩ : ∃ z, [d, e, f][j] = z := ⟨_, rfl⟩
      rw [hd] at h0 h1 h2 h3
      obtain ⟨x, hx⟩ : ∃ x, ∀ h, K[j]'h = x := ⟨K[j]'hltk, fun _ => rfl⟩
      have hkx : wr.cell? ⟨gk, j, none⟩ = some (.int .i64 x) := by
        rw [HI.out.since.cell (p := ⟨gk, j, none⟩) HGK.out, HCK.out j hltk, hx]
      have HD := Lib.hid hd
      have HX := Lib.hid hx
      have HLT := Lib.hid hlt
      have HLTK := Lib.hid hltk
      clear hc hd hx
      by_cases hdx : z.k = x
      · have HY := Lib.hid (show ([d, e, f].take (j + 1)).map Nd.k = K.take (j + 1) by
          rw [List.take_succ_eq_append_getElem HLT.out, List.take_succ_eq_append_getElem HLTK.out, List.map_append, HT.out, HD.out, HX.out, List.map_singleton, hdx])
        have hb : (z.k == x) = true := by simp [hdx]
        go_wp2_with fail
        go_quiet (fail)
        have HI2 := Lib.hid (HI.out.step (below_drewN (Below.refl _ _) nq))
        go_wp2_with fail
        go_roundw
        case rel => exact ⟨j + 1, HLT.out, by go_num, HI2, HY⟩
        case measure => have := HLT.out; simp [intOf]; omega
      · exfalso
        have h2 := HE.out
        unfold eqK at h2
        have h3 := of_decide_eq_true h2
        subst h3
        have h := HX.out (by simpa using HLT.out)
        rw [List.getElem_map, HD.out] at h
        exact hdx h
    · obtain rfl : j = 3 := by simp at hlt hj; omega
      clear HT HE HCK HGK HLK
      have HAr := Lib.hid (HA.out.later HI.out.below)
      obtain ⟨A2, cap2, e2, hc⟩ := HAr.out.row
      injection e2 with eA _ ec
      subst eA ec
      obtain ⟨g, o, rfl, hg, a0, a1, a2, a3⟩ := hc 0 (by simp)
      obtain ⟨g1, o1, e1, -, b0, b1, b2, b3⟩ := hc 1 (by simp)
      injection e1 with e1
      injection e1 with eg1 eo1 _
      subst eg1 eo1
      obtain ⟨g2, o2, e2, -, c0, c1, c2, c3⟩ := hc 2 (by simp)
      injection e2 with e2
      injection e2 with eg2 eo2 _
      subst eg2 eo2
      replace a0 : wr.cell? ⟨g, o, none⟩ = some (.int .i64 d.k) := a0
      replace a1 : wr.cell? ⟨g, o + 1, none⟩ = some (.int .i64 d.n) := a1
      replace a2 : wr.cell? ⟨g, o + 2, none⟩ = some (.string d.t) := a2
      replace a3 : wr.cell? ⟨g, o + 3, none⟩ = some (.slice d.a d.m d.c) := a3
      replace b0 : wr.cell? ⟨g, o + 4, none⟩ = some (.int .i64 e.k) := b0
      replace b1 : wr.cell? ⟨g, o + 5, none⟩ = some (.int .i64 e.n) := b1
      replace b2 : wr.cell? ⟨g, o + 6, none⟩ = some (.string e.t) := b2
      replace b3 : wr.cell? ⟨g, o + 7, none⟩ = some (.slice e.a e.m e.c) := b3
      replace c0 : wr.cell? ⟨g, o + 8, none⟩ = some (.int .i64 f.k) := c0
      replace c1 : wr.cell? ⟨g, o + 9, none⟩ = some (.int .i64 f.n) := c1
      replace c2 : wr.cell? ⟨g, o + 10, none⟩ = some (.string f.t) := c2
      replace c3 : wr.cell? ⟨g, o + 11, none⟩ = some (.slice f.a f.m f.c) := c3
      have hg2 : g < wr.heap.size := hg
      clear hc
      have y0 := keep_al (o := (.cells #[.int .i64 d.k, .int .i64 d.n, .string d.t, .slice d.a d.m d.c] 26 (0, 0))) c0
      have y1 := keep_al (o := (.cells #[.int .i64 d.k, .int .i64 d.n, .string d.t, .slice d.a d.m d.c] 26 (0, 0))) c1
      have y2 := keep_al (o := (.cells #[.int .i64 d.k, .int .i64 d.n, .string d.t, .slice d.a d.m d.c] 26 (0, 0))) c2
      have y3 := keep_al (o := (.cells #[.int .i64 d.k, .int .i64 d.n, .string d.t, .slice d.a d.m d.c] 26 (0, 0))) c3
      go_upto_region 11 with (fail)
      have HM := Lib.hid (rmI_start HI.out d f)
      generalize (wr.alloc (.cells #[.int .i64 d.k, .int .i64 d.n, .string d.t, .slice d.a d.m d.c] 26)).alloc (.cells #[.int .i64 f.k, .int .i64 f.n, .string f.t, .slice f.a f.m f.c] 26) = w5 at HM ⊢
      generalize wr.heap.size = bx at HM ⊢
      clear y0 y1 y2 y3 a0 a1 a2 a3 b0 b1 b2 b3 c0 c1 c2 c3 hg2 hg hlt hj
      have p0 : w5.cell? ⟨bx, 0, none⟩ = some (.int .i64 d.k) := blk_cell HM.out.one 0
      have p1 : w5.cell? ⟨bx, 1, none⟩ = some (.int .i64 d.n) := blk_cell HM.out.one 1
      have p2 : w5.cell? ⟨bx, 2, none⟩ = some (.string d.t) := blk_cell HM.out.one 2
      have p3 : w5.cell? ⟨bx, 3, none⟩ = some (.slice d.a d.m d.c) := blk_cell HM.out.one 3
      have l0 : w5.cell? ⟨bx + 1, 0, none⟩ = some (.int .i64 f.k) := blk_cell HM.out.last 0
      have l1 : w5.cell? ⟨bx + 1, 1, none⟩ = some (.int .i64 f.n) := blk_cell HM.out.last 1
      have l2 : w5.cell? ⟨bx + 1, 2, none⟩ = some (.string f.t) := blk_cell HM.out.last 2
      have l3 : w5.cell? ⟨bx + 1, 3, none⟩ = some (.slice f.a f.m f.c) := blk_cell HM.out.last 3
      have r0 : w5.cell? ⟨w.heap.size, 0, none⟩ = some (.int .i64 0) := blk_cell HM.out.res 0
      have s0 := blk_frozen HM.out.res 0
      have r1 : w5.cell? ⟨w.heap.size, 1, none⟩ = some (.int .i64 0) := blk_cell HM.out.res 1
      have s1 := blk_frozen HM.out.res 1
      have r2 : w5.cell? ⟨w.heap.size, 2, none⟩ = some (.string ⟨#[]⟩) := blk_cell HM.out.res 2
      have s2 := blk_frozen HM.out.res 2
      have r3 : w5.cell? ⟨w.heap.size, 3, none⟩ = some (.slice none 0 0) := blk_cell HM.out.res 3
      have s3 := blk_frozen HM.out.res 3
      go_wp2_with fail
      refine (HTX.out _ _ (HA.out.later HM.out.below)).mono ?_
      rintro e6 w6 ⟨rfl, hb6⟩
      have HM6 := Lib.hid (HM.out.step hb6)
      clear r0 r1 r2 r3 s0 s1 s2 s3 hb6
      unfold resRV
      have r0 : w6.cell? ⟨w.heap.size, 0, none⟩ = some (.int .i64 0) := blk_cell HM6.out.res 0
      have s0 := blk_frozen HM6.out.res 0
      have r1 : w6.cell? ⟨w.heap.size, 1, none⟩ = some (.int .i64 0) := blk_cell HM6.out.res 1
      have s1 := blk_frozen HM6.out.res 1
      have r2 : w6.cell? ⟨w.heap.size, 2, none⟩ = some (.string ⟨#[]⟩) := blk_cell HM6.out.res 2
      have s2 := blk_frozen HM6.out.res 2
      have r3 : w6.cell? ⟨w.heap.size, 3, none⟩ = some (.slice none 0 0) := blk_cell HM6.out.res 3
      have s3 := blk_frozen HM6.out.res 3
      go_wp2_with fail
      have H4 := dat_put HM6.out.res (R.k) (R.n) (R.t)
      have HB4 := Lib.hid (below_put HM6.out.below (R.k) (R.n) (R.t))
      have q0 := blk_cell H4 0
      have q1 := blk_cell H4 1
      have q2 := blk_cell H4 2
      have q3 := blk_cell H4 3
      clear r0 r1 r2 r3 s0 s1 s2 s3
      (try simp only [Exit.inBlock, Exit.then])
      refine bodyPost_ret (by simp [results, Tryz.results14, go_sem, q0, q1, q2, q3]; rfl) rfl ?_
      exact ⟨rfl, HB4.out⟩
end Go.Proofs.YtneokkhnjnomdaaGreatDoor

/-! GrI -/
namespace Go.Proofs.YtneokkhnjnomdaaGreatDoor
open Go.RowKit Go.Proofs.YtneokkhnjnomdaaGreatDoorW.PrintWords

set_option maxRecDepth 100000 in
set_option maxHeartbeats 40000000 in
theorem reval_2_1 (d e : Nd) (v : Value) (w : World) (hA : ArgsAt [d, e] v w) (hk : eqK [d, e] (kindsN 1) = true) :
    Calls Tryz.prog 14 #[.int .i64 1, v] w (Giv (resRV (valR 1 d e e)) w) := by
  show Calls Tryz.prog _ _ _ (Giv (resRV (numR (addL d.n e.n))) w)
  have cA := Lib.hid (fun w => refadd_any d.n e.n w)
  generalize addL d.n e.n = p at cA ⊢
  have cN := Lib.hid (fun w => rnum_any p w)
  generalize numR p = R at cN ⊢
  have hp : pureB 1 = true := rfl
  have hlen : 2 = (kindsN 1).length := by rfl
  have HA := Lib.hid hA
  obtain ⟨A, cap, rfl, hc0⟩ := hA.row
  have hL3 : 2 ≤ 3 := by rw [hlen]; unfold kindsN; (repeat' split) <;> decide
  have hle : (((kindsN 1).length : Nat) : Int) = 2 := by omega
  have hlb : True := trivial
  have HP := Lib.hid hp
  have HE := Lib.hid hk
  clear hk
  rw [show [d, e].length = 2 from rfl]
  clear hA hc0 hp
  go_enter Tryz.func14, Tryz.ntmps14
  go_upto_region 1 with (fail)
  have HR := Lib.hid (blk_new w (.cells #[.int .i64 0, .int .i64 0, .string ⟨#[]⟩, .slice none 0 0] 26 (0, 0)))
  have HB := Lib.hid (below_alloc (Below.refl w.heap.size w) (.cells #[.int .i64 0, .int .i64 0, .string ⟨#[]⟩, .slice none 0 0] 26))
  generalize w.alloc (.cells #[.int .i64 0, .int .i64 0, .string ⟨#[]⟩, .slice none 0 0] 26) = w0 at HR HB ⊢
  go_wp2_with fail
  refine (rkinds_of 1 _ HP.out).mono ?_
  rintro e2 w2 ⟨⟨u, rfl, hK⟩, hb2⟩
  obtain ⟨gk, capk, rfl, hgk, hck⟩ := hK.row
  have HI := Lib.hid (⟨blk_below HR.out hb2, below_step HB.out hb2, Below.refl _ _⟩ : RlI w w2 w2)
  have HGK := Lib.hid hgk
  have HCK := Lib.hid hck
  clear hb2 hK hck hgk HR HB
  have HLK : Hid (2 = (kindsN 1).length) := Lib.hid hlen
  clear hlen
  go_upto_region 4 with (fail)
  generalize kindsN 1 = K at HCK HLK HE hle hlb ⊢
  go_wp2_with fail
  go_loopw [7] (fun i wr => ∃ j : Nat, j ≤ 2 ∧ i = .int .i64 (j : Nat) ∧ Hid (RlI w w2 wr) ∧ Hid (([d, e].take j).map Nd.k = K.take j)) (fun i _ => 2 - (intOf i).toNat)
  case atStart => exact ⟨0, Nat.zero_le _, rfl, HI, Lib.hid (by simp)⟩
  case round =>
    clear HI hle hlb
    obtain ⟨j, hj, rfl, HI, HT⟩ := hrel
    by_cases hlt : j < 2
    · have hlt' : (j : Int) < (2 : Nat) := by omega
      have hltk : j < K.length := by rw [← HLK.out]; exact hlt
      have hltk' : (j : Int) < (K.length : Nat) := by omega
      have HAr := Lib.hid (HA.out.later HI.out.below)
      obtain ⟨A2, cap2, e2, hc⟩ := HAr.out.row
      injection e2 with eA _ ec
      subst eA ec
      obtain ⟨g, o, rfl, hg, h0, h1, h2, h3⟩ := hc j hlt
      obtain ⟨z, hd⟩ : ∃ z, [d, e][j] = z := ⟨_, rfl⟩
      rw [hd] at h0 h1 h2 h3
      obtain ⟨x, hx⟩ : ∃ x, ∀ h, K[j]'h = x := ⟨K[j]'hltk, fun _ => rfl⟩
      have hkx : wr.cell? ⟨gk, j, none⟩ = some (.int .i64 x) := by
        rw [HI.out.since.cell (p := ⟨gk, j, none⟩) HGK.out, HCK.out j hltk, hx]
      have HD := Lib.hid hd
      have HX := Lib.hid hx
      have HLT := Lib.hid hlt
      have HLTK := Lib.hid hltk
      clear hc hd hx
      by_cases hdx : z.k = x
      · have HY := Lib.hid (show ([d, e].take (j + 1)).map Nd.k = K.take (j + 1) by
          rw [List.take_succ_eq_append_getElem HLT.out, List.take_succ_eq_append_getElem HLTK.out, List.map_append, HT.out, HD.out, HX.out, List.map_singleton, hdx])
        have hb : (z.k == x) = true := by simp [hdx]
        go_wp2_with fail
        go_quiet (fail)
        have HI2 := Lib.hid (HI.out.step (below_drewN (Below.refl _ _) nq))
        go_wp2_with fail
        go_roundw
        case rel => exact ⟨j + 1, HLT.out, by go_num, HI2, HY⟩
        case measure => have := HLT.out; simp [intOf]; omega
      · exfalso
        have h2 := HE.out
        unfold eqK at h2
        have h3 := of_decide_eq_true h2
        subst h3
        have h := HX.out (by simpa using HLT.out)
        rw [List.getElem_map, HD.out] at h
        exact hdx h
    · obtain rfl : j = 2 := by simp at hlt hj; omega
      clear HT HE HCK HGK HLK
      have HAr := Lib.hid (HA.out.later HI.out.below)
      obtain ⟨A2, cap2, e2, hc⟩ := HAr.out.row
      injection e2 with eA _ ec
      subst eA ec
      obtain ⟨g, o, rfl, hg, a0, a1, a2, a3⟩ := hc 0 (by simp)
      obtain ⟨g1, o1, e1, -, b0, b1, b2, b3⟩ := hc 1 (by simp)
      injection e1 with e1
      injection e1 with eg1 eo1 _
      subst eg1 eo1
      replace a0 : wr.cell? ⟨g, o, none⟩ = some (.int .i64 d.k) := a0
      replace a1 : wr.cell? ⟨g, o + 1, none⟩ = some (.int .i64 d.n) := a1
      replace a2 : wr.cell? ⟨g, o + 2, none⟩ = some (.string d.t) := a2
      replace a3 : wr.cell? ⟨g, o + 3, none⟩ = some (.slice d.a d.m d.c) := a3
      replace b0 : wr.cell? ⟨g, o + 4, none⟩ = some (.int .i64 e.k) := b0
      replace b1 : wr.cell? ⟨g, o + 5, none⟩ = some (.int .i64 e.n) := b1
      replace b2 : wr.cell? ⟨g, o + 6, none⟩ = some (.string e.t) := b2
      replace b3 : wr.cell? ⟨g, o + 7, none⟩ = some (.slice e.a e.m e.c) := b3
      have hg2 : g < wr.heap.size := hg
      clear hc
      have y0 := keep_al (o := (.cells #[.int .i64 d.k, .int .i64 d.n, .string d.t, .slice d.a d.m d.c] 26 (0, 0))) b0
      have y1 := keep_al (o := (.cells #[.int .i64 d.k, .int .i64 d.n, .string d.t, .slice d.a d.m d.c] 26 (0, 0))) b1
      have y2 := keep_al (o := (.cells #[.int .i64 d.k, .int .i64 d.n, .string d.t, .slice d.a d.m d.c] 26 (0, 0))) b2
      have y3 := keep_al (o := (.cells #[.int .i64 d.k, .int .i64 d.n, .string d.t, .slice d.a d.m d.c] 26 (0, 0))) b3
      go_upto_region 11 with (fail)
      have HM := Lib.hid (rmI_start HI.out d e)
      generalize (wr.alloc (.cells #[.int .i64 d.k, .int .i64 d.n, .string d.t, .slice d.a d.m d.c] 26)).alloc (.cells #[.int .i64 e.k, .int .i64 e.n, .string e.t, .slice e.a e.m e.c] 26) = w5 at HM ⊢
      generalize wr.heap.size = bx at HM ⊢
      clear y0 y1 y2 y3 a0 a1 a2 a3 b0 b1 b2 b3 hg2 hg hlt hj
      have p0 : w5.cell? ⟨bx, 0, none⟩ = some (.int .i64 d.k) := blk_cell HM.out.one 0
      have p1 : w5.cell? ⟨bx, 1, none⟩ = some (.int .i64 d.n) := blk_cell HM.out.one 1
      have p2 : w5.cell? ⟨bx, 2, none⟩ = some (.string d.t) := blk_cell HM.out.one 2
      have p3 : w5.cell? ⟨bx, 3, none⟩ = some (.slice d.a d.m d.c) := blk_cell HM.out.one 3
      have l0 : w5.cell? ⟨bx + 1, 0, none⟩ = some (.int .i64 e.k) := blk_cell HM.out.last 0
      have l1 : w5.cell? ⟨bx + 1, 1, none⟩ = some (.int .i64 e.n) := blk_cell HM.out.last 1
      have l2 : w5.cell? ⟨bx + 1, 2, none⟩ = some (.string e.t) := blk_cell HM.out.last 2
      have l3 : w5.cell? ⟨bx + 1, 3, none⟩ = some (.slice e.a e.m e.c) := blk_cell HM.out.last 3
      have r0 : w5.cell? ⟨w.heap.size, 0, none⟩ = some (.int .i64 0) := blk_cell HM.out.res 0
      have s0 := blk_frozen HM.out.res 0
      have r1 : w5.cell? ⟨w.heap.size, 1, none⟩ = some (.int .i64 0) := blk_cell HM.out.res 1
      have s1 := blk_frozen HM.out.res 1
      have r2 : w5.cell? ⟨w.heap.size, 2, none⟩ = some (.string ⟨#[]⟩) := blk_cell HM.out.res 2
      have s2 := blk_frozen HM.out.res 2
      have r3 : w5.cell? ⟨w.heap.size, 3, none⟩ = some (.slice none 0 0) := blk_cell HM.out.res 3
      have s3 := blk_frozen HM.out.res 3
      go_wp2_with fail
      refine (cA.out _).mono ?_
      rintro e7 w7 ⟨rfl, rfl⟩
      unfold refV
      go_wp2_with fail
      refine (cN.out _).mono ?_
      rintro e6 w6 ⟨rfl, hb6⟩
      have HM6 := Lib.hid (HM.out.step hb6)
      clear r0 r1 r2 r3 s0 s1 s2 s3 hb6
      unfold resRV
      have r0 : w6.cell? ⟨w.heap.size, 0, none⟩ = some (.int .i64 0) := blk_cell HM6.out.res 0
      have s0 := blk_frozen HM6.out.res 0
      have r1 : w6.cell? ⟨w.heap.size, 1, none⟩ = some (.int .i64 0) := blk_cell HM6.out.res 1
      have s1 := blk_frozen HM6.out.res 1
      have r2 : w6.cell? ⟨w.heap.size, 2, none⟩ = some (.string ⟨#[]⟩) := blk_cell HM6.out.res 2
      have s2 := blk_frozen HM6.out.res 2
      have r3 : w6.cell? ⟨w.heap.size, 3, none⟩ = some (.slice none 0 0) := blk_cell HM6.out.res 3
      have s3 := blk_frozen HM6.out.res 3
      go_wp2_with fail
      have H4 := dat_put HM6.out.res (R.k) (R.n) (R.t)
      have HB4 := Lib.hid (below_put HM6.out.below (R.k) (R.n) (R.t))
      have q0 := blk_cell H4 0
      have q1 := blk_cell H4 1
      have q2 := blk_cell H4 2
      have q3 := blk_cell H4 3
      clear r0 r1 r2 r3 s0 s1 s2 s3
      (try simp only [Exit.inBlock, Exit.then])
      refine bodyPost_ret (by simp [results, Tryz.results14, go_sem, q0, q1, q2, q3]; rfl) rfl ?_
      exact ⟨rfl, HB4.out⟩
set_option maxRecDepth 100000 in
set_option maxHeartbeats 40000000 in
theorem reval_2_2 (d e : Nd) (v : Value) (w : World) (hA : ArgsAt [d, e] v w) (hk : eqK [d, e] (kindsN 2) = true) :
    Calls Tryz.prog 14 #[.int .i64 2, v] w (Giv (resRV (valR 2 d e e)) w) := by
  show Calls Tryz.prog _ _ _ (Giv (resRV (numR (subL d.n e.n))) w)
  have cA := Lib.hid (fun w => refsub_any d.n e.n w)
  generalize subL d.n e.n = p at cA ⊢
  have cN := Lib.hid (fun w => rnum_any p w)
  generalize numR p = R at cN ⊢
  have hp : pureB 2 = true := rfl
  have hlen : 2 = (kindsN 2).length := by rfl
  have HA := Lib.hid hA
  obtain ⟨A, cap, rfl, hc0⟩ := hA.row
  have hL3 : 2 ≤ 3 := by rw [hlen]; unfold kindsN; (repeat' split) <;> decide
  have hle : (((kindsN 2).length : Nat) : Int) = 2 := by omega
  have hlb : True := trivial
  have HP := Lib.hid hp
  have HE := Lib.hid hk
  clear hk
  rw [show [d, e].length = 2 from rfl]
  clear hA hc0 hp
  go_enter Tryz.func14, Tryz.ntmps14
  go_upto_region 1 with (fail)
  have HR := Lib.hid (blk_new w (.cells #[.int .i64 0, .int .i64 0, .string ⟨#[]⟩, .slice none 0 0] 26 (0, 0)))
  have HB := Lib.hid (below_alloc (Below.refl w.heap.size w) (.cells #[.int .i64 0, .int .i64 0, .string ⟨#[]⟩, .slice none 0 0] 26))
  generalize w.alloc (.cells #[.int .i64 0, .int .i64 0, .string ⟨#[]⟩, .slice none 0 0] 26) = w0 at HR HB ⊢
  go_wp2_with fail
  refine (rkinds_of 2 _ HP.out).mono ?_
  rintro e2 w2 ⟨⟨u, rfl, hK⟩, hb2⟩
  obtain ⟨gk, capk, rfl, hgk, hck⟩ := hK.row
  have HI := Lib.hid (⟨blk_below HR.out hb2, below_step HB.out hb2, Below.refl _ _⟩ : RlI w w2 w2)
  have HGK := Lib.hid hgk
  have HCK := Lib.hid hck
  clear hb2 hK hck hgk HR HB
  have HLK : Hid (2 = (kindsN 2).length) := Lib.hid hlen
  clear hlen
  go_upto_region 4 with (fail)
  generalize kindsN 2 = K at HCK HLK HE hle hlb ⊢
  go_wp2_with fail
  go_loopw [7] (fun i wr => ∃ j : Nat, j ≤ 2 ∧ i = .int .i64 (j : Nat) ∧ Hid (RlI w w2 wr) ∧ Hid (([d, e].take j).map Nd.k = K.take j)) (fun i _ => 2 - (intOf i).toNat)
  case atStart => exact ⟨0, Nat.zero_le _, rfl, HI, Lib.hid (by simp)⟩
  case round =>
    clear HI hle hlb
    obtain ⟨j, hj, rfl, HI, HT⟩ := hrel
    by_cases hlt : j < 2
    · have hlt' : (j : Int) < (2 : Nat) := by omega
      have hltk : j < K.length := by rw [← HLK.out]; exact hlt
      have hltk' : (j : Int) < (K.length : Nat) := by omega
      have HAr := Lib.hid (HA.out.later HI.out.below)
      obtain ⟨A2, cap2, e2, hc⟩ := HAr.out.row
      injection e2 with eA _ ec
      subst eA ec
      obtain ⟨g, o, rfl, hg, h0, h1, h2, h3⟩ := hc j hlt
      obtain ⟨z, hd⟩ : ∃ z, [d, e][j] = z := ⟨_, rfl⟩
      rw [hd] at h0 h1 h2 h3
      obtain ⟨x, hx⟩ : ∃ x, ∀ h, K[j]'h = x := ⟨K[j]'hltk, fun _ => rfl⟩
      have hkx : wr.cell? ⟨gk, j, none⟩ = some (.int .i64 x) := by
        rw [HI.out.since.cell (p := ⟨gk, j, none⟩) HGK.out, HCK.out j hltk, hx]
      have HD := Lib.hid hd
      have HX := Lib.hid hx
      have HLT := Lib.hid hlt
      have HLTK := Lib.hid hltk
      clear hc hd hx
      by_cases hdx : z.k = x
      · have HY := Lib.hid (show ([d, e].take (j + 1)).map Nd.k = K.take (j + 1) by
          rw [List.take_succ_eq_append_getElem HLT.out, List.take_succ_eq_append_getElem HLTK.out, List.map_append, HT.out, HD.out, HX.out, List.map_singleton, hdx])
        have hb : (z.k == x) = true := by simp [hdx]
        go_wp2_with fail
        go_quiet (fail)
        have HI2 := Lib.hid (HI.out.step (below_drewN (Below.refl _ _) nq))
        go_wp2_with fail
        go_roundw
        case rel => exact ⟨j + 1, HLT.out, by go_num, HI2, HY⟩
        case measure => have := HLT.out; simp [intOf]; omega
      · exfalso
        have h2 := HE.out
        unfold eqK at h2
        have h3 := of_decide_eq_true h2
        subst h3
        have h := HX.out (by simpa using HLT.out)
        rw [List.getElem_map, HD.out] at h
        exact hdx h
    · obtain rfl : j = 2 := by simp at hlt hj; omega
      clear HT HE HCK HGK HLK
      have HAr := Lib.hid (HA.out.later HI.out.below)
      obtain ⟨A2, cap2, e2, hc⟩ := HAr.out.row
      injection e2 with eA _ ec
      subst eA ec
      obtain ⟨g, o, rfl, hg, a0, a1, a2, a3⟩ := hc 0 (by simp)
      obtain ⟨g1, o1, e1, -, b0, b1, b2, b3⟩ := hc 1 (by simp)
      injection e1 with e1
      injection e1 with eg1 eo1 _
      subst eg1 eo1
      replace a0 : wr.cell? ⟨g, o, none⟩ = some (.int .i64 d.k) := a0
      replace a1 : wr.cell? ⟨g, o + 1, none⟩ = some (.int .i64 d.n) := a1
      replace a2 : wr.cell? ⟨g, o + 2, none⟩ = some (.string d.t) := a2
      replace a3 : wr.cell? ⟨g, o + 3, none⟩ = some (.slice d.a d.m d.c) := a3
      replace b0 : wr.cell? ⟨g, o + 4, none⟩ = some (.int .i64 e.k) := b0
      replace b1 : wr.cell? ⟨g, o + 5, none⟩ = some (.int .i64 e.n) := b1
      replace b2 : wr.cell? ⟨g, o + 6, none⟩ = some (.string e.t) := b2
      replace b3 : wr.cell? ⟨g, o + 7, none⟩ = some (.slice e.a e.m e.c) := b3
      have hg2 : g < wr.heap.size := hg
      clear hc
      have y0 := keep_al (o := (.cells #[.int .i64 d.k, .int .i64 d.n, .string d.t, .slice d.a d.m d.c] 26 (0, 0))) b0
      have y1 := keep_al (o := (.cells #[.int .i64 d.k, .int .i64 d.n, .string d.t, .slice d.a d.m d.c] 26 (0, 0))) b1
      have y2 := keep_al (o := (.cells #[.int .i64 d.k, .int .i64 d.n, .string d.t, .slice d.a d.m d.c] 26 (0, 0))) b2
      have y3 := keep_al (o := (.cells #[.int .i64 d.k, .int .i64 d.n, .string d.t, .slice d.a d.m d.c] 26 (0, 0))) b3
      go_upto_region 11 with (fail)
      have HM := Lib.hid (rmI_start HI.out d e)
      generalize (wr.alloc (.cells #[.int .i64 d.k, .int .i64 d.n, .string d.t, .slice d.a d.m d.c] 26)).alloc (.cells #[.int .i64 e.k, .int .i64 e.n, .string e.t, .slice e.a e.m e.c] 26) = w5 at HM ⊢
      generalize wr.heap.size = bx at HM ⊢
      clear y0 y1 y2 y3 a0 a1 a2 a3 b0 b1 b2 b3 hg2 hg hlt hj
      have p0 : w5.cell? ⟨bx, 0, none⟩ = some (.int .i64 d.k) := blk_cell HM.out.one 0
      have p1 : w5.cell? ⟨bx, 1, none⟩ = some (.int .i64 d.n) := blk_cell HM.out.one 1
      have p2 : w5.cell? ⟨bx, 2, none⟩ = some (.string d.t) := blk_cell HM.out.one 2
      have p3 : w5.cell? ⟨bx, 3, none⟩ = some (.slice d.a d.m d.c) := blk_cell HM.out.one 3
      have l0 : w5.cell? ⟨bx + 1, 0, none⟩ = some (.int .i64 e.k) := blk_cell HM.out.last 0
      have l1 : w5.cell? ⟨bx + 1, 1, none⟩ = some (.int .i64 e.n) := blk_cell HM.out.last 1
      have l2 : w5.cell? ⟨bx + 1, 2, none⟩ = some (.string e.t) := blk_cell HM.out.last 2
      have l3 : w5.cell? ⟨bx + 1, 3, none⟩ = some (.slice e.a e.m e.c) := blk_cell HM.out.last 3
      have r0 : w5.cell? ⟨w.heap.size, 0, none⟩ = some (.int .i64 0) := blk_cell HM.out.res 0
      have s0 := blk_frozen HM.out.res 0
      have r1 : w5.cell? ⟨w.heap.size, 1, none⟩ = some (.int .i64 0) := blk_cell HM.out.res 1
      have s1 := blk_frozen HM.out.res 1
      have r2 : w5.cell? ⟨w.heap.size, 2, none⟩ = some (.string ⟨#[]⟩) := blk_cell HM.out.res 2
      have s2 := blk_frozen HM.out.res 2
      have r3 : w5.cell? ⟨w.heap.size, 3, none⟩ = some (.slice none 0 0) := blk_cell HM.out.res 3
      have s3 := blk_frozen HM.out.res 3
      go_wp2_with fail
      refine (cA.out _).mono ?_
      rintro e7 w7 ⟨rfl, rfl⟩
      unfold refV
      go_wp2_with fail
      refine (cN.out _).mono ?_
      rintro e6 w6 ⟨rfl, hb6⟩
      have HM6 := Lib.hid (HM.out.step hb6)
      clear r0 r1 r2 r3 s0 s1 s2 s3 hb6
      unfold resRV
      have r0 : w6.cell? ⟨w.heap.size, 0, none⟩ = some (.int .i64 0) := blk_cell HM6.out.res 0
      have s0 := blk_frozen HM6.out.res 0
      have r1 : w6.cell? ⟨w.heap.size, 1, none⟩ = some (.int .i64 0) := blk_cell HM6.out.res 1
      have s1 := blk_frozen HM6.out.res 1
      have r2 : w6.cell? ⟨w.heap.size, 2, none⟩ = some (.string ⟨#[]⟩) := blk_cell HM6.out.res 2
      have s2 := blk_frozen HM6.out.res 2
      have r3 : w6.cell? ⟨w.heap.size, 3, none⟩ = some (.slice none 0 0) := blk_cell HM6.out.res 3
      have s3 := blk_frozen HM6.out.res 3
      go_wp2_with fail
      have H4 := dat_put HM6.out.res (R.k) (R.n) (R.t)
      have HB4 := Lib.hid (below_put HM6.out.below (R.k) (R.n) (R.t))
      have q0 := blk_cell H4 0
      have q1 := blk_cell H4 1
      have q2 := blk_cell H4 2
      have q3 := blk_cell H4 3
      clear r0 r1 r2 r3 s0 s1 s2 s3
      (try simp only [Exit.inBlock, Exit.then])
      refine bodyPost_ret (by simp [results, Tryz.results14, go_sem, q0, q1, q2, q3]; rfl) rfl ?_
      exact ⟨rfl, HB4.out⟩
set_option maxRecDepth 100000 in
set_option maxHeartbeats 40000000 in
theorem reval_2_3 (d e : Nd) (v : Value) (w : World) (hA : ArgsAt [d, e] v w) (hk : eqK [d, e] (kindsN 3) = true) :
    Calls Tryz.prog 14 #[.int .i64 3, v] w (Giv (resRV (valR 3 d e e)) w) := by
  show Calls Tryz.prog _ _ _ (Giv (resRV (numR (mulL d.n e.n))) w)
  have cA := Lib.hid (fun w => refmul_any d.n e.n w)
  generalize mulL d.n e.n = p at cA ⊢
  have cN := Lib.hid (fun w => rnum_any p w)
  generalize numR p = R at cN ⊢
  have hp : pureB 3 = true := rfl
  have hlen : 2 = (kindsN 3).length := by rfl
  have HA := Lib.hid hA
  obtain ⟨A, cap, rfl, hc0⟩ := hA.row
  have hL3 : 2 ≤ 3 := by rw [hlen]; unfold kindsN; (repeat' split) <;> decide
  have hle : (((kindsN 3).length : Nat) : Int) = 2 := by omega
  have hlb : True := trivial
  have HP := Lib.hid hp
  have HE := Lib.hid hk
  clear hk
  rw [show [d, e].length = 2 from rfl]
  clear hA hc0 hp
  go_enter Tryz.func14, Tryz.ntmps14
  go_upto_region 1 with (fail)
  have HR := Lib.hid (blk_new w (.cells #[.int .i64 0, .int .i64 0, .string ⟨#[]⟩, .slice none 0 0] 26 (0, 0)))
  have HB := Lib.hid (below_alloc (Below.refl w.heap.size w) (.cells #[.int .i64 0, .int .i64 0, .string ⟨#[]⟩, .slice none 0 0] 26))
  generalize w.alloc (.cells #[.int .i64 0, .int .i64 0, .string ⟨#[]⟩, .slice none 0 0] 26) = w0 at HR HB ⊢
  go_wp2_with fail
  refine (rkinds_of 3 _ HP.out).mono ?_
  rintro e2 w2 ⟨⟨u, rfl, hK⟩, hb2⟩
  obtain ⟨gk, capk, rfl, hgk, hck⟩ := hK.row
  have HI := Lib.hid (⟨blk_below HR.out hb2, below_step HB.out hb2, Below.refl _ _⟩ : RlI w w2 w2)
  have HGK := Lib.hid hgk
  have HCK := Lib.hid hck
  clear hb2 hK hck hgk HR HB
  have HLK : Hid (2 = (kindsN 3).length) := Lib.hid hlen
  clear hlen
  go_upto_region 4 with (fail)
  generalize kindsN 3 = K at HCK HLK HE hle hlb ⊢
  go_wp2_with fail
  go_loopw [7] (fun i wr => ∃ j : Nat, j ≤ 2 ∧ i = .int .i64 (j : Nat) ∧ Hid (RlI w w2 wr) ∧ Hid (([d, e].take j).map Nd.k = K.take j)) (fun i _ => 2 - (intOf i).toNat)
  case atStart => exact ⟨0, Nat.zero_le _, rfl, HI, Lib.hid (by simp)⟩
  case round =>
    clear HI hle hlb
    obtain ⟨j, hj, rfl, HI, HT⟩ := hrel
    by_cases hlt : j < 2
    · have hlt' : (j : Int) < (2 : Nat) := by omega
      have hltk : j < K.length := by rw [← HLK.out]; exact hlt
      have hltk' : (j : Int) < (K.length : Nat) := by omega
      have HAr := Lib.hid (HA.out.later HI.out.below)
      obtain ⟨A2, cap2, e2, hc⟩ := HAr.out.row
      injection e2 with eA _ ec
      subst eA ec
      obtain ⟨g, o, rfl, hg, h0, h1, h2, h3⟩ := hc j hlt
      obtain ⟨z, hd⟩ : ∃ z, [d, e][j] = z := ⟨_, rfl⟩
      rw [hd] at h0 h1 h2 h3
      obtain ⟨x, hx⟩ : ∃ x, ∀ h, K[j]'h = x := ⟨K[j]'hltk, fun _ => rfl⟩
      have hkx : wr.cell? ⟨gk, j, none⟩ = some (.int .i64 x) := by
        rw [HI.out.since.cell (p := ⟨gk, j, none⟩) HGK.out, HCK.out j hltk, hx]
      have HD := Lib.hid hd
      have HX := Lib.hid hx
      have HLT := Lib.hid hlt
      have HLTK := Lib.hid hltk
      clear hc hd hx
      by_cases hdx : z.k = x
      · have HY := Lib.hid (show ([d, e].take (j + 1)).map Nd.k = K.take (j + 1) by
          rw [List.take_succ_eq_append_getElem HLT.out, List.take_succ_eq_append_getElem HLTK.out, List.map_append, HT.out, HD.out, HX.out, List.map_singleton, hdx])
        have hb : (z.k == x) = true := by simp [hdx]
        go_wp2_with fail
        go_quiet (fail)
        have HI2 := Lib.hid (HI.out.step (below_drewN (Below.refl _ _) nq))
        go_wp2_with fail
        go_roundw
        case rel => exact ⟨j + 1, HLT.out, by go_num, HI2, HY⟩
        case measure => have := HLT.out; simp [intOf]; omega
      · exfalso
        have h2 := HE.out
        unfold eqK at h2
        have h3 := of_decide_eq_true h2
        subst h3
        have h := HX.out (by simpa using HLT.out)
        rw [List.getElem_map, HD.out] at h
        exact hdx h
    · obtain rfl : j = 2 := by simp at hlt hj; omega
      clear HT HE HCK HGK HLK
      have HAr := Lib.hid (HA.out.later HI.out.below)
      obtain ⟨A2, cap2, e2, hc⟩ := HAr.out.row
      injection e2 with eA _ ec
      subst eA ec
      obtain ⟨g, o, rfl, hg, a0, a1, a2, a3⟩ := hc 0 (by simp)
      obtain ⟨g1, o1, e1, -, b0, b1, b2, b3⟩ := hc 1 (by simp)
      injection e1 with e1
      injection e1 with eg1 eo1 _
      subst eg1 eo1
      replace a0 : wr.cell? ⟨g, o, none⟩ = some (.int .i64 d.k) := a0
      replace a1 : wr.cell? ⟨g, o + 1, none⟩ = some (.int .i64 d.n) := a1
      replace a2 : wr.cell? ⟨g, o + 2, none⟩ = some (.string d.t) := a2
      replace a3 : wr.cell? ⟨g, o + 3, none⟩ = some (.slice d.a d.m d.c) := a3
      replace b0 : wr.cell? ⟨g, o + 4, none⟩ = some (.int .i64 e.k) := b0
      replace b1 : wr.cell? ⟨g, o + 5, none⟩ = some (.int .i64 e.n) := b1
      replace b2 : wr.cell? ⟨g, o + 6, none⟩ = some (.string e.t) := b2
      replace b3 : wr.cell? ⟨g, o + 7, none⟩ = some (.slice e.a e.m e.c) := b3
      have hg2 : g < wr.heap.size := hg
      clear hc
      have y0 := keep_al (o := (.cells #[.int .i64 d.k, .int .i64 d.n, .string d.t, .slice d.a d.m d.c] 26 (0, 0))) b0
      have y1 := keep_al (o := (.cells #[.int .i64 d.k, .int .i64 d.n, .string d.t, .slice d.a d.m d.c] 26 (0, 0))) b1
      have y2 := keep_al (o := (.cells #[.int .i64 d.k, .int .i64 d.n, .string d.t, .slice d.a d.m d.c] 26 (0, 0))) b2
      have y3 := keep_al (o := (.cells #[.int .i64 d.k, .int .i64 d.n, .string d.t, .slice d.a d.m d.c] 26 (0, 0))) b3
      go_upto_region 11 with (fail)
      have HM := Lib.hid (rmI_start HI.out d e)
      generalize (wr.alloc (.cells #[.int .i64 d.k, .int .i64 d.n, .string d.t, .slice d.a d.m d.c] 26)).alloc (.cells #[.int .i64 e.k, .int .i64 e.n, .string e.t, .slice e.a e.m e.c] 26) = w5 at HM ⊢
      generalize wr.heap.size = bx at HM ⊢
      clear y0 y1 y2 y3 a0 a1 a2 a3 b0 b1 b2 b3 hg2 hg hlt hj
      have p0 : w5.cell? ⟨bx, 0, none⟩ = some (.int .i64 d.k) := blk_cell HM.out.one 0
      have p1 : w5.cell? ⟨bx, 1, none⟩ = some (.int .i64 d.n) := blk_cell HM.out.one 1
      have p2 : w5.cell? ⟨bx, 2, none⟩ = some (.string d.t) := blk_cell HM.out.one 2
      have p3 : w5.cell? ⟨bx, 3, none⟩ = some (.slice d.a d.m d.c) := blk_cell HM.out.one 3
      have l0 : w5.cell? ⟨bx + 1, 0, none⟩ = some (.int .i64 e.k) := blk_cell HM.out.last 0
      have l1 : w5.cell? ⟨bx + 1, 1, none⟩ = some (.int .i64 e.n) := blk_cell HM.out.last 1
      have l2 : w5.cell? ⟨bx + 1, 2, none⟩ = some (.string e.t) := blk_cell HM.out.last 2
      have l3 : w5.cell? ⟨bx + 1, 3, none⟩ = some (.slice e.a e.m e.c) := blk_cell HM.out.last 3
      have r0 : w5.cell? ⟨w.heap.size, 0, none⟩ = some (.int .i64 0) := blk_cell HM.out.res 0
      have s0 := blk_frozen HM.out.res 0
      have r1 : w5.cell? ⟨w.heap.size, 1, none⟩ = some (.int .i64 0) := blk_cell HM.out.res 1
      have s1 := blk_frozen HM.out.res 1
      have r2 : w5.cell? ⟨w.heap.size, 2, none⟩ = some (.string ⟨#[]⟩) := blk_cell HM.out.res 2
      have s2 := blk_frozen HM.out.res 2
      have r3 : w5.cell? ⟨w.heap.size, 3, none⟩ = some (.slice none 0 0) := blk_cell HM.out.res 3
      have s3 := blk_frozen HM.out.res 3
      go_wp2_with fail
      refine (cA.out _).mono ?_
      rintro e7 w7 ⟨rfl, rfl⟩
      unfold refV
      go_wp2_with fail
      refine (cN.out _).mono ?_
      rintro e6 w6 ⟨rfl, hb6⟩
      have HM6 := Lib.hid (HM.out.step hb6)
      clear r0 r1 r2 r3 s0 s1 s2 s3 hb6
      unfold resRV
      have r0 : w6.cell? ⟨w.heap.size, 0, none⟩ = some (.int .i64 0) := blk_cell HM6.out.res 0
      have s0 := blk_frozen HM6.out.res 0
      have r1 : w6.cell? ⟨w.heap.size, 1, none⟩ = some (.int .i64 0) := blk_cell HM6.out.res 1
      have s1 := blk_frozen HM6.out.res 1
      have r2 : w6.cell? ⟨w.heap.size, 2, none⟩ = some (.string ⟨#[]⟩) := blk_cell HM6.out.res 2
      have s2 := blk_frozen HM6.out.res 2
      have r3 : w6.cell? ⟨w.heap.size, 3, none⟩ = some (.slice none 0 0) := blk_cell HM6.out.res 3
      have s3 := blk_frozen HM6.out.res 3
      go_wp2_with fail
      have H4 := dat_put HM6.out.res (R.k) (R.n) (R.t)
      have HB4 := Lib.hid (below_put HM6.out.below (R.k) (R.n) (R.t))
      have q0 := blk_cell H4 0
      have q1 := blk_cell H4 1
      have q2 := blk_cell H4 2
      have q3 := blk_cell H4 3
      clear r0 r1 r2 r3 s0 s1 s2 s3
      (try simp only [Exit.inBlock, Exit.then])
      refine bodyPost_ret (by simp [results, Tryz.results14, go_sem, q0, q1, q2, q3]; rfl) rfl ?_
      exact ⟨rfl, HB4.out⟩
set_option maxRecDepth 100000 in
set_option maxHeartbeats 40000000 in
theorem reval_2_4 (d e : Nd) (v : Value) (w : World) (hA : ArgsAt [d, e] v w) (hk : eqK [d, e] (kindsN 4) = true) :
    Calls Tryz.prog 14 #[.int .i64 4, v] w (Giv (resRV (valR 4 d e e)) w) := by
  show Calls Tryz.prog _ _ _ (Giv (resRV (numR (quoL d.n e.n))) w)
  have cA := Lib.hid (fun w => refquotient_any d.n e.n w)
  generalize quoL d.n e.n = p at cA ⊢
  have cN := Lib.hid (fun w => rnum_any p w)
  generalize numR p = R at cN ⊢
  have hp : pureB 4 = true := rfl
  have hlen : 2 = (kindsN 4).length := by rfl
  have HA := Lib.hid hA
  obtain ⟨A, cap, rfl, hc0⟩ := hA.row
  have hL3 : 2 ≤ 3 := by rw [hlen]; unfold kindsN; (repeat' split) <;> decide
  have hle : (((kindsN 4).length : Nat) : Int) = 2 := by omega
  have hlb : True := trivial
  have HP := Lib.hid hp
  have HE := Lib.hid hk
  clear hk
  rw [show [d, e].length = 2 from rfl]
  clear hA hc0 hp
  go_enter Tryz.func14, Tryz.ntmps14
  go_upto_region 1 with (fail)
  have HR := Lib.hid (blk_new w (.cells #[.int .i64 0, .int .i64 0, .string ⟨#[]⟩, .slice none 0 0] 26 (0, 0)))
  have HB := Lib.hid (below_alloc (Below.refl w.heap.size w) (.cells #[.int .i64 0, .int .i64 0, .string ⟨#[]⟩, .slice none 0 0] 26))
  generalize w.alloc (.cells #[.int .i64 0, .int .i64 0, .string ⟨#[]⟩, .slice none 0 0] 26) = w0 at HR HB ⊢
  go_wp2_with fail
  refine (rkinds_of 4 _ HP.out).mono ?_
  rintro e2 w2 ⟨⟨u, rfl, hK⟩, hb2⟩
  obtain ⟨gk, capk, rfl, hgk, hck⟩ := hK.row
  have HI := Lib.hid (⟨blk_below HR.out hb2, below_step HB.out hb2, Below.refl _ _⟩ : RlI w w2 w2)
  have HGK := Lib.hid hgk
  have HCK := Lib.hid hck
  clear hb2 hK hck hgk HR HB
  have HLK : Hid (2 = (kindsN 4).length) := Lib.hid hlen
  clear hlen
  go_upto_region 4 with (fail)
  generalize kindsN 4 = K at HCK HLK HE hle hlb ⊢
  go_wp2_with fail
  go_loopw [7] (fun i wr => ∃ j : Nat, j ≤ 2 ∧ i = .int .i64 (j : Nat) ∧ Hid (RlI w w2 wr) ∧ Hid (([d, e].take j).map Nd.k = K.take j)) (fun i _ => 2 - (intOf i).toNat)
  case atStart => exact ⟨0, Nat.zero_le _, rfl, HI, Lib.hid (by simp)⟩
  case round =>
    clear HI hle hlb
    obtain ⟨j, hj, rfl, HI, HT⟩ := hrel
    by_cases hlt : j < 2
    · have hlt' : (j : Int) < (2 : Nat) := by omega
      have hltk : j < K.length := by rw [← HLK.out]; exact hlt
      have hltk' : (j : Int) < (K.length : Nat) := by omega
      have HAr := Lib.hid (HA.out.later HI.out.below)
      obtain ⟨A2, cap2, e2, hc⟩ := HAr.out.row
      injection e2 with eA _ ec
      subst eA ec
      obtain ⟨g, o, rfl, hg, h0, h1, h2, h3⟩ := hc j hlt
      obtain ⟨z, hd⟩ : ∃ z, [d, e][j] = z := ⟨_, rfl⟩
      rw [hd] at h0 h1 h2 h3
      obtain ⟨x, hx⟩ : ∃ x, ∀ h, K[j]'h = x := ⟨K[j]'hltk, fun _ => rfl⟩
      have hkx : wr.cell? ⟨gk, j, none⟩ = some (.int .i64 x) := by
        rw [HI.out.since.cell (p := ⟨gk, j, none⟩) HGK.out, HCK.out j hltk, hx]
      have HD := Lib.hid hd
      have HX := Lib.hid hx
      have HLT := Lib.hid hlt
      have HLTK := Lib.hid hltk
      clear hc hd hx
      by_cases hdx : z.k = x
      · have HY := Lib.hid (show ([d, e].take (j + 1)).map Nd.k = K.take (j + 1) by
          rw [List.take_succ_eq_append_getElem HLT.out, List.take_succ_eq_append_getElem HLTK.out, List.map_append, HT.out, HD.out, HX.out, List.map_singleton, hdx])
        have hb : (z.k == x) = true := by simp [hdx]
        go_wp2_with fail
        go_quiet (fail)
        have HI2 := Lib.hid (HI.out.step (below_drewN (Below.refl _ _) nq))
        go_wp2_with fail
        go_roundw
        case rel => exact ⟨j + 1, HLT.out, by go_num, HI2, HY⟩
        case measure => have := HLT.out; simp [intOf]; omega
      · exfalso
        have h2 := HE.out
        unfold eqK at h2
        have h3 := of_decide_eq_true h2
        subst h3
        have h := HX.out (by simpa using HLT.out)
        rw [List.getElem_map, HD.out] at h
        exact hdx h
    · obtain rfl : j = 2 := by simp at hlt hj; omega
      clear HT HE HCK HGK HLK
      have HAr := Lib.hid (HA.out.later HI.out.below)
      obtain ⟨A2, cap2, e2, hc⟩ := HAr.out.row
      injection e2 with eA _ ec
      subst eA ec
      obtain ⟨g, o, rfl, hg, a0, a1, a2, a3⟩ := hc 0 (by simp)
      obtain ⟨g1, o1, e1, -, b0, b1, b2, b3⟩ := hc 1 (by simp)
      injection e1 with e1
      injection e1 with eg1 eo1 _
      subst eg1 eo1
      replace a0 : wr.cell? ⟨g, o, none⟩ = some (.int .i64 d.k) := a0
      replace a1 : wr.cell? ⟨g, o + 1, none⟩ = some (.int .i64 d.n) := a1
      replace a2 : wr.cell? ⟨g, o + 2, none⟩ = some (.string d.t) := a2
      replace a3 : wr.cell? ⟨g, o + 3, none⟩ = some (.slice d.a d.m d.c) := a3
      replace b0 : wr.cell? ⟨g, o + 4, none⟩ = some (.int .i64 e.k) := b0
      replace b1 : wr.cell? ⟨g, o + 5, none⟩ = some (.int .i64 e.n) := b1
      replace b2 : wr.cell? ⟨g, o + 6, none⟩ = some (.string e.t) := b2
      replace b3 : wr.cell? ⟨g, o + 7, none⟩ = some (.slice e.a e.m e.c) := b3
      have hg2 : g < wr.heap.size := hg
      clear hc
      have y0 := keep_al (o := (.cells #[.int .i64 d.k, .int .i64 d.n, .string d.t, .slice d.a d.m d.c] 26 (0, 0))) b0
      have y1 := keep_al (o := (.cells #[.int .i64 d.k, .int .i64 d.n, .string d.t, .slice d.a d.m d.c] 26 (0, 0))) b1
      have y2 := keep_al (o := (.cells #[.int .i64 d.k, .int .i64 d.n, .string d.t, .slice d.a d.m d.c] 26 (0, 0))) b2
      have y3 := keep_al (o := (.cells #[.int .i64 d.k, .int .i64 d.n, .string d.t, .slice d.a d.m d.c] 26 (0, 0))) b3
      go_upto_region 11 with (fail)
      have HM := Lib.hid (rmI_start HI.out d e)
      generalize (wr.alloc (.cells #[.int .i64 d.k, .int .i64 d.n, .string d.t, .slice d.a d.m d.c] 26)).alloc (.cells #[.int .i64 e.k, .int .i64 e.n, .string e.t, .slice e.a e.m e.c] 26) = w5 at HM ⊢
      generalize wr.heap.size = bx at HM ⊢
      clear y0 y1 y2 y3 a0 a1 a2 a3 b0 b1 b2 b3 hg2 hg hlt hj
      have p0 : w5.cell? ⟨bx, 0, none⟩ = some (.int .i64 d.k) := blk_cell HM.out.one 0
      have p1 : w5.cell? ⟨bx, 1, none⟩ = some (.int .i64 d.n) := blk_cell HM.out.one 1
      have p2 : w5.cell? ⟨bx, 2, none⟩ = some (.string d.t) := blk_cell HM.out.one 2
      have p3 : w5.cell? ⟨bx, 3, none⟩ = some (.slice d.a d.m d.c) := blk_cell HM.out.one 3
      have l0 : w5.cell? ⟨bx + 1, 0, none⟩ = some (.int .i64 e.k) := blk_cell HM.out.last 0
      have l1 : w5.cell? ⟨bx + 1, 1, none⟩ = some (.int .i64 e.n) := blk_cell HM.out.last 1
      have l2 : w5.cell? ⟨bx + 1, 2, none⟩ = some (.string e.t) := blk_cell HM.out.last 2
      have l3 : w5.cell? ⟨bx + 1, 3, none⟩ = some (.slice e.a e.m e.c) := blk_cell HM.out.last 3
      have r0 : w5.cell? ⟨w.heap.size, 0, none⟩ = some (.int .i64 0) := blk_cell HM.out.res 0
      have s0 := blk_frozen HM.out.res 0
      have r1 : w5.cell? ⟨w.heap.size, 1, none⟩ = some (.int .i64 0) := blk_cell HM.out.res 1
      have s1 := blk_frozen HM.out.res 1
      have r2 : w5.cell? ⟨w.heap.size, 2, none⟩ = some (.string ⟨#[]⟩) := blk_cell HM.out.res 2
      have s2 := blk_frozen HM.out.res 2
      have r3 : w5.cell? ⟨w.heap.size, 3, none⟩ = some (.slice none 0 0) := blk_cell HM.out.res 3
      have s3 := blk_frozen HM.out.res 3
      go_wp2_with fail
      refine (cA.out _).mono ?_
      rintro e7 w7 ⟨rfl, rfl⟩
      unfold refV
      go_wp2_with fail
      refine (cN.out _).mono ?_
      rintro e6 w6 ⟨rfl, hb6⟩
      have HM6 := Lib.hid (HM.out.step hb6)
      clear r0 r1 r2 r3 s0 s1 s2 s3 hb6
      unfold resRV
      have r0 : w6.cell? ⟨w.heap.size, 0, none⟩ = some (.int .i64 0) := blk_cell HM6.out.res 0
      have s0 := blk_frozen HM6.out.res 0
      have r1 : w6.cell? ⟨w.heap.size, 1, none⟩ = some (.int .i64 0) := blk_cell HM6.out.res 1
      have s1 := blk_frozen HM6.out.res 1
      have r2 : w6.cell? ⟨w.heap.size, 2, none⟩ = some (.string ⟨#[]⟩) := blk_cell HM6.out.res 2
      have s2 := blk_frozen HM6.out.res 2
      have r3 : w6.cell? ⟨w.heap.size, 3, none⟩ = some (.slice none 0 0) := blk_cell HM6.out.res 3
      have s3 := blk_frozen HM6.out.res 3
      go_wp2_with fail
      have H4 := dat_put HM6.out.res (R.k) (R.n) (R.t)
      have HB4 := Lib.hid (below_put HM6.out.below (R.k) (R.n) (R.t))
      have q0 := blk_cell H4 0
      have q1 := blk_cell H4 1
      have q2 := blk_cell H4 2
      have q3 := blk_cell H4 3
      clear r0 r1 r2 r3 s0 s1 s2 s3
      (try simp only [Exit.inBlock, Exit.then])
      refine bodyPost_ret (by simp [results, Tryz.results14, go_sem, q0, q1, q2, q3]; rfl) rfl ?_
      exact ⟨rfl, HB4.out⟩
end Go.Proofs.YtneokkhnjnomdaaGreatDoor

/-! GrK -/
namespace Go.Proofs.YtneokkhnjnomdaaGreatDoor
open Go.RowKit Go.Proofs.YtneokkhnjnomdaaGreatDoorW.PrintWords

set_option maxRecDepth 100000 in
set_option maxHeartbeats 40000000 in
theorem reval_2_5 (d e : Nd) (v : Value) (w : World) (hA : ArgsAt [d, e] v w) (hk : eqK [d, e] (kindsN 5) = true) :
    Calls Tryz.prog 14 #[.int .i64 5, v] w (Giv (resRV (valR 5 d e e)) w) := by
  show Calls Tryz.prog _ _ _ (Giv (resRV (numR (remL d.n e.n))) w)
  have cA := Lib.hid (fun w => refremainder_any d.n e.n w)
  generalize remL d.n e.n = p at cA ⊢
  have cN := Lib.hid (fun w => rnum_any p w)
  generalize numR p = R at cN ⊢
  have hp : pureB 5 = true := rfl
  have hlen : 2 = (kindsN 5).length := by rfl
  have HA := Lib.hid hA
  obtain ⟨A, cap, rfl, hc0⟩ := hA.row
  have hL3 : 2 ≤ 3 := by rw [hlen]; unfold kindsN; (repeat' split) <;> decide
  have hle : (((kindsN 5).length : Nat) : Int) = 2 := by omega
  have hlb : True := trivial
  have HP := Lib.hid hp
  have HE := Lib.hid hk
  clear hk
  rw [show [d, e].length = 2 from rfl]
  clear hA hc0 hp
  go_enter Tryz.func14, Tryz.ntmps14
  go_upto_region 1 with (fail)
  have HR := Lib.hid (blk_new w (.cells #[.int .i64 0, .int .i64 0, .string ⟨#[]⟩, .slice none 0 0] 26 (0, 0)))
  have HB := Lib.hid (below_alloc (Below.refl w.heap.size w) (.cells #[.int .i64 0, .int .i64 0, .string ⟨#[]⟩, .slice none 0 0] 26))
  generalize w.alloc (.cells #[.int .i64 0, .int .i64 0, .string ⟨#[]⟩, .slice none 0 0] 26) = w0 at HR HB ⊢
  go_wp2_with fail
  refine (rkinds_of 5 _ HP.out).mono ?_
  rintro e2 w2 ⟨⟨u, rfl, hK⟩, hb2⟩
  obtain ⟨gk, capk, rfl, hgk, hck⟩ := hK.row
  have HI := Lib.hid (⟨blk_below HR.out hb2, below_step HB.out hb2, Below.refl _ _⟩ : RlI w w2 w2)
  have HGK := Lib.hid hgk
  have HCK := Lib.hid hck
  clear hb2 hK hck hgk HR HB
  have HLK : Hid (2 = (kindsN 5).length) := Lib.hid hlen
  clear hlen
  go_upto_region 4 with (fail)
  generalize kindsN 5 = K at HCK HLK HE hle hlb ⊢
  go_wp2_with fail
  go_loopw [7] (fun i wr => ∃ j : Nat, j ≤ 2 ∧ i = .int .i64 (j : Nat) ∧ Hid (RlI w w2 wr) ∧ Hid (([d, e].take j).map Nd.k = K.take j)) (fun i _ => 2 - (intOf i).toNat)
  case atStart => exact ⟨0, Nat.zero_le _, rfl, HI, Lib.hid (by simp)⟩
  case round =>
    clear HI hle hlb
    obtain ⟨j, hj, rfl, HI, HT⟩ := hrel
    by_cases hlt : j < 2
    · have hlt' : (j : Int) < (2 : Nat) := by omega
      have hltk : j < K.length := by rw [← HLK.out]; exact hlt
      have hltk' : (j : Int) < (K.length : Nat) := by omega
      have HAr := Lib.hid (HA.out.later HI.out.below)
      obtain ⟨A2, cap2, e2, hc⟩ := HAr.out.row
      injection e2 with eA _ ec
      subst eA ec
      obtain ⟨g, o, rfl, hg, h0, h1, h2, h3⟩ := hc j hlt
      obtain ⟨z, hd⟩ : ∃ z, [d, e][j] = z := ⟨_, rfl⟩
      rw [hd] at h0 h1 h2 h3
      obtain ⟨x, hx⟩ : ∃ x, ∀ h, K[j]'h = x := ⟨K[j]'hltk, fun _ => rfl⟩
      have hkx : wr.cell? ⟨gk, j, none⟩ = some (.int .i64 x) := by
        rw [HI.out.since.cell (p := ⟨gk, j, none⟩) HGK.out, HCK.out j hltk, hx]
      have HD := Lib.hid hd
      have HX := Lib.hid hx
      have HLT := Lib.hid hlt
      have HLTK := Lib.hid hltk
      clear hc hd hx
      by_cases hdx : z.k = x
      · have HY := Lib.hid (show ([d, e].take (j + 1)).map Nd.k = K.take (j + 1) by
          rw [List.take_succ_eq_append_getElem HLT.out, List.take_succ_eq_append_getElem HLTK.out, List.map_append, HT.out, HD.out, HX.out, List.map_singleton, hdx])
        have hb : (z.k == x) = true := by simp [hdx]
        go_wp2_with fail
        go_quiet (fail)
        have HI2 := Lib.hid (HI.out.step (below_drewN (Below.refl _ _) nq))
        go_wp2_with fail
        go_roundw
        case rel => exact ⟨j + 1, HLT.out, by go_num, HI2, HY⟩
        case measure => have := HLT.out; simp [intOf]; omega
      · exfalso
        have h2 := HE.out
        unfold eqK at h2
        have h3 := of_decide_eq_true h2
        subst h3
        have h := HX.out (by simpa using HLT.out)
        rw [List.getElem_map, HD.out] at h
        exact hdx h
    · obtain rfl : j = 2 := by simp at hlt hj; omega
      clear HT HE HCK HGK HLK
      have HAr := Lib.hid (HA.out.later HI.out.below)
      obtain ⟨A2, cap2, e2, hc⟩ := HAr.out.row
      injection e2 with eA _ ec
      subst eA ec
      obtain ⟨g, o, rfl, hg, a0, a1, a2, a3⟩ := hc 0 (by simp)
      obtain ⟨g1, o1, e1, -, b0, b1, b2, b3⟩ := hc 1 (by simp)
      injection e1 with e1
      injection e1 with eg1 eo1 _
      subst eg1 eo1
      replace a0 : wr.cell? ⟨g, o, none⟩ = some (.int .i64 d.k) := a0
      replace a1 : wr.cell? ⟨g, o + 1, none⟩ = some (.int .i64 d.n) := a1
      replace a2 : wr.cell? ⟨g, o + 2, none⟩ = some (.string d.t) := a2
      replace a3 : wr.cell? ⟨g, o + 3, none⟩ = some (.slice d.a d.m d.c) := a3
      replace b0 : wr.cell? ⟨g, o + 4, none⟩ = some (.int .i64 e.k) := b0
      replace b1 : wr.cell? ⟨g, o + 5, none⟩ = some (.int .i64 e.n) := b1
      replace b2 : wr.cell? ⟨g, o + 6, none⟩ = some (.string e.t) := b2
      replace b3 : wr.cell? ⟨g, o + 7, none⟩ = some (.slice e.a e.m e.c) := b3
      have hg2 : g < wr.heap.size := hg
      clear hc
      have y0 := keep_al (o := (.cells #[.int .i64 d.k, .int .i64 d.n, .string d.t, .slice d.a d.m d.c] 26 (0, 0))) b0
      have y1 := keep_al (o := (.cells #[.int .i64 d.k, .int .i64 d.n, .string d.t, .slice d.a d.m d.c] 26 (0, 0))) b1
      have y2 := keep_al (o := (.cells #[.int .i64 d.k, .int .i64 d.n, .string d.t, .slice d.a d.m d.c] 26 (0, 0))) b2
      have y3 := keep_al (o := (.cells #[.int .i64 d.k, .int .i64 d.n, .string d.t, .slice d.a d.m d.c] 26 (0, 0))) b3
      go_upto_region 11 with (fail)
      have HM := Lib.hid (rmI_start HI.out d e)
      generalize (wr.alloc (.cells #[.int .i64 d.k, .int .i64 d.n, .string d.t, .slice d.a d.m d.c] 26)).alloc (.cells #[.int .i64 e.k, .int .i64 e.n, .string e.t, .slice e.a e.m e.c] 26) = w5 at HM ⊢
      generalize wr.heap.size = bx at HM ⊢
      clear y0 y1 y2 y3 a0 a1 a2 a3 b0 b1 b2 b3 hg2 hg hlt hj
      have p0 : w5.cell? ⟨bx, 0, none⟩ = some (.int .i64 d.k) := blk_cell HM.out.one 0
      have p1 : w5.cell? ⟨bx, 1, none⟩ = some (.int .i64 d.n) := blk_cell HM.out.one 1
      have p2 : w5.cell? ⟨bx, 2, none⟩ = some (.string d.t) := blk_cell HM.out.one 2
      have p3 : w5.cell? ⟨bx, 3, none⟩ = some (.slice d.a d.m d.c) := blk_cell HM.out.one 3
      have l0 : w5.cell? ⟨bx + 1, 0, none⟩ = some (.int .i64 e.k) := blk_cell HM.out.last 0
      have l1 : w5.cell? ⟨bx + 1, 1, none⟩ = some (.int .i64 e.n) := blk_cell HM.out.last 1
      have l2 : w5.cell? ⟨bx + 1, 2, none⟩ = some (.string e.t) := blk_cell HM.out.last 2
      have l3 : w5.cell? ⟨bx + 1, 3, none⟩ = some (.slice e.a e.m e.c) := blk_cell HM.out.last 3
      have r0 : w5.cell? ⟨w.heap.size, 0, none⟩ = some (.int .i64 0) := blk_cell HM.out.res 0
      have s0 := blk_frozen HM.out.res 0
      have r1 : w5.cell? ⟨w.heap.size, 1, none⟩ = some (.int .i64 0) := blk_cell HM.out.res 1
      have s1 := blk_frozen HM.out.res 1
      have r2 : w5.cell? ⟨w.heap.size, 2, none⟩ = some (.string ⟨#[]⟩) := blk_cell HM.out.res 2
      have s2 := blk_frozen HM.out.res 2
      have r3 : w5.cell? ⟨w.heap.size, 3, none⟩ = some (.slice none 0 0) := blk_cell HM.out.res 3
      have s3 := blk_frozen HM.out.res 3
      go_wp2_with fail
      refine (cA.out _).mono ?_
      rintro e7 w7 ⟨rfl, rfl⟩
      unfold refV
      go_wp2_with fail
      refine (cN.out _).mono ?_
      rintro e6 w6 ⟨rfl, hb6⟩
      have HM6 := Lib.hid (HM.out.step hb6)
      clear r0 r1 r2 r3 s0 s1 s2 s3 hb6
      unfold resRV
      have r0 : w6.cell? ⟨w.heap.size, 0, none⟩ = some (.int .i64 0) := blk_cell HM6.out.res 0
      have s0 := blk_frozen HM6.out.res 0
      have r1 : w6.cell? ⟨w.heap.size, 1, none⟩ = some (.int .i64 0) := blk_cell HM6.out.res 1
      have s1 := blk_frozen HM6.out.res 1
      have r2 : w6.cell? ⟨w.heap.size, 2, none⟩ = some (.string ⟨#[]⟩) := blk_cell HM6.out.res 2
      have s2 := blk_frozen HM6.out.res 2
      have r3 : w6.cell? ⟨w.heap.size, 3, none⟩ = some (.slice none 0 0) := blk_cell HM6.out.res 3
      have s3 := blk_frozen HM6.out.res 3
      go_wp2_with fail
      have H4 := dat_put HM6.out.res (R.k) (R.n) (R.t)
      have HB4 := Lib.hid (below_put HM6.out.below (R.k) (R.n) (R.t))
      have q0 := blk_cell H4 0
      have q1 := blk_cell H4 1
      have q2 := blk_cell H4 2
      have q3 := blk_cell H4 3
      clear r0 r1 r2 r3 s0 s1 s2 s3
      (try simp only [Exit.inBlock, Exit.then])
      refine bodyPost_ret (by simp [results, Tryz.results14, go_sem, q0, q1, q2, q3]; rfl) rfl ?_
      exact ⟨rfl, HB4.out⟩
set_option maxRecDepth 100000 in
set_option maxHeartbeats 40000000 in
theorem reval_2_6 (d e : Nd) (v : Value) (w : World) (hA : ArgsAt [d, e] v w) (hk : eqK [d, e] (kindsN 6) = true) :
    Calls Tryz.prog 14 #[.int .i64 6, v] w (Giv (resRV (valR 6 d e e)) w) := by
  show Calls Tryz.prog _ _ _ (Giv (resRV (numR (modL d.n e.n))) w)
  have cA := Lib.hid (fun w => refmodulo_any d.n e.n w)
  generalize modL d.n e.n = p at cA ⊢
  have cN := Lib.hid (fun w => rnum_any p w)
  generalize numR p = R at cN ⊢
  have hp : pureB 6 = true := rfl
  have hlen : 2 = (kindsN 6).length := by rfl
  have HA := Lib.hid hA
  obtain ⟨A, cap, rfl, hc0⟩ := hA.row
  have hL3 : 2 ≤ 3 := by rw [hlen]; unfold kindsN; (repeat' split) <;> decide
  have hle : (((kindsN 6).length : Nat) : Int) = 2 := by omega
  have hlb : True := trivial
  have HP := Lib.hid hp
  have HE := Lib.hid hk
  clear hk
  rw [show [d, e].length = 2 from rfl]
  clear hA hc0 hp
  go_enter Tryz.func14, Tryz.ntmps14
  go_upto_region 1 with (fail)
  have HR := Lib.hid (blk_new w (.cells #[.int .i64 0, .int .i64 0, .string ⟨#[]⟩, .slice none 0 0] 26 (0, 0)))
  have HB := Lib.hid (below_alloc (Below.refl w.heap.size w) (.cells #[.int .i64 0, .int .i64 0, .string ⟨#[]⟩, .slice none 0 0] 26))
  generalize w.alloc (.cells #[.int .i64 0, .int .i64 0, .string ⟨#[]⟩, .slice none 0 0] 26) = w0 at HR HB ⊢
  go_wp2_with fail
  refine (rkinds_of 6 _ HP.out).mono ?_
  rintro e2 w2 ⟨⟨u, rfl, hK⟩, hb2⟩
  obtain ⟨gk, capk, rfl, hgk, hck⟩ := hK.row
  have HI := Lib.hid (⟨blk_below HR.out hb2, below_step HB.out hb2, Below.refl _ _⟩ : RlI w w2 w2)
  have HGK := Lib.hid hgk
  have HCK := Lib.hid hck
  clear hb2 hK hck hgk HR HB
  have HLK : Hid (2 = (kindsN 6).length) := Lib.hid hlen
  clear hlen
  go_upto_region 4 with (fail)
  generalize kindsN 6 = K at HCK HLK HE hle hlb ⊢
  go_wp2_with fail
  go_loopw [7] (fun i wr => ∃ j : Nat, j ≤ 2 ∧ i = .int .i64 (j : Nat) ∧ Hid (RlI w w2 wr) ∧ Hid (([d, e].take j).map Nd.k = K.take j)) (fun i _ => 2 - (intOf i).toNat)
  case atStart => exact ⟨0, Nat.zero_le _, rfl, HI, Lib.hid (by simp)⟩
  case round =>
    clear HI hle hlb
    obtain ⟨j, hj, rfl, HI, HT⟩ := hrel
    by_cases hlt : j < 2
    · have hlt' : (j : Int) < (2 : Nat) := by omega
      have hltk : j < K.length := by rw [← HLK.out]; exact hlt
      have hltk' : (j : Int) < (K.length : Nat) := by omega
      have HAr := Lib.hid (HA.out.later HI.out.below)
      obtain ⟨A2, cap2, e2, hc⟩ := HAr.out.row
      injection e2 with eA _ ec
      subst eA ec
      obtain ⟨g, o, rfl, hg, h0, h1, h2, h3⟩ := hc j hlt
      obtain ⟨z, hd⟩ : ∃ z, [d, e][j] = z := ⟨_, rfl⟩
      rw [hd] at h0 h1 h2 h3
      obtain ⟨x, hx⟩ : ∃ x, ∀ h, K[j]'h = x := ⟨K[j]'hltk, fun _ => rfl⟩
      have hkx : wr.cell? ⟨gk, j, none⟩ = some (.int .i64 x) := by
        rw [HI.out.since.cell (p := ⟨gk, j, none⟩) HGK.out, HCK.out j hltk, hx]
      have HD := Lib.hid hd
      have HX := Lib.hid hx
      have HLT := Lib.hid hlt
      have HLTK := Lib.hid hltk
      clear hc hd hx
      by_cases hdx : z.k = x
      · have HY := Lib.hid (show ([d, e].take (j + 1)).map Nd.k = K.take (j + 1) by
          rw [List.take_succ_eq_append_getElem HLT.out, List.take_succ_eq_append_getElem HLTK.out, List.map_append, HT.out, HD.out, HX.out, List.map_singleton, hdx])
        have hb : (z.k == x) = true := by simp [hdx]
        go_wp2_with fail
        go_quiet (fail)
        have HI2 := Lib.hid (HI.out.step (below_drewN (Below.refl _ _) nq))
        go_wp2_with fail
        go_roundw
        case rel => exact ⟨j + 1, HLT.out, by go_num, HI2, HY⟩
        case measure => have := HLT.out; simp [intOf]; omega
      · exfalso
        have h2 := HE.out
        unfold eqK at h2
        have h3 := of_decide_eq_true h2
        subst h3
        have h := HX.out (by simpa using HLT.out)
        rw [List.getElem_map, HD.out] at h
        exact hdx h
    · obtain rfl : j = 2 := by simp at hlt hj; omega
      clear HT HE HCK HGK HLK
      have HAr := Lib.hid (HA.out.later HI.out.below)
      obtain ⟨A2, cap2, e2, hc⟩ := HAr.out.row
      injection e2 with eA _ ec
      subst eA ec
      obtain ⟨g, o, rfl, hg, a0, a1, a2, a3⟩ := hc 0 (by simp)
      obtain ⟨g1, o1, e1, -, b0, b1, b2, b3⟩ := hc 1 (by simp)
      injection e1 with e1
      injection e1 with eg1 eo1 _
      subst eg1 eo1
      replace a0 : wr.cell? ⟨g, o, none⟩ = some (.int .i64 d.k) := a0
      replace a1 : wr.cell? ⟨g, o + 1, none⟩ = some (.int .i64 d.n) := a1
      replace a2 : wr.cell? ⟨g, o + 2, none⟩ = some (.string d.t) := a2
      replace a3 : wr.cell? ⟨g, o + 3, none⟩ = some (.slice d.a d.m d.c) := a3
      replace b0 : wr.cell? ⟨g, o + 4, none⟩ = some (.int .i64 e.k) := b0
      replace b1 : wr.cell? ⟨g, o + 5, none⟩ = some (.int .i64 e.n) := b1
      replace b2 : wr.cell? ⟨g, o + 6, none⟩ = some (.string e.t) := b2
      replace b3 : wr.cell? ⟨g, o + 7, none⟩ = some (.slice e.a e.m e.c) := b3
      have hg2 : g < wr.heap.size := hg
      clear hc
      have y0 := keep_al (o := (.cells #[.int .i64 d.k, .int .i64 d.n, .string d.t, .slice d.a d.m d.c] 26 (0, 0))) b0
      have y1 := keep_al (o := (.cells #[.int .i64 d.k, .int .i64 d.n, .string d.t, .slice d.a d.m d.c] 26 (0, 0))) b1
      have y2 := keep_al (o := (.cells #[.int .i64 d.k, .int .i64 d.n, .string d.t, .slice d.a d.m d.c] 26 (0, 0))) b2
      have y3 := keep_al (o := (.cells #[.int .i64 d.k, .int .i64 d.n, .string d.t, .slice d.a d.m d.c] 26 (0, 0))) b3
      go_upto_region 11 with (fail)
      have HM := Lib.hid (rmI_start HI.out d e)
      generalize (wr.alloc (.cells #[.int .i64 d.k, .int .i64 d.n, .string d.t, .slice d.a d.m d.c] 26)).alloc (.cells #[.int .i64 e.k, .int .i64 e.n, .string e.t, .slice e.a e.m e.c] 26) = w5 at HM ⊢
      generalize wr.heap.size = bx at HM ⊢
      clear y0 y1 y2 y3 a0 a1 a2 a3 b0 b1 b2 b3 hg2 hg hlt hj
      have p0 : w5.cell? ⟨bx, 0, none⟩ = some (.int .i64 d.k) := blk_cell HM.out.one 0
      have p1 : w5.cell? ⟨bx, 1, none⟩ = some (.int .i64 d.n) := blk_cell HM.out.one 1
      have p2 : w5.cell? ⟨bx, 2, none⟩ = some (.string d.t) := blk_cell HM.out.one 2
      have p3 : w5.cell? ⟨bx, 3, none⟩ = some (.slice d.a d.m d.c) := blk_cell HM.out.one 3
      have l0 : w5.cell? ⟨bx + 1, 0, none⟩ = some (.int .i64 e.k) := blk_cell HM.out.last 0
      have l1 : w5.cell? ⟨bx + 1, 1, none⟩ = some (.int .i64 e.n) := blk_cell HM.out.last 1
      have l2 : w5.cell? ⟨bx + 1, 2, none⟩ = some (.string e.t) := blk_cell HM.out.last 2
      have l3 : w5.cell? ⟨bx + 1, 3, none⟩ = some (.slice e.a e.m e.c) := blk_cell HM.out.last 3
      have r0 : w5.cell? ⟨w.heap.size, 0, none⟩ = some (.int .i64 0) := blk_cell HM.out.res 0
      have s0 := blk_frozen HM.out.res 0
      have r1 : w5.cell? ⟨w.heap.size, 1, none⟩ = some (.int .i64 0) := blk_cell HM.out.res 1
      have s1 := blk_frozen HM.out.res 1
      have r2 : w5.cell? ⟨w.heap.size, 2, none⟩ = some (.string ⟨#[]⟩) := blk_cell HM.out.res 2
      have s2 := blk_frozen HM.out.res 2
      have r3 : w5.cell? ⟨w.heap.size, 3, none⟩ = some (.slice none 0 0) := blk_cell HM.out.res 3
      have s3 := blk_frozen HM.out.res 3
      go_wp2_with fail
      refine (cA.out _).mono ?_
      rintro e7 w7 ⟨rfl, rfl⟩
      unfold refV
      go_wp2_with fail
      refine (cN.out _).mono ?_
      rintro e6 w6 ⟨rfl, hb6⟩
      have HM6 := Lib.hid (HM.out.step hb6)
      clear r0 r1 r2 r3 s0 s1 s2 s3 hb6
      unfold resRV
      have r0 : w6.cell? ⟨w.heap.size, 0, none⟩ = some (.int .i64 0) := blk_cell HM6.out.res 0
      have s0 := blk_frozen HM6.out.res 0
      have r1 : w6.cell? ⟨w.heap.size, 1, none⟩ = some (.int .i64 0) := blk_cell HM6.out.res 1
      have s1 := blk_frozen HM6.out.res 1
      have r2 : w6.cell? ⟨w.heap.size, 2, none⟩ = some (.string ⟨#[]⟩) := blk_cell HM6.out.res 2
      have s2 := blk_frozen HM6.out.res 2
      have r3 : w6.cell? ⟨w.heap.size, 3, none⟩ = some (.slice none 0 0) := blk_cell HM6.out.res 3
      have s3 := blk_frozen HM6.out.res 3
      go_wp2_with fail
      have H4 := dat_put HM6.out.res (R.k) (R.n) (R.t)
      have HB4 := Lib.hid (below_put HM6.out.below (R.k) (R.n) (R.t))
      have q0 := blk_cell H4 0
      have q1 := blk_cell H4 1
      have q2 := blk_cell H4 2
      have q3 := blk_cell H4 3
      clear r0 r1 r2 r3 s0 s1 s2 s3
      (try simp only [Exit.inBlock, Exit.then])
      refine bodyPost_ret (by simp [results, Tryz.results14, go_sem, q0, q1, q2, q3]; rfl) rfl ?_
      exact ⟨rfl, HB4.out⟩
set_option maxRecDepth 100000 in
set_option maxHeartbeats 40000000 in
theorem reval_2_7 (d e : Nd) (v : Value) (w : World) (hA : ArgsAt [d, e] v w) (hk : eqK [d, e] (kindsN 7) = true) :
    Calls Tryz.prog 14 #[.int .i64 7, v] w (Giv (resRV (valR 7 d e e)) w) := by
  show Calls Tryz.prog _ _ _ (Giv (resRV (truthR (d.n == e.n))) w)
  unfold truthR
  have hrt := Lib.hid (fun w => rtruth_of (d.n == e.n) w)
  generalize (if (d.n == e.n) = true then (1 : Int) else 0) = N at hrt ⊢
  have hp : pureB 7 = true := rfl
  have hlen : 2 = (kindsN 7).length := by rfl
  have HA := Lib.hid hA
  obtain ⟨A, cap, rfl, hc0⟩ := hA.row
  have hL3 : 2 ≤ 3 := by rw [hlen]; unfold kindsN; (repeat' split) <;> decide
  have hle : (((kindsN 7).length : Nat) : Int) = 2 := by omega
  have hlb : True := trivial
  have HP := Lib.hid hp
  have HE := Lib.hid hk
  clear hk
  rw [show [d, e].length = 2 from rfl]
  clear hA hc0 hp
  go_enter Tryz.func14, Tryz.ntmps14
  go_upto_region 1 with (fail)
  have HR := Lib.hid (blk_new w (.cells #[.int .i64 0, .int .i64 0, .string ⟨#[]⟩, .slice none 0 0] 26 (0, 0)))
  have HB := Lib.hid (below_alloc (Below.refl w.heap.size w) (.cells #[.int .i64 0, .int .i64 0, .string ⟨#[]⟩, .slice none 0 0] 26))
  generalize w.alloc (.cells #[.int .i64 0, .int .i64 0, .string ⟨#[]⟩, .slice none 0 0] 26) = w0 at HR HB ⊢
  go_wp2_with fail
  refine (rkinds_of 7 _ HP.out).mono ?_
  rintro e2 w2 ⟨⟨u, rfl, hK⟩, hb2⟩
  obtain ⟨gk, capk, rfl, hgk, hck⟩ := hK.row
  have HI := Lib.hid (⟨blk_below HR.out hb2, below_step HB.out hb2, Below.refl _ _⟩ : RlI w w2 w2)
  have HGK := Lib.hid hgk
  have HCK := Lib.hid hck
  clear hb2 hK hck hgk HR HB
  have HLK : Hid (2 = (kindsN 7).length) := Lib.hid hlen
  clear hlen
  go_upto_region 4 with (fail)
  generalize kindsN 7 = K at HCK HLK HE hle hlb ⊢
  go_wp2_with fail
  go_loopw [7] (fun i wr => ∃ j : Nat, j ≤ 2 ∧ i = .int .i64 (j : Nat) ∧ Hid (RlI w w2 wr) ∧ Hid (([d, e].take j).map Nd.k = K.take j)) (fun i _ => 2 - (intOf i).toNat)
  case atStart => exact ⟨0, Nat.zero_le _, rfl, HI, Lib.hid (by simp)⟩
  case round =>
    clear HI hle hlb
    obtain ⟨j, hj, rfl, HI, HT⟩ := hrel
    by_cases hlt : j < 2
    · have hlt' : (j : Int) < (2 : Nat) := by omega
      have hltk : j < K.length := by rw [← HLK.out]; exact hlt
      have hltk' : (j : Int) < (K.length : Nat) := by omega
      have HAr := Lib.hid (HA.out.later HI.out.below)
      obtain ⟨A2, cap2, e2, hc⟩ := HAr.out.row
      injection e2 with eA _ ec
      subst eA ec
      obtain ⟨g, o, rfl, hg, h0, h1, h2, h3⟩ := hc j hlt
      obtain ⟨z, hd⟩ : ∃ z, [d, e][j] = z := ⟨_, rfl⟩
      rw [hd] at h0 h1 h2 h3
      obtain ⟨x, hx⟩ : ∃ x, ∀ h, K[j]'h = x := ⟨K[j]'hltk, fun _ => rfl⟩
      have hkx : wr.cell? ⟨gk, j, none⟩ = some (.int .i64 x) := by
        rw [HI.out.since.cell (p := ⟨gk, j, none⟩) HGK.out, HCK.out j hltk, hx]
      have HD := Lib.hid hd
      have HX := Lib.hid hx
      have HLT := Lib.hid hlt
      have HLTK := Lib.hid hltk
      clear hc hd hx
      by_cases hdx : z.k = x
      · have HY := Lib.hid (show ([d, e].take (j + 1)).map Nd.k = K.take (j + 1) by
          rw [List.take_succ_eq_append_getElem HLT.out, List.take_succ_eq_append_getElem HLTK.out, List.map_append, HT.out, HD.out, HX.out, List.map_singleton, hdx])
        have hb : (z.k == x) = true := by simp [hdx]
        go_wp2_with fail
        go_quiet (fail)
        have HI2 := Lib.hid (HI.out.step (below_drewN (Below.refl _ _) nq))
        go_wp2_with fail
        go_roundw
        case rel => exact ⟨j + 1, HLT.out, by go_num, HI2, HY⟩
        case measure => have := HLT.out; simp [intOf]; omega
      · exfalso
        have h2 := HE.out
        unfold eqK at h2
        have h3 := of_decide_eq_true h2
        subst h3
        have h := HX.out (by simpa using HLT.out)
        rw [List.getElem_map, HD.out] at h
        exact hdx h
    · obtain rfl : j = 2 := by simp at hlt hj; omega
      clear HT HE HCK HGK HLK
      have HAr := Lib.hid (HA.out.later HI.out.below)
      obtain ⟨A2, cap2, e2, hc⟩ := HAr.out.row
      injection e2 with eA _ ec
      subst eA ec
      obtain ⟨g, o, rfl, hg, a0, a1, a2, a3⟩ := hc 0 (by simp)
      obtain ⟨g1, o1, e1, -, b0, b1, b2, b3⟩ := hc 1 (by simp)
      injection e1 with e1
      injection e1 with eg1 eo1 _
      subst eg1 eo1
      replace a0 : wr.cell? ⟨g, o, none⟩ = some (.int .i64 d.k) := a0
      replace a1 : wr.cell? ⟨g, o + 1, none⟩ = some (.int .i64 d.n) := a1
      replace a2 : wr.cell? ⟨g, o + 2, none⟩ = some (.string d.t) := a2
      replace a3 : wr.cell? ⟨g, o + 3, none⟩ = some (.slice d.a d.m d.c) := a3
      replace b0 : wr.cell? ⟨g, o + 4, none⟩ = some (.int .i64 e.k) := b0
      replace b1 : wr.cell? ⟨g, o + 5, none⟩ = some (.int .i64 e.n) := b1
      replace b2 : wr.cell? ⟨g, o + 6, none⟩ = some (.string e.t) := b2
      replace b3 : wr.cell? ⟨g, o + 7, none⟩ = some (.slice e.a e.m e.c) := b3
      have hg2 : g < wr.heap.size := hg
      clear hc
      have y0 := keep_al (o := (.cells #[.int .i64 d.k, .int .i64 d.n, .string d.t, .slice d.a d.m d.c] 26 (0, 0))) b0
      have y1 := keep_al (o := (.cells #[.int .i64 d.k, .int .i64 d.n, .string d.t, .slice d.a d.m d.c] 26 (0, 0))) b1
      have y2 := keep_al (o := (.cells #[.int .i64 d.k, .int .i64 d.n, .string d.t, .slice d.a d.m d.c] 26 (0, 0))) b2
      have y3 := keep_al (o := (.cells #[.int .i64 d.k, .int .i64 d.n, .string d.t, .slice d.a d.m d.c] 26 (0, 0))) b3
      go_upto_region 11 with (fail)
      have HM := Lib.hid (rmI_start HI.out d e)
      generalize (wr.alloc (.cells #[.int .i64 d.k, .int .i64 d.n, .string d.t, .slice d.a d.m d.c] 26)).alloc (.cells #[.int .i64 e.k, .int .i64 e.n, .string e.t, .slice e.a e.m e.c] 26) = w5 at HM ⊢
      generalize wr.heap.size = bx at HM ⊢
      clear y0 y1 y2 y3 a0 a1 a2 a3 b0 b1 b2 b3 hg2 hg hlt hj
      have p0 : w5.cell? ⟨bx, 0, none⟩ = some (.int .i64 d.k) := blk_cell HM.out.one 0
      have p1 : w5.cell? ⟨bx, 1, none⟩ = some (.int .i64 d.n) := blk_cell HM.out.one 1
      have p2 : w5.cell? ⟨bx, 2, none⟩ = some (.string d.t) := blk_cell HM.out.one 2
      have p3 : w5.cell? ⟨bx, 3, none⟩ = some (.slice d.a d.m d.c) := blk_cell HM.out.one 3
      have l0 : w5.cell? ⟨bx + 1, 0, none⟩ = some (.int .i64 e.k) := blk_cell HM.out.last 0
      have l1 : w5.cell? ⟨bx + 1, 1, none⟩ = some (.int .i64 e.n) := blk_cell HM.out.last 1
      have l2 : w5.cell? ⟨bx + 1, 2, none⟩ = some (.string e.t) := blk_cell HM.out.last 2
      have l3 : w5.cell? ⟨bx + 1, 3, none⟩ = some (.slice e.a e.m e.c) := blk_cell HM.out.last 3
      have r0 : w5.cell? ⟨w.heap.size, 0, none⟩ = some (.int .i64 0) := blk_cell HM.out.res 0
      have s0 := blk_frozen HM.out.res 0
      have r1 : w5.cell? ⟨w.heap.size, 1, none⟩ = some (.int .i64 0) := blk_cell HM.out.res 1
      have s1 := blk_frozen HM.out.res 1
      have r2 : w5.cell? ⟨w.heap.size, 2, none⟩ = some (.string ⟨#[]⟩) := blk_cell HM.out.res 2
      have s2 := blk_frozen HM.out.res 2
      have r3 : w5.cell? ⟨w.heap.size, 3, none⟩ = some (.slice none 0 0) := blk_cell HM.out.res 3
      have s3 := blk_frozen HM.out.res 3
      go_wp2_with fail
      refine (hrt.out _).mono ?_
      rintro e6 w6 ⟨rfl, hb6⟩
      have HM6 := Lib.hid (HM.out.step hb6)
      clear r0 r1 r2 r3 s0 s1 s2 s3 hb6
      have r0 : w6.cell? ⟨w.heap.size, 0, none⟩ = some (.int .i64 0) := blk_cell HM6.out.res 0
      have s0 := blk_frozen HM6.out.res 0
      have r1 : w6.cell? ⟨w.heap.size, 1, none⟩ = some (.int .i64 0) := blk_cell HM6.out.res 1
      have s1 := blk_frozen HM6.out.res 1
      have r2 : w6.cell? ⟨w.heap.size, 2, none⟩ = some (.string ⟨#[]⟩) := blk_cell HM6.out.res 2
      have s2 := blk_frozen HM6.out.res 2
      have r3 : w6.cell? ⟨w.heap.size, 3, none⟩ = some (.slice none 0 0) := blk_cell HM6.out.res 3
      have s3 := blk_frozen HM6.out.res 3
      go_wp2_with fail
      have H4 := dat_put HM6.out.res (2) (N) (⟨#[]⟩)
      have HB4 := Lib.hid (below_put HM6.out.below (2) (N) (⟨#[]⟩))
      have q0 := blk_cell H4 0
      have q1 := blk_cell H4 1
      have q2 := blk_cell H4 2
      have q3 := blk_cell H4 3
      clear r0 r1 r2 r3 s0 s1 s2 s3
      (try simp only [Exit.inBlock, Exit.then])
      refine bodyPost_ret (by simp [results, Tryz.results14, go_sem, q0, q1, q2, q3]; rfl) rfl ?_
      exact ⟨rfl, HB4.out⟩
set_option maxRecDepth 100000 in
set_option maxHeartbeats 40000000 in
theorem reval_2_8 (d e : Nd) (v : Value) (w : World) (hA : ArgsAt [d, e] v w) (hk : eqK [d, e] (kindsN 8) = true) :
    Calls Tryz.prog 14 #[.int .i64 8, v] w (Giv (resRV (valR 8 d e e)) w) := by
  show Calls Tryz.prog _ _ _ (Giv (resRV (truthR (decide (d.n < e.n)))) w)
  unfold truthR
  have hrt := Lib.hid (fun w => rtruth_of (decide (d.n < e.n)) w)
  generalize (if (decide (d.n < e.n)) = true then (1 : Int) else 0) = N at hrt ⊢
  have hp : pureB 8 = true := rfl
  have hlen : 2 = (kindsN 8).length := by rfl
  have HA := Lib.hid hA
  obtain ⟨A, cap, rfl, hc0⟩ := hA.row
  have hL3 : 2 ≤ 3 := by rw [hlen]; unfold kindsN; (repeat' split) <;> decide
  have hle : (((kindsN 8).length : Nat) : Int) = 2 := by omega
  have hlb : True := trivial
  have HP := Lib.hid hp
  have HE := Lib.hid hk
  clear hk
  rw [show [d, e].length = 2 from rfl]
  clear hA hc0 hp
  go_enter Tryz.func14, Tryz.ntmps14
  go_upto_region 1 with (fail)
  have HR := Lib.hid (blk_new w (.cells #[.int .i64 0, .int .i64 0, .string ⟨#[]⟩, .slice none 0 0] 26 (0, 0)))
  have HB := Lib.hid (below_alloc (Below.refl w.heap.size w) (.cells #[.int .i64 0, .int .i64 0, .string ⟨#[]⟩, .slice none 0 0] 26))
  generalize w.alloc (.cells #[.int .i64 0, .int .i64 0, .string ⟨#[]⟩, .slice none 0 0] 26) = w0 at HR HB ⊢
  go_wp2_with fail
  refine (rkinds_of 8 _ HP.out).mono ?_
  rintro e2 w2 ⟨⟨u, rfl, hK⟩, hb2⟩
  obtain ⟨gk, capk, rfl, hgk, hck⟩ := hK.row
  have HI := Lib.hid (⟨blk_below HR.out hb2, below_step HB.out hb2, Below.refl _ _⟩ : RlI w w2 w2)
  have HGK := Lib.hid hgk
  have HCK := Lib.hid hck
  clear hb2 hK hck hgk HR HB
  have HLK : Hid (2 = (kindsN 8).length) := Lib.hid hlen
  clear hlen
  go_upto_region 4 with (fail)
  generalize kindsN 8 = K at HCK HLK HE hle hlb ⊢
  go_wp2_with fail
  go_loopw [7] (fun i wr => ∃ j : Nat, j ≤ 2 ∧ i = .int .i64 (j : Nat) ∧ Hid (RlI w w2 wr) ∧ Hid (([d, e].take j).map Nd.k = K.take j)) (fun i _ => 2 - (intOf i).toNat)
  case atStart => exact ⟨0, Nat.zero_le _, rfl, HI, Lib.hid (by simp)⟩
  case round =>
    clear HI hle hlb
    obtain ⟨j, hj, rfl, HI, HT⟩ := hrel
    by_cases hlt : j < 2
    · have hlt' : (j : Int) < (2 : Nat) := by omega
      have hltk : j < K.length := by rw [← HLK.out]; exact hlt
      have hltk' : (j : Int) < (K.length : Nat) := by omega
      have HAr := Lib.hid (HA.out.later HI.out.below)
      obtain ⟨A2, cap2, e2, hc⟩ := HAr.out.row
      injection e2 with eA _ ec
      subst eA ec
      obtain ⟨g, o, rfl, hg, h0, h1, h2, h3⟩ := hc j hlt
      obtain ⟨z, hd⟩ : ∃ z, [d, e][j] = z := ⟨_, rfl⟩
      rw [hd] at h0 h1 h2 h3
      obtain ⟨x, hx⟩ : ∃ x, ∀ h, K[j]'h = x := ⟨K[j]'hltk, fun _ => rfl⟩
      have hkx : wr.cell? ⟨gk, j, none⟩ = some (.int .i64 x) := by
        rw [HI.out.since.cell (p := ⟨gk, j, none⟩) HGK.out, HCK.out j hltk, hx]
      have HD := Lib.hid hd
      have HX := Lib.hid hx
      have HLT := Lib.hid hlt
      have HLTK := Lib.hid hltk
      clear hc hd hx
      by_cases hdx : z.k = x
      · have HY := Lib.hid (show ([d, e].take (j + 1)).map Nd.k = K.take (j + 1) by
          rw [List.take_succ_eq_append_getElem HLT.out, List.take_succ_eq_append_getElem HLTK.out, List.map_append, HT.out, HD.out, HX.out, List.map_singleton, hdx])
        have hb : (z.k == x) = true := by simp [hdx]
        go_wp2_with fail
        go_quiet (fail)
        have HI2 := Lib.hid (HI.out.step (below_drewN (Below.refl _ _) nq))
        go_wp2_with fail
        go_roundw
        case rel => exact ⟨j + 1, HLT.out, by go_num, HI2, HY⟩
        case measure => have := HLT.out; simp [intOf]; omega
      · exfalso
        have h2 := HE.out
        unfold eqK at h2
        have h3 := of_decide_eq_true h2
        subst h3
        have h := HX.out (by simpa using HLT.out)
        rw [List.getElem_map, HD.out] at h
        exact hdx h
    · obtain rfl : j = 2 := by simp at hlt hj; omega
      clear HT HE HCK HGK HLK
      have HAr := Lib.hid (HA.out.later HI.out.below)
      obtain ⟨A2, cap2, e2, hc⟩ := HAr.out.row
      injection e2 with eA _ ec
      subst eA ec
      obtain ⟨g, o, rfl, hg, a0, a1, a2, a3⟩ := hc 0 (by simp)
      obtain ⟨g1, o1, e1, -, b0, b1, b2, b3⟩ := hc 1 (by simp)
      injection e1 with e1
      injection e1 with eg1 eo1 _
      subst eg1 eo1
      replace a0 : wr.cell? ⟨g, o, none⟩ = some (.int .i64 d.k) := a0
      replace a1 : wr.cell? ⟨g, o + 1, none⟩ = some (.int .i64 d.n) := a1
      replace a2 : wr.cell? ⟨g, o + 2, none⟩ = some (.string d.t) := a2
      replace a3 : wr.cell? ⟨g, o + 3, none⟩ = some (.slice d.a d.m d.c) := a3
      replace b0 : wr.cell? ⟨g, o + 4, none⟩ = some (.int .i64 e.k) := b0
      replace b1 : wr.cell? ⟨g, o + 5, none⟩ = some (.int .i64 e.n) := b1
      replace b2 : wr.cell? ⟨g, o + 6, none⟩ = some (.string e.t) := b2
      replace b3 : wr.cell? ⟨g, o + 7, none⟩ = some (.slice e.a e.m e.c) := b3
      have hg2 : g < wr.heap.size := hg
      clear hc
      have y0 := keep_al (o := (.cells #[.int .i64 d.k, .int .i64 d.n, .string d.t, .slice d.a d.m d.c] 26 (0, 0))) b0
      have y1 := keep_al (o := (.cells #[.int .i64 d.k, .int .i64 d.n, .string d.t, .slice d.a d.m d.c] 26 (0, 0))) b1
      have y2 := keep_al (o := (.cells #[.int .i64 d.k, .int .i64 d.n, .string d.t, .slice d.a d.m d.c] 26 (0, 0))) b2
      have y3 := keep_al (o := (.cells #[.int .i64 d.k, .int .i64 d.n, .string d.t, .slice d.a d.m d.c] 26 (0, 0))) b3
      go_upto_region 11 with (fail)
      have HM := Lib.hid (rmI_start HI.out d e)
      generalize (wr.alloc (.cells #[.int .i64 d.k, .int .i64 d.n, .string d.t, .slice d.a d.m d.c] 26)).alloc (.cells #[.int .i64 e.k, .int .i64 e.n, .string e.t, .slice e.a e.m e.c] 26) = w5 at HM ⊢
      generalize wr.heap.size = bx at HM ⊢
      clear y0 y1 y2 y3 a0 a1 a2 a3 b0 b1 b2 b3 hg2 hg hlt hj
      have p0 : w5.cell? ⟨bx, 0, none⟩ = some (.int .i64 d.k) := blk_cell HM.out.one 0
      have p1 : w5.cell? ⟨bx, 1, none⟩ = some (.int .i64 d.n) := blk_cell HM.out.one 1
      have p2 : w5.cell? ⟨bx, 2, none⟩ = some (.string d.t) := blk_cell HM.out.one 2
      have p3 : w5.cell? ⟨bx, 3, none⟩ = some (.slice d.a d.m d.c) := blk_cell HM.out.one 3
      have l0 : w5.cell? ⟨bx + 1, 0, none⟩ = some (.int .i64 e.k) := blk_cell HM.out.last 0
      have l1 : w5.cell? ⟨bx + 1, 1, none⟩ = some (.int .i64 e.n) := blk_cell HM.out.last 1
      have l2 : w5.cell? ⟨bx + 1, 2, none⟩ = some (.string e.t) := blk_cell HM.out.last 2
      have l3 : w5.cell? ⟨bx + 1, 3, none⟩ = some (.slice e.a e.m e.c) := blk_cell HM.out.last 3
      have r0 : w5.cell? ⟨w.heap.size, 0, none⟩ = some (.int .i64 0) := blk_cell HM.out.res 0
      have s0 := blk_frozen HM.out.res 0
      have r1 : w5.cell? ⟨w.heap.size, 1, none⟩ = some (.int .i64 0) := blk_cell HM.out.res 1
      have s1 := blk_frozen HM.out.res 1
      have r2 : w5.cell? ⟨w.heap.size, 2, none⟩ = some (.string ⟨#[]⟩) := blk_cell HM.out.res 2
      have s2 := blk_frozen HM.out.res 2
      have r3 : w5.cell? ⟨w.heap.size, 3, none⟩ = some (.slice none 0 0) := blk_cell HM.out.res 3
      have s3 := blk_frozen HM.out.res 3
      go_wp2_with fail
      refine (hrt.out _).mono ?_
      rintro e6 w6 ⟨rfl, hb6⟩
      have HM6 := Lib.hid (HM.out.step hb6)
      clear r0 r1 r2 r3 s0 s1 s2 s3 hb6
      have r0 : w6.cell? ⟨w.heap.size, 0, none⟩ = some (.int .i64 0) := blk_cell HM6.out.res 0
      have s0 := blk_frozen HM6.out.res 0
      have r1 : w6.cell? ⟨w.heap.size, 1, none⟩ = some (.int .i64 0) := blk_cell HM6.out.res 1
      have s1 := blk_frozen HM6.out.res 1
      have r2 : w6.cell? ⟨w.heap.size, 2, none⟩ = some (.string ⟨#[]⟩) := blk_cell HM6.out.res 2
      have s2 := blk_frozen HM6.out.res 2
      have r3 : w6.cell? ⟨w.heap.size, 3, none⟩ = some (.slice none 0 0) := blk_cell HM6.out.res 3
      have s3 := blk_frozen HM6.out.res 3
      go_wp2_with fail
      have H4 := dat_put HM6.out.res (2) (N) (⟨#[]⟩)
      have HB4 := Lib.hid (below_put HM6.out.below (2) (N) (⟨#[]⟩))
      have q0 := blk_cell H4 0
      have q1 := blk_cell H4 1
      have q2 := blk_cell H4 2
      have q3 := blk_cell H4 3
      clear r0 r1 r2 r3 s0 s1 s2 s3
      (try simp only [Exit.inBlock, Exit.then])
      refine bodyPost_ret (by simp [results, Tryz.results14, go_sem, q0, q1, q2, q3]; rfl) rfl ?_
      exact ⟨rfl, HB4.out⟩
end Go.Proofs.YtneokkhnjnomdaaGreatDoor

/-! GrL -/
namespace Go.Proofs.YtneokkhnjnomdaaGreatDoor
open Go.RowKit Go.Proofs.YtneokkhnjnomdaaGreatDoor.PSh Go.Proofs.YtneokkhnjnomdaaGreatDoorW.PrintWords Go.ChangeShapes Go.WideShapes

/-- The reference's Eval, of any arguments that are plain. -/
theorem reval_all (n : Int) (L : List Nd) (v : Value) (w : World) (hA : ArgsAt L v w) (hp : pureB n = true) (hl : L.any (fun d => !plainN d) = false) :
    Calls Tryz.prog 14 #[.int .i64 n, v] w (Giv (resRV (resL n L)) w) := by
  by_cases hlen : L.length = (kindsN n).length
  · by_cases hk : eqK L (kindsN n) = true
    · rcases pure_cases hp with rfl | rfl | rfl | rfl | rfl | rfl | rfl | rfl | rfl | rfl | rfl | rfl | rfl | rfl | rfl | rfl | rfl | rfl | rfl
      · obtain ⟨d, e, rfl⟩ := len_2 (hlen.trans (show (kindsN 1).length = 2 from rfl))
        rw [resL_2 rfl hk]
        exact reval_2_1 d e v w hA hk
      · obtain ⟨d, e, rfl⟩ := len_2 (hlen.trans (show (kindsN 2).length = 2 from rfl))
        rw [resL_2 rfl hk]
        exact reval_2_2 d e v w hA hk
      · obtain ⟨d, e, rfl⟩ := len_2 (hlen.trans (show (kindsN 3).length = 2 from rfl))
        rw [resL_2 rfl hk]
        exact reval_2_3 d e v w hA hk
      · obtain ⟨d, e, rfl⟩ := len_2 (hlen.trans (show (kindsN 4).length = 2 from rfl))
        rw [resL_2 rfl hk]
        exact reval_2_4 d e v w hA hk
      · obtain ⟨d, e, rfl⟩ := len_2 (hlen.trans (show (kindsN 5).length = 2 from rfl))
        rw [resL_2 rfl hk]
        exact reval_2_5 d e v w hA hk
      · obtain ⟨d, e, rfl⟩ := len_2 (hlen.trans (show (kindsN 6).length = 2 from rfl))
        rw [resL_2 rfl hk]
        exact reval_2_6 d e v w hA hk
      · obtain ⟨d, e, rfl⟩ := len_2 (hlen.trans (show (kindsN 7).length = 2 from rfl))
        rw [resL_2 rfl hk]
        exact reval_2_7 d e v w hA hk
      · obtain ⟨d, e, rfl⟩ := len_2 (hlen.trans (show (kindsN 8).length = 2 from rfl))
        rw [resL_2 rfl hk]
        exact reval_2_8 d e v w hA hk
      · obtain ⟨d, rfl⟩ := len_1 (hlen.trans (show (kindsN 29).length = 1 from rfl))
        rw [resL_1 rfl hk]
        exact reval_1 29 d v w hA (by decide) hl hk
      · obtain ⟨d, e, rfl⟩ := len_2 (hlen.trans (show (kindsN 30).length = 2 from rfl))
        rw [resL_2 rfl hk]
        exact reval_2 30 d e v w hA (by decide) hl hk
      · obtain ⟨d, e, rfl⟩ := len_2 (hlen.trans (show (kindsN 31).length = 2 from rfl))
        rw [resL_2 rfl hk]
        exact reval_2 31 d e v w hA (by decide) hl hk
      · obtain ⟨d, e, rfl⟩ := len_2 (hlen.trans (show (kindsN 32).length = 2 from rfl))
        rw [resL_2 rfl hk]
        exact reval_2 32 d e v w hA (by decide) hl hk
      · obtain ⟨d, e, f, rfl⟩ := len_3 (hlen.trans (show (kindsN 33).length = 3 from rfl))
        rw [resL_3 rfl hk]
        exact reval_3 d e f v w hA hk
      · obtain ⟨d, rfl⟩ := len_1 (hlen.trans (show (kindsN 34).length = 1 from rfl))
        rw [resL_1 rfl hk]
        exact reval_1 34 d v w hA (by decide) hl hk
      · obtain ⟨d, rfl⟩ := len_1 (hlen.trans (show (kindsN 35).length = 1 from rfl))
        rw [resL_1 rfl hk]
        exact reval_1 35 d v w hA (by decide) hl hk
      · obtain ⟨d, rfl⟩ := len_1 (hlen.trans (show (kindsN 36).length = 1 from rfl))
        rw [resL_1 rfl hk]
        exact reval_1 36 d v w hA (by decide) hl hk
      · obtain ⟨d, rfl⟩ := len_1 (hlen.trans (show (kindsN 37).length = 1 from rfl))
        rw [resL_1 rfl hk]
        exact reval_1 37 d v w hA (by decide) hl hk
      · obtain ⟨d, rfl⟩ := len_1 (hlen.trans (show (kindsN 38).length = 1 from rfl))
        rw [resL_1 rfl hk]
        exact reval_1 38 d v w hA (by decide) hl hk
      · obtain ⟨d, rfl⟩ := len_1 (hlen.trans (show (kindsN 39).length = 1 from rfl))
        rw [resL_1 rfl hk]
        exact reval_1 39 d v w hA (by decide) hl hk
    · have hr : resL n L = errR 9 := by
        unfold resL
        rw [if_neg (by simpa using hlen), if_pos (by simpa using hk)]
      rw [hr]
      exact reval_kind n L v w hA hp hlen (by simpa using hk)
  · have hr : resL n L = errR 10 := by
      unfold resL
      rw [if_pos hlen]
    rw [hr]
    exact reval_len n L v w hA hp hlen

/-- What comes is something, or an error alone. -/
def okR (r : Res) : Prop := r.e = 0 ∨ ∃ E, 1 ≤ E ∧ E ≤ 20 ∧ r = errR E
theorem num_okR (p : Int × Int) (h0 : 0 ≤ p.2) (h1 : p.2 ≤ 20) : okR (numR p) := by
  unfold numR
  split
  · exact .inl rfl
  · exact .inr ⟨p.2, by omega, h1, rfl⟩
theorem fit_r (x : Int) : 0 ≤ (fitL x).2 ∧ (fitL x).2 ≤ 20 := by
  unfold fitL
  split
  · exact ⟨by show (0 : Int) ≤ 0; omega, by show (0 : Int) ≤ 20; omega⟩
  · exact ⟨by show (0 : Int) ≤ 11; omega, by show (11 : Int) ≤ 20; omega⟩
theorem two_r : (0 : Int) ≤ ((0, 2) : Int × Int).2 ∧ ((0, 2) : Int × Int).2 ≤ 20 := ⟨by show (0 : Int) ≤ 2; omega, by show (2 : Int) ≤ 20; omega⟩
theorem div_r (f : Int × Int) (hf : 0 ≤ f.2 ∧ f.2 ≤ 20) (a b : Int) : 0 ≤ (divWith f a b).2 ∧ (divWith f a b).2 ≤ 20 := by
  unfold divWith
  split
  · split
    · exact ⟨by show (0 : Int) ≤ 12; omega, by show (12 : Int) ≤ 20; omega⟩
    · exact hf
  · exact two_r
theorem add_r (a b : Int) : 0 ≤ (addL a b).2 ∧ (addL a b).2 ≤ 20 := by unfold addL; split; exact fit_r _; exact two_r
theorem sub_r (a b : Int) : 0 ≤ (subL a b).2 ∧ (subL a b).2 ≤ 20 := by unfold subL; split; exact fit_r _; exact two_r
theorem mul_r (a b : Int) : 0 ≤ (mulL a b).2 ∧ (mulL a b).2 ≤ 20 := by unfold mulL; split; exact fit_r _; exact two_r
theorem err_r (k : Int) (h0 : 1 ≤ k) (h1 : k ≤ 20) : okR (errR k) := .inr ⟨k, h0, h1, rfl⟩
theorem valR_r (n : Int) (d e f : Nd) : okR (valR n d e f) := by
  unfold valR
  by_cases h1 : n = 1
  · rw [if_pos h1]; exact num_okR _ (add_r _ _).1 (add_r _ _).2
  rw [if_neg h1]
  by_cases h2 : n = 2
  · rw [if_pos h2]; exact num_okR _ (sub_r _ _).1 (sub_r _ _).2
  rw [if_neg h2]
  by_cases h3 : n = 3
  · rw [if_pos h3]; exact num_okR _ (mul_r _ _).1 (mul_r _ _).2
  rw [if_neg h3]
  by_cases h4 : n = 4
  · rw [if_pos h4]; exact num_okR _ (div_r _ (fit_r _) _ _).1 (div_r _ (fit_r _) _ _).2
  rw [if_neg h4]
  by_cases h5 : n = 5
  · rw [if_pos h5]; exact num_okR _ (div_r _ ⟨by show (0 : Int) ≤ 0; omega, by show (0 : Int) ≤ 20; omega⟩ _ _).1 (div_r _ ⟨by show (0 : Int) ≤ 0; omega, by show (0 : Int) ≤ 20; omega⟩ _ _).2
  rw [if_neg h5]
  by_cases h6 : n = 6
  · rw [if_pos h6]; exact num_okR _ (div_r _ ⟨by show (0 : Int) ≤ 0; omega, by show (0 : Int) ≤ 20; omega⟩ _ _).1 (div_r _ ⟨by show (0 : Int) ≤ 0; omega, by show (0 : Int) ≤ 20; omega⟩ _ _).2
  rw [if_neg h6]
  by_cases h7 : n = 7
  · rw [if_pos h7]; exact .inl rfl
  rw [if_neg h7]
  by_cases h8 : n = 8
  · rw [if_pos h8]; exact .inl rfl
  rw [if_neg h8]
  by_cases h29 : n = 29
  · rw [if_pos h29]; exact .inl rfl
  rw [if_neg h29]
  by_cases h30 : n = 30
  · rw [if_pos h30]; unfold charR; split; exact .inl rfl; exact err_r 13 (by omega) (by omega)
  rw [if_neg h30]
  by_cases h31 : n = 31
  · rw [if_pos h31]; unfold appR; split; exact .inl rfl; exact err_r 14 (by omega) (by omega)
  rw [if_neg h31]
  by_cases h32 : n = 32
  · rw [if_pos h32]; exact .inl rfl
  rw [if_neg h32]
  by_cases h33 : n = 33
  · rw [if_pos h33]; unfold cutR; split; exact .inl rfl; exact err_r 13 (by omega) (by omega)
  rw [if_neg h33]
  by_cases h34 : n = 34
  · rw [if_pos h34]; exact .inl rfl
  rw [if_neg h34]
  by_cases h35 : n = 35
  · rw [if_pos h35]; unfold parseR; split; exact .inl rfl; exact .inl rfl
  rw [if_neg h35]
  by_cases h36 : n = 36
  · rw [if_pos h36]; exact .inl rfl
  rw [if_neg h36]
  by_cases h37 : n = 37
  · rw [if_pos h37]; unfold symR; split; exact .inl rfl; exact err_r 9 (by omega) (by omega)
  rw [if_neg h37]
  by_cases h38 : n = 38
  · rw [if_pos h38]; exact .inl rfl
  rw [if_neg h38]
  unfold byteR; split; exact .inl rfl; exact err_r 13 (by omega) (by omega)
theorem resL_r (n : Int) (L : List Nd) : okR (resL n L) := by
  unfold resL
  split
  · exact err_r 10 (by omega) (by omega)
  · split
    · exact err_r 9 (by omega) (by omega)
    · split
      · exact valR_r _ _ _ _
      · exact valR_r _ _ _ _
      · exact valR_r _ _ _ _
      · exact err_r 9 (by omega) (by omega)

/-- A datum without what lies in memory. -/
def bareN (d : Nd) : Nd := ⟨d.k, d.n, d.t, none, 0, 0⟩
theorem res_map (n : Int) (L : List Nd) : resL n (L.map bareN) = resL n L := by
  have h : eqK (L.map bareN) (kindsN n) = eqK L (kindsN n) := by
    unfold eqK
    rw [List.map_map]
    rfl
  unfold resL
  rw [List.length_map, h]
  rcases L with _ | ⟨d, _ | ⟨e, _ | ⟨f, r⟩⟩⟩ <;> rfl
theorem res_nd {n : Int} {l : List Dat} {L L' : List Nd} (hl : L.length = l.length) (h : ∀ j (h : j < l.length), NdIs (L[j]'(by omega)) l[j]) (hl' : L'.length = l.length) (h' : ∀ j (h : j < l.length), NdIs (L'[j]'(by omega)) l[j]) : resL n L = resL n L' := by
  rw [← res_map n L, ← res_map n L']
  congr 1
  apply List.ext_getElem
  · rw [List.length_map, List.length_map, hl, hl']
  · intro j h1 h2
    rw [List.getElem_map, List.getElem_map]
    have hj : j < l.length := by rw [List.length_map] at h1; omega
    have a := h j hj
    have b := h' j hj
    unfold bareN
    rw [a.k, a.n, a.t, b.k, b.n, b.t]

theorem same_f (k n : Int) (t : ByteArray) : spindleref08_Same.f 3 k n t [] k n t [] = some true := by
  simp [spindleref08_Same.f, spindleref08_Same.j0, spindleref08_Same.l0]
theorem same_leaf (k n : Int) (t : ByteArray) (w : World) : Calls Tryz.prog 13 #[datV k n t, datV k n t] w (Giv (.bool true) w) :=
  (spindleref08_Same.calls 3 k n t none 0 [] k n t none 0 [] true w (row_none w none) (Nat.le_refl _) (row_none w none) (Nat.le_refl _) (same_f k n t)).mono fun _ _ h => ⟨h.1, h.2⟩
theorem nam_put {b : Nat} {k : Int} {s : ByteArray} {W : World} (h : W.heap[b]? = some (.cells #[.int .i64 k, .string s] 34 (0, 0))) (k' : Int) (s' : ByteArray) :
    ((W.setCell ⟨b, 0, none⟩ (.int .i64 k')).setCell ⟨b, 1, none⟩ (.string s')).heap[b]? = some (.cells #[.int .i64 k', .string s'] 34 (0, 0)) :=
  blk_put (blk_put h 0 _ rfl) 1 _ rfl
theorem below_nam {w W : World} {b : Nat} (h : Below w.heap.size w W) (hb : w.heap.size ≤ b) (k' : Int) (s' : ByteArray) :
    Below w.heap.size w ((W.setCell ⟨b, 0, none⟩ (.int .i64 k')).setCell ⟨b, 1, none⟩ (.string s')) := below_set (below_set h hb) hb
end Go.Proofs.YtneokkhnjnomdaaGreatDoor

/-! PrK -/
namespace Go.Proofs.YtneokkhnjnomdaaGreatDoor
open Go.RowKit Go.Proofs.YtneokkhnjnomdaaGreatDoorW.PrintWords

abbrev refCells : Obj := .cells (([] :: nameL).map fun l => Value.string ⟨l.toArray⟩).toArray 9

set_option maxRecDepth 100000 in
set_option maxHeartbeats 4000000 in
theorem refnames_of (w : World) : Calls Tryz.prog 46 #[] w fun e w' => e = .returned (.slice (some ⟨w.heap.size, 0, none⟩) 55 55) ∧ w' = w.alloc refCells := by
  go_enter Tryz.func46, Tryz.ntmps46
  go_wp2_with fail
  go_ret
  exact ⟨rfl, rfl⟩

set_option maxRecDepth 100000 in
theorem refnames_cell (w : World) (j : Nat) (hj : j < 55) : (w.alloc refCells).cell? ⟨w.heap.size, j, none⟩ = some (.string (nameS (([] :: nameL).getD j []))) := by
  rw [blk_cell (blk_new w (.cells (([] :: nameL).map fun l => Value.string ⟨l.toArray⟩).toArray 9 (0, 0))) j]
  have hl : ([] :: nameL).length = 55 := rfl
  generalize ([] :: nameL) = L at hl ⊢
  simp [List.getD, List.getElem?_eq_getElem (show j < L.length by omega), nameS]

set_option maxRecDepth 100000 in
set_option maxHeartbeats 4000000 in
theorem refname_of (n : Int) (w : World) : Calls Tryz.prog 15 #[.int .i64 n] w fun e w' => e = .returned (.string (nameS (nameN n))) ∧ Below w.heap.size w w' := by
  by_cases h1 : n < 1
  · have b1 : decide (n < 1) = true := decide_eq_true h1
    rw [name_lt n (fun h => absurd h.1 (by omega))]
    go_enter Tryz.func15, Tryz.ntmps15
    go_wp2_with fail
    go_ret
    exact ⟨rfl, Below.refl _ _⟩
  · have b1 : decide (n < 1) = false := decide_eq_false h1
    by_cases h2 : 55 ≤ n
    · have b2 : decide (55 ≤ n) = true := decide_eq_true h2
      rw [name_lt n (fun h => absurd h.2 (by omega))]
      have HB := Lib.hid (below_alloc (Below.refl w.heap.size w) refCells)
      go_enter Tryz.func15, Tryz.ntmps15
      go_wp2_with fail
      refine (refnames_of _).mono ?_
      rintro e w' ⟨rfl, rfl⟩
      generalize w.alloc refCells = w2 at HB ⊢
      go_wp2_with fail
      go_ret
      exact ⟨rfl, HB.out⟩
    · have b2 : decide (55 ≤ n) = false := decide_eq_false h2
      have HB := Lib.hid (below_alloc (Below.refl w.heap.size w) refCells)
      have HN := Lib.hid (show ([] :: nameL).getD n.toNat [] = nameN n by
        rw [name_at n (by omega) (by omega)]
        obtain ⟨k, hk⟩ : ∃ k, n.toNat = k + 1 := ⟨n.toNat - 1, by omega⟩
        rw [hk]
        rfl)
      go_enter Tryz.func15, Tryz.ntmps15
      go_wp2_with fail
      refine (refnames_of _).mono ?_
      rintro e w' ⟨rfl, rfl⟩
      have HB2 := Lib.hid (below_step HB.out (below_alloc (Below.refl (w.alloc refCells).heap.size (w.alloc refCells)) refCells))
      have HC := Lib.hid (refnames_cell (w.alloc refCells) n.toNat (by omega))
      clear HB
      generalize w.alloc refCells = w2 at HB2 HC ⊢
      go_wp2_with fail
      refine (refnames_of _).mono ?_
      rintro e w' ⟨rfl, rfl⟩
      have hc := HC.out
      rw [HN.out] at hc
      generalize w2.alloc refCells = w3 at HB2 hc ⊢
      generalize w2.heap.size = g at hc ⊢
      go_wp2_with fail
      go_ret
      exact ⟨rfl, HB2.out⟩

structure RfI (s : ByteArray) (w : World) (k : Nat) (w' : World) : Prop where
  below : Below w.heap.size w w'
  ge : 1 ≤ k
  le : k ≤ 55
  none : ∀ j, j < k - 1 → nameS (nameL.getD j []) ≠ s

set_option maxRecDepth 100000 in
set_option maxHeartbeats 4000000 in
theorem refpure_of (n : Int) (w : World) : Calls Tryz.prog 12 #[.int .i64 n] w fun e w' => e = .returned (.bool (pureB n)) ∧ w' = w := by
  have hc : n < 1 ∨ (1 ≤ n ∧ n ≤ 8) ∨ (9 ≤ n ∧ n ≤ 28) ∨ (29 ≤ n ∧ n ≤ 39) ∨ 40 ≤ n := by omega
  rcases hc with hc | hc | hc | hc | hc
  · have hv : pureB n = false := by rw [pureB]; exact decide_eq_false (by omega)
    have b0 : decide (1 ≤ n) = false := decide_eq_false (by omega)
    have b1 : decide (29 ≤ n) = false := decide_eq_false (by omega)
    have c0 : ¬ 1 ≤ n := by omega
    have c1 : ¬ 29 ≤ n := by omega
    rw [hv]
    clear hv
    go_enter Tryz.func12, Tryz.ntmps12
    go_wp2_with fail
    go_ret
    exact ⟨rfl, rfl⟩
  · have hv : pureB n = true := by rw [pureB]; exact decide_eq_true (by omega)
    have b0 : decide (1 ≤ n) = true := decide_eq_true (by omega)
    have b1 : decide (n ≤ 8) = true := decide_eq_true (by omega)
    have c0 : 1 ≤ n := by omega
    have c1 : n ≤ 8 := by omega
    rw [hv]
    clear hv
    go_enter Tryz.func12, Tryz.ntmps12
    go_wp2_with fail
    go_ret
    exact ⟨rfl, rfl⟩
  · have hv : pureB n = false := by rw [pureB]; exact decide_eq_false (by omega)
    have b0 : decide (1 ≤ n) = true := decide_eq_true (by omega)
    have b1 : decide (n ≤ 8) = false := decide_eq_false (by omega)
    have b2 : decide (29 ≤ n) = false := decide_eq_false (by omega)
    have c0 : 1 ≤ n := by omega
    have c1 : ¬ n ≤ 8 := by omega
    have c2 : ¬ 29 ≤ n := by omega
    rw [hv]
    clear hv
    go_enter Tryz.func12, Tryz.ntmps12
    go_wp2_with fail
    go_ret
    exact ⟨rfl, rfl⟩
  · have hv : pureB n = true := by rw [pureB]; exact decide_eq_true (by omega)
    have b0 : decide (1 ≤ n) = true := decide_eq_true (by omega)
    have b1 : decide (n ≤ 8) = false := decide_eq_false (by omega)
    have b2 : decide (29 ≤ n) = true := decide_eq_true (by omega)
    have b3 : decide (n ≤ 39) = true := decide_eq_true (by omega)
    have c0 : 1 ≤ n := by omega
    have c1 : ¬ n ≤ 8 := by omega
    have c2 : 29 ≤ n := by omega
    have c3 : n ≤ 39 := by omega
    rw [hv]
    clear hv
    go_enter Tryz.func12, Tryz.ntmps12
    go_wp2_with fail
    go_ret
    exact ⟨rfl, rfl⟩
  · have hv : pureB n = false := by rw [pureB]; exact decide_eq_false (by omega)
    have b0 : decide (1 ≤ n) = true := decide_eq_true (by omega)
    have b1 : decide (n ≤ 8) = false := decide_eq_false (by omega)
    have b2 : decide (29 ≤ n) = true := decide_eq_true (by omega)
    have b3 : decide (n ≤ 39) = false := decide_eq_false (by omega)
    have c0 : 1 ≤ n := by omega
    have c1 : ¬ n ≤ 8 := by omega
    have c2 : 29 ≤ n := by omega
    have c3 : ¬ n ≤ 39 := by omega
    rw [hv]
    clear hv
    go_enter Tryz.func12, Tryz.ntmps12
    go_wp2_with fail
    go_ret
    exact ⟨rfl, rfl⟩
end Go.Proofs.YtneokkhnjnomdaaGreatDoor
