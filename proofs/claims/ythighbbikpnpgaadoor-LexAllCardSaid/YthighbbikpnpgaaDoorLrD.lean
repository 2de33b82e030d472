/-
  The reference's sharp.
-/
import Derived.Test.YthighbbikpnpgaaDoorLrC
namespace Go.Proofs.YthighbbikpnpgaaDoor
open Go.RowKit Go.Proofs.YthighbbikpnpgaaDoorW.PrintWords

theorem bad_start (w : World) (tl tc nx0 : Int) : FltAt (w.heap.size + 1 + 1 + 1) 6 tl tc ((((w.alloc (.cells #[.int .i64 0, .int .i64 0, .string ⟨#[]⟩, .int .i64 tl, .int .i64 tc, .int .i64 nx0] TT)).alloc (.cells #[.int .i64 0, .int .i64 0, .string ⟨#[]⟩, .int .i64 0, .int .i64 0, .int .i64 0] TT)).alloc (.cells #[.int .i64 0, .int .i64 0, .int .i64 0] 64)).alloc (.cells #[.int .i64 6, .int .i64 tl, .int .i64 tc] 64)) := by
  have := blk_new (((w.alloc (.cells #[.int .i64 0, .int .i64 0, .string ⟨#[]⟩, .int .i64 tl, .int .i64 tc, .int .i64 nx0] TT)).alloc (.cells #[.int .i64 0, .int .i64 0, .string ⟨#[]⟩, .int .i64 0, .int .i64 0, .int .i64 0] TT)).alloc (.cells #[.int .i64 0, .int .i64 0, .int .i64 0] 64)) (.cells #[.int .i64 6, .int .i64 tl, .int .i64 tc] 64 (0, 0))
  rw [show (((w.alloc (.cells #[.int .i64 0, .int .i64 0, .string ⟨#[]⟩, .int .i64 tl, .int .i64 tc, .int .i64 nx0] TT)).alloc (.cells #[.int .i64 0, .int .i64 0, .string ⟨#[]⟩, .int .i64 0, .int .i64 0, .int .i64 0] TT)).alloc (.cells #[.int .i64 0, .int .i64 0, .int .i64 0] 64)).heap.size = w.heap.size + 1 + 1 + 1 by simp] at this
  exact this

set_option maxRecDepth 400000 in
set_option maxHeartbeats 8000000 in
theorem refsharp_none (T : ByteArray) (i : Nat) (tl tc nx0 : Int) (w : World) (hi : i < T.size) (hT : T.size ≤ 1000000000) (hS : ¬ i + 1 < T.size) (t : TokR) (h1 : t.ln = tl) (h2 : t.cl = tc) :
    Calls Tryd.prog 67 #[.string T, .int .i64 (i : Nat), .agg #[.int .i64 0, .int .i64 0, .string ⟨#[]⟩, .int .i64 tl, .int .i64 tc, .int .i64 nx0]] w (NextTo (refRet (6, t)) w) := by
  have hi1 : (T.size : Int) ≤ (i : Nat) + 1 := by omega
  rw [show refRet (6, t) = .tuple #[tokV tok0, faultV 6 tl tc] by rw [← h1, ← h2]; rfl]
  clear h1 h2
  go_enter Tryd.func67, Tryd.ntmps67
  go_wp2_with fail
  have HB0 := Lib.hid (show Blks w 0 0 ⟨#[]⟩ tl tc nx0 ((((w.alloc (.cells #[.int .i64 0, .int .i64 0, .string ⟨#[]⟩, .int .i64 tl, .int .i64 tc, .int .i64 nx0] TT)).alloc (.cells #[.int .i64 0, .int .i64 0, .string ⟨#[]⟩, .int .i64 0, .int .i64 0, .int .i64 0] TT)).alloc (.cells #[.int .i64 0, .int .i64 0, .int .i64 0] 64)).alloc (.cells #[.int .i64 6, .int .i64 tl, .int .i64 tc] 64)) from (blks_start w 0 0 ⟨#[]⟩ tl tc nx0).step (below_alloc (Below.refl _ _) _))
  have HBD := Lib.hid (bad_start w tl tc nx0)
  generalize (((w.alloc (.cells #[.int .i64 0, .int .i64 0, .string ⟨#[]⟩, .int .i64 tl, .int .i64 tc, .int .i64 nx0] TT)).alloc (.cells #[.int .i64 0, .int .i64 0, .string ⟨#[]⟩, .int .i64 0, .int .i64 0, .int .i64 0] TT)).alloc (.cells #[.int .i64 0, .int .i64 0, .int .i64 0] 64)).alloc (.cells #[.int .i64 6, .int .i64 tl, .int .i64 tc] 64) = w0 at HB0 HBD ⊢
  have g0 : w0.cell? ⟨w.heap.size + 1 + 1 + 1, 0, none⟩ = some (.int .i64 6) := blk_cell HBD.out 0
  have g1 : w0.cell? ⟨w.heap.size + 1 + 1 + 1, 1, none⟩ = some (.int .i64 tl) := blk_cell HBD.out 1
  have g2 : w0.cell? ⟨w.heap.size + 1 + 1 + 1, 2, none⟩ = some (.int .i64 tc) := blk_cell HBD.out 2
  have r0 : w0.cell? ⟨w.heap.size + 1, 0, none⟩ = some (.int .i64 0) := blk_cell HB0.out.res 0
  have s0 := blk_frozen HB0.out.res 0
  have r1 : w0.cell? ⟨w.heap.size + 1, 1, none⟩ = some (.int .i64 0) := blk_cell HB0.out.res 1
  have s1 := blk_frozen HB0.out.res 1
  have r2 : w0.cell? ⟨w.heap.size + 1, 2, none⟩ = some (.string ⟨#[]⟩) := blk_cell HB0.out.res 2
  have s2 := blk_frozen HB0.out.res 2
  have r3 : w0.cell? ⟨w.heap.size + 1, 3, none⟩ = some (.int .i64 0) := blk_cell HB0.out.res 3
  have s3 := blk_frozen HB0.out.res 3
  have r4 : w0.cell? ⟨w.heap.size + 1, 4, none⟩ = some (.int .i64 0) := blk_cell HB0.out.res 4
  have s4 := blk_frozen HB0.out.res 4
  have r5 : w0.cell? ⟨w.heap.size + 1, 5, none⟩ = some (.int .i64 0) := blk_cell HB0.out.res 5
  have s5 := blk_frozen HB0.out.res 5
  have z0 : w0.cell? ⟨w.heap.size + 1 + 1, 0, none⟩ = some (.int .i64 0) := blk_cell HB0.out.flt 0
  have y0 := blk_frozen HB0.out.flt 0
  have z1 : w0.cell? ⟨w.heap.size + 1 + 1, 1, none⟩ = some (.int .i64 0) := blk_cell HB0.out.flt 1
  have y1 := blk_frozen HB0.out.flt 1
  have z2 : w0.cell? ⟨w.heap.size + 1 + 1, 2, none⟩ = some (.int .i64 0) := blk_cell HB0.out.flt 2
  have y2 := blk_frozen HB0.out.flt 2
  go_region
  clear r0 s0 r1 s1 r2 s2 r3 s3 r4 s4 r5 s5 z0 y0 z1 y1 z2 y2 g0 g1 g2
  obtain ⟨WF, hWF, hX, hY, hZ⟩ := ret_put (w := w) (HB0.out.res) (HB0.out.flt) (HB0.out.below) 0 0 ⟨#[]⟩ 0 0 0 (6) (tl) (tc)
  rw [hWF]
  clear hWF
  have hX2 := blk_drew hX
  have hY2 := blk_drew hY
  have hZ2 := below_drew hZ
  clear hX hY hZ
  generalize WF.drew = w8 at hX2 hY2 hZ2 ⊢
  go_wp2_with fail
  have q0 := blk_cell hX2 0
  have q1 := blk_cell hX2 1
  have q2 := blk_cell hX2 2
  have q3 := blk_cell hX2 3
  have q4 := blk_cell hX2 4
  have q5 := blk_cell hX2 5
  have u0 := blk_cell hY2 0
  have u1 := blk_cell hY2 1
  have u2 := blk_cell hY2 2
  (try simp only [Exit.inBlock, Exit.then])
  refine bodyPost_ret (by simp [results, Tryd.results67, go_sem, q0, q1, q2, q3, q4, q5, u0, u1, u2]; rfl) rfl ?_
  exact ⟨by rfl, hZ2⟩

set_option maxRecDepth 400000 in
set_option maxHeartbeats 8000000 in
theorem refsharp_other (T : ByteArray) (i : Nat) (tl tc nx0 : Int) (w : World) (_hi : i < T.size) (hT : T.size ≤ 1000000000) (hS : i + 1 < T.size) (x : UInt8) (hx : ∀ h, T[i + 1]'h = x) (n1 : x ≠ 116) (n2 : x ≠ 102) (n3 : x ≠ 92) (t : TokR) (h1 : t.ln = tl) (h2 : t.cl = tc) :
    Calls Tryd.prog 67 #[.string T, .int .i64 (i : Nat), .agg #[.int .i64 0, .int .i64 0, .string ⟨#[]⟩, .int .i64 tl, .int .i64 tc, .int .i64 nx0]] w (NextTo (refRet (6, t)) w) := by
  have hi1 : (i : Int) + 1 < (T.size : Nat) := by omega
  have hi2 : ¬ (T.size : Int) ≤ (i : Nat) + 1 := by omega
  have hbx : ∀ h, T[i + 1]'h = x := hx
  rw [show refRet (6, t) = .tuple #[tokV tok0, faultV 6 tl tc] by rw [← h1, ← h2]; rfl]
  clear h1 h2
  have b1 : ((x.toNat : Int) == 116) = false := u8ne (n := 116) (by omega) n1
  have p1 : ¬ (x.toNat : Int) = 116 := fun e => n1 ((byte_int x 116 (by omega)).1 e)
  have b2 : ((x.toNat : Int) == 102) = false := u8ne (n := 102) (by omega) n2
  have p2 : ¬ (x.toNat : Int) = 102 := fun e => n2 ((byte_int x 102 (by omega)).1 e)
  have b3 : ((x.toNat : Int) == 92) = false := u8ne (n := 92) (by omega) n3
  have p3 : ¬ (x.toNat : Int) = 92 := fun e => n3 ((byte_int x 92 (by omega)).1 e)
  clear n1 n2 n3
  go_enter Tryd.func67, Tryd.ntmps67
  go_wp2_with fail
  have HB0 := Lib.hid (show Blks w 0 0 ⟨#[]⟩ tl tc nx0 ((((w.alloc (.cells #[.int .i64 0, .int .i64 0, .string ⟨#[]⟩, .int .i64 tl, .int .i64 tc, .int .i64 nx0] TT)).alloc (.cells #[.int .i64 0, .int .i64 0, .string ⟨#[]⟩, .int .i64 0, .int .i64 0, .int .i64 0] TT)).alloc (.cells #[.int .i64 0, .int .i64 0, .int .i64 0] 64)).alloc (.cells #[.int .i64 6, .int .i64 tl, .int .i64 tc] 64)) from (blks_start w 0 0 ⟨#[]⟩ tl tc nx0).step (below_alloc (Below.refl _ _) _))
  have HBD := Lib.hid (bad_start w tl tc nx0)
  generalize (((w.alloc (.cells #[.int .i64 0, .int .i64 0, .string ⟨#[]⟩, .int .i64 tl, .int .i64 tc, .int .i64 nx0] TT)).alloc (.cells #[.int .i64 0, .int .i64 0, .string ⟨#[]⟩, .int .i64 0, .int .i64 0, .int .i64 0] TT)).alloc (.cells #[.int .i64 0, .int .i64 0, .int .i64 0] 64)).alloc (.cells #[.int .i64 6, .int .i64 tl, .int .i64 tc] 64) = w0 at HB0 HBD ⊢
  have g0 : w0.cell? ⟨w.heap.size + 1 + 1 + 1, 0, none⟩ = some (.int .i64 6) := blk_cell HBD.out 0
  have g1 : w0.cell? ⟨w.heap.size + 1 + 1 + 1, 1, none⟩ = some (.int .i64 tl) := blk_cell HBD.out 1
  have g2 : w0.cell? ⟨w.heap.size + 1 + 1 + 1, 2, none⟩ = some (.int .i64 tc) := blk_cell HBD.out 2
  have r0 : w0.cell? ⟨w.heap.size + 1, 0, none⟩ = some (.int .i64 0) := blk_cell HB0.out.res 0
  have s0 := blk_frozen HB0.out.res 0
  have r1 : w0.cell? ⟨w.heap.size + 1, 1, none⟩ = some (.int .i64 0) := blk_cell HB0.out.res 1
  have s1 := blk_frozen HB0.out.res 1
  have r2 : w0.cell? ⟨w.heap.size + 1, 2, none⟩ = some (.string ⟨#[]⟩) := blk_cell HB0.out.res 2
  have s2 := blk_frozen HB0.out.res 2
  have r3 : w0.cell? ⟨w.heap.size + 1, 3, none⟩ = some (.int .i64 0) := blk_cell HB0.out.res 3
  have s3 := blk_frozen HB0.out.res 3
  have r4 : w0.cell? ⟨w.heap.size + 1, 4, none⟩ = some (.int .i64 0) := blk_cell HB0.out.res 4
  have s4 := blk_frozen HB0.out.res 4
  have r5 : w0.cell? ⟨w.heap.size + 1, 5, none⟩ = some (.int .i64 0) := blk_cell HB0.out.res 5
  have s5 := blk_frozen HB0.out.res 5
  have z0 : w0.cell? ⟨w.heap.size + 1 + 1, 0, none⟩ = some (.int .i64 0) := blk_cell HB0.out.flt 0
  have y0 := blk_frozen HB0.out.flt 0
  have z1 : w0.cell? ⟨w.heap.size + 1 + 1, 1, none⟩ = some (.int .i64 0) := blk_cell HB0.out.flt 1
  have y1 := blk_frozen HB0.out.flt 1
  have z2 : w0.cell? ⟨w.heap.size + 1 + 1, 2, none⟩ = some (.int .i64 0) := blk_cell HB0.out.flt 2
  have y2 := blk_frozen HB0.out.flt 2
  go_region
  clear r0 s0 r1 s1 r2 s2 r3 s3 r4 s4 r5 s5 z0 y0 z1 y1 z2 y2 g0 g1 g2
  obtain ⟨WF, hWF, hX, hY, hZ⟩ := ret_put (w := w) (HB0.out.res) (HB0.out.flt) (HB0.out.below) 0 0 ⟨#[]⟩ 0 0 0 (6) (tl) (tc)
  rw [hWF]
  clear hWF
  have hX2 := blk_drew hX
  have hY2 := blk_drew hY
  have hZ2 := below_drew hZ
  clear hX hY hZ
  generalize WF.drew = w8 at hX2 hY2 hZ2 ⊢
  go_wp2_with fail
  have q0 := blk_cell hX2 0
  have q1 := blk_cell hX2 1
  have q2 := blk_cell hX2 2
  have q3 := blk_cell hX2 3
  have q4 := blk_cell hX2 4
  have q5 := blk_cell hX2 5
  have u0 := blk_cell hY2 0
  have u1 := blk_cell hY2 1
  have u2 := blk_cell hY2 2
  (try simp only [Exit.inBlock, Exit.then])
  refine bodyPost_ret (by simp [results, Tryd.results67, go_sem, q0, q1, q2, q3, q4, q5, u0, u1, u2]; rfl) rfl ?_
  exact ⟨by rfl, hZ2⟩

set_option maxRecDepth 400000 in
set_option maxHeartbeats 8000000 in
theorem refsharp_tbad (T : ByteArray) (i : Nat) (tl tc nx0 : Int) (w : World) (_hi : i < T.size) (hT : T.size ≤ 1000000000) (hS : i + 1 < T.size) (hx : ∀ h, T[i + 1]'h = 116) (hend : endAt T (i + 2) = false) (t : TokR) (h1 : t.ln = tl) (h2 : t.cl = tc) :
    Calls Tryd.prog 67 #[.string T, .int .i64 (i : Nat), .agg #[.int .i64 0, .int .i64 0, .string ⟨#[]⟩, .int .i64 tl, .int .i64 tc, .int .i64 nx0]] w (NextTo (refRet (6, t)) w) := by
  have hi1 : (i : Int) + 1 < (T.size : Nat) := by omega
  have hi2 : ¬ (T.size : Int) ≤ (i : Nat) + 1 := by omega
  have hbx : ∀ h, T[i + 1]'h = 116 := hx
  rw [show refRet (6, t) = .tuple #[tokV tok0, faultV 6 tl tc] by rw [← h1, ← h2]; rfl]
  clear h1 h2
  have cE := Lib.hid (fun w => refends_any T (i + 2) w)
  rw [hend] at cE
  clear hend
  go_enter Tryd.func67, Tryd.ntmps67
  go_wp2_with fail
  refine (cE.out _).mono ?_
  rintro e w1 ⟨rfl, rfl⟩
  have HB0 := Lib.hid (show Blks w 0 0 ⟨#[]⟩ tl tc nx0 ((((w.alloc (.cells #[.int .i64 0, .int .i64 0, .string ⟨#[]⟩, .int .i64 tl, .int .i64 tc, .int .i64 nx0] TT)).alloc (.cells #[.int .i64 0, .int .i64 0, .string ⟨#[]⟩, .int .i64 0, .int .i64 0, .int .i64 0] TT)).alloc (.cells #[.int .i64 0, .int .i64 0, .int .i64 0] 64)).alloc (.cells #[.int .i64 6, .int .i64 tl, .int .i64 tc] 64)) from (blks_start w 0 0 ⟨#[]⟩ tl tc nx0).step (below_alloc (Below.refl _ _) _))
  have HBD := Lib.hid (bad_start w tl tc nx0)
  generalize (((w.alloc (.cells #[.int .i64 0, .int .i64 0, .string ⟨#[]⟩, .int .i64 tl, .int .i64 tc, .int .i64 nx0] TT)).alloc (.cells #[.int .i64 0, .int .i64 0, .string ⟨#[]⟩, .int .i64 0, .int .i64 0, .int .i64 0] TT)).alloc (.cells #[.int .i64 0, .int .i64 0, .int .i64 0] 64)).alloc (.cells #[.int .i64 6, .int .i64 tl, .int .i64 tc] 64) = w0 at HB0 HBD ⊢
  have g0 : w0.cell? ⟨w.heap.size + 1 + 1 + 1, 0, none⟩ = some (.int .i64 6) := blk_cell HBD.out 0
  have g1 : w0.cell? ⟨w.heap.size + 1 + 1 + 1, 1, none⟩ = some (.int .i64 tl) := blk_cell HBD.out 1
  have g2 : w0.cell? ⟨w.heap.size + 1 + 1 + 1, 2, none⟩ = some (.int .i64 tc) := blk_cell HBD.out 2
  have r0 : w0.cell? ⟨w.heap.size + 1, 0, none⟩ = some (.int .i64 0) := blk_cell HB0.out.res 0
  have s0 := blk_frozen HB0.out.res 0
  have r1 : w0.cell? ⟨w.heap.size + 1, 1, none⟩ = some (.int .i64 0) := blk_cell HB0.out.res 1
  have s1 := blk_frozen HB0.out.res 1
  have r2 : w0.cell? ⟨w.heap.size + 1, 2, none⟩ = some (.string ⟨#[]⟩) := blk_cell HB0.out.res 2
  have s2 := blk_frozen HB0.out.res 2
  have r3 : w0.cell? ⟨w.heap.size + 1, 3, none⟩ = some (.int .i64 0) := blk_cell HB0.out.res 3
  have s3 := blk_frozen HB0.out.res 3
  have r4 : w0.cell? ⟨w.heap.size + 1, 4, none⟩ = some (.int .i64 0) := blk_cell HB0.out.res 4
  have s4 := blk_frozen HB0.out.res 4
  have r5 : w0.cell? ⟨w.heap.size + 1, 5, none⟩ = some (.int .i64 0) := blk_cell HB0.out.res 5
  have s5 := blk_frozen HB0.out.res 5
  have z0 : w0.cell? ⟨w.heap.size + 1 + 1, 0, none⟩ = some (.int .i64 0) := blk_cell HB0.out.flt 0
  have y0 := blk_frozen HB0.out.flt 0
  have z1 : w0.cell? ⟨w.heap.size + 1 + 1, 1, none⟩ = some (.int .i64 0) := blk_cell HB0.out.flt 1
  have y1 := blk_frozen HB0.out.flt 1
  have z2 : w0.cell? ⟨w.heap.size + 1 + 1, 2, none⟩ = some (.int .i64 0) := blk_cell HB0.out.flt 2
  have y2 := blk_frozen HB0.out.flt 2
  go_wp2_with fail
  go_region
  clear r0 s0 r1 s1 r2 s2 r3 s3 r4 s4 r5 s5 z0 y0 z1 y1 z2 y2 g0 g1 g2
  obtain ⟨WF, hWF, hX, hY, hZ⟩ := ret_put (w := w) (HB0.out.res) (HB0.out.flt) (HB0.out.below) 0 0 ⟨#[]⟩ 0 0 0 (6) (tl) (tc)
  rw [hWF]
  clear hWF
  have hX2 := blk_drew hX
  have hY2 := blk_drew hY
  have hZ2 := below_drew hZ
  clear hX hY hZ
  generalize WF.drew = w8 at hX2 hY2 hZ2 ⊢
  go_wp2_with fail
  have q0 := blk_cell hX2 0
  have q1 := blk_cell hX2 1
  have q2 := blk_cell hX2 2
  have q3 := blk_cell hX2 3
  have q4 := blk_cell hX2 4
  have q5 := blk_cell hX2 5
  have u0 := blk_cell hY2 0
  have u1 := blk_cell hY2 1
  have u2 := blk_cell hY2 2
  (try simp only [Exit.inBlock, Exit.then])
  refine bodyPost_ret (by simp [results, Tryd.results67, go_sem, q0, q1, q2, q3, q4, q5, u0, u1, u2]; rfl) rfl ?_
  exact ⟨by rfl, hZ2⟩

set_option maxRecDepth 400000 in
set_option maxHeartbeats 8000000 in
theorem refsharp_fbad (T : ByteArray) (i : Nat) (tl tc nx0 : Int) (w : World) (_hi : i < T.size) (hT : T.size ≤ 1000000000) (hS : i + 1 < T.size) (hx : ∀ h, T[i + 1]'h = 102) (hend : endAt T (i + 2) = false) (t : TokR) (h1 : t.ln = tl) (h2 : t.cl = tc) :
    Calls Tryd.prog 67 #[.string T, .int .i64 (i : Nat), .agg #[.int .i64 0, .int .i64 0, .string ⟨#[]⟩, .int .i64 tl, .int .i64 tc, .int .i64 nx0]] w (NextTo (refRet (6, t)) w) := by
  have hi1 : (i : Int) + 1 < (T.size : Nat) := by omega
  have hi2 : ¬ (T.size : Int) ≤ (i : Nat) + 1 := by omega
  have hbx : ∀ h, T[i + 1]'h = 102 := hx
  rw [show refRet (6, t) = .tuple #[tokV tok0, faultV 6 tl tc] by rw [← h1, ← h2]; rfl]
  clear h1 h2
  have cE := Lib.hid (fun w => refends_any T (i + 2) w)
  rw [hend] at cE
  clear hend
  go_enter Tryd.func67, Tryd.ntmps67
  go_wp2_with fail
  refine (cE.out _).mono ?_
  rintro e w1 ⟨rfl, rfl⟩
  have HB0 := Lib.hid (show Blks w 0 0 ⟨#[]⟩ tl tc nx0 ((((w.alloc (.cells #[.int .i64 0, .int .i64 0, .string ⟨#[]⟩, .int .i64 tl, .int .i64 tc, .int .i64 nx0] TT)).alloc (.cells #[.int .i64 0, .int .i64 0, .string ⟨#[]⟩, .int .i64 0, .int .i64 0, .int .i64 0] TT)).alloc (.cells #[.int .i64 0, .int .i64 0, .int .i64 0] 64)).alloc (.cells #[.int .i64 6, .int .i64 tl, .int .i64 tc] 64)) from (blks_start w 0 0 ⟨#[]⟩ tl tc nx0).step (below_alloc (Below.refl _ _) _))
  have HBD := Lib.hid (bad_start w tl tc nx0)
  generalize (((w.alloc (.cells #[.int .i64 0, .int .i64 0, .string ⟨#[]⟩, .int .i64 tl, .int .i64 tc, .int .i64 nx0] TT)).alloc (.cells #[.int .i64 0, .int .i64 0, .string ⟨#[]⟩, .int .i64 0, .int .i64 0, .int .i64 0] TT)).alloc (.cells #[.int .i64 0, .int .i64 0, .int .i64 0] 64)).alloc (.cells #[.int .i64 6, .int .i64 tl, .int .i64 tc] 64) = w0 at HB0 HBD ⊢
  have g0 : w0.cell? ⟨w.heap.size + 1 + 1 + 1, 0, none⟩ = some (.int .i64 6) := blk_cell HBD.out 0
  have g1 : w0.cell? ⟨w.heap.size + 1 + 1 + 1, 1, none⟩ = some (.int .i64 tl) := blk_cell HBD.out 1
  have g2 : w0.cell? ⟨w.heap.size + 1 + 1 + 1, 2, none⟩ = some (.int .i64 tc) := blk_cell HBD.out 2
  have r0 : w0.cell? ⟨w.heap.size + 1, 0, none⟩ = some (.int .i64 0) := blk_cell HB0.out.res 0
  have s0 := blk_frozen HB0.out.res 0
  have r1 : w0.cell? ⟨w.heap.size + 1, 1, none⟩ = some (.int .i64 0) := blk_cell HB0.out.res 1
  have s1 := blk_frozen HB0.out.res 1
  have r2 : w0.cell? ⟨w.heap.size + 1, 2, none⟩ = some (.string ⟨#[]⟩) := blk_cell HB0.out.res 2
  have s2 := blk_frozen HB0.out.res 2
  have r3 : w0.cell? ⟨w.heap.size + 1, 3, none⟩ = some (.int .i64 0) := blk_cell HB0.out.res 3
  have s3 := blk_frozen HB0.out.res 3
  have r4 : w0.cell? ⟨w.heap.size + 1, 4, none⟩ = some (.int .i64 0) := blk_cell HB0.out.res 4
  have s4 := blk_frozen HB0.out.res 4
  have r5 : w0.cell? ⟨w.heap.size + 1, 5, none⟩ = some (.int .i64 0) := blk_cell HB0.out.res 5
  have s5 := blk_frozen HB0.out.res 5
  have z0 : w0.cell? ⟨w.heap.size + 1 + 1, 0, none⟩ = some (.int .i64 0) := blk_cell HB0.out.flt 0
  have y0 := blk_frozen HB0.out.flt 0
  have z1 : w0.cell? ⟨w.heap.size + 1 + 1, 1, none⟩ = some (.int .i64 0) := blk_cell HB0.out.flt 1
  have y1 := blk_frozen HB0.out.flt 1
  have z2 : w0.cell? ⟨w.heap.size + 1 + 1, 2, none⟩ = some (.int .i64 0) := blk_cell HB0.out.flt 2
  have y2 := blk_frozen HB0.out.flt 2
  go_wp2_with fail
  go_region
  clear r0 s0 r1 s1 r2 s2 r3 s3 r4 s4 r5 s5 z0 y0 z1 y1 z2 y2 g0 g1 g2
  obtain ⟨WF, hWF, hX, hY, hZ⟩ := ret_put (w := w) (HB0.out.res) (HB0.out.flt) (HB0.out.below) 0 0 ⟨#[]⟩ 0 0 0 (6) (tl) (tc)
  rw [hWF]
  clear hWF
  have hX2 := blk_drew hX
  have hY2 := blk_drew hY
  have hZ2 := below_drew hZ
  clear hX hY hZ
  generalize WF.drew = w8 at hX2 hY2 hZ2 ⊢
  go_wp2_with fail
  have q0 := blk_cell hX2 0
  have q1 := blk_cell hX2 1
  have q2 := blk_cell hX2 2
  have q3 := blk_cell hX2 3
  have q4 := blk_cell hX2 4
  have q5 := blk_cell hX2 5
  have u0 := blk_cell hY2 0
  have u1 := blk_cell hY2 1
  have u2 := blk_cell hY2 2
  (try simp only [Exit.inBlock, Exit.then])
  refine bodyPost_ret (by simp [results, Tryd.results67, go_sem, q0, q1, q2, q3, q4, q5, u0, u1, u2]; rfl) rfl ?_
  exact ⟨by rfl, hZ2⟩

set_option maxRecDepth 400000 in
set_option maxHeartbeats 8000000 in
theorem refsharp_t (T : ByteArray) (i : Nat) (tl tc nx0 : Int) (w : World) (_hi : i < T.size) (hT : T.size ≤ 1000000000) (hS : i + 1 < T.size) (hx : ∀ h, T[i + 1]'h = 116) (hend : endAt T (i + 2) = true) :
    Calls Tryd.prog 67 #[.string T, .int .i64 (i : Nat), .agg #[.int .i64 0, .int .i64 0, .string ⟨#[]⟩, .int .i64 tl, .int .i64 tc, .int .i64 nx0]] w (NextTo (refRet (0, ⟨10, 1, [], tl, tc, i + 2⟩)) w) := by
  have hi1 : (i : Int) + 1 < (T.size : Nat) := by omega
  have hi2 : ¬ (T.size : Int) ≤ (i : Nat) + 1 := by omega
  have hbx : ∀ h, T[i + 1]'h = 116 := hx
  have cE := Lib.hid (fun w => refends_any T (i + 2) w)
  rw [hend] at cE
  clear hend
  go_enter Tryd.func67, Tryd.ntmps67
  go_wp2_with fail
  refine (cE.out _).mono ?_
  rintro e w1 ⟨rfl, rfl⟩
  have HB0 := Lib.hid (show Blks w 0 0 ⟨#[]⟩ tl tc nx0 ((((w.alloc (.cells #[.int .i64 0, .int .i64 0, .string ⟨#[]⟩, .int .i64 tl, .int .i64 tc, .int .i64 nx0] TT)).alloc (.cells #[.int .i64 0, .int .i64 0, .string ⟨#[]⟩, .int .i64 0, .int .i64 0, .int .i64 0] TT)).alloc (.cells #[.int .i64 0, .int .i64 0, .int .i64 0] 64)).alloc (.cells #[.int .i64 6, .int .i64 tl, .int .i64 tc] 64)) from (blks_start w 0 0 ⟨#[]⟩ tl tc nx0).step (below_alloc (Below.refl _ _) _))
  have HBD := Lib.hid (bad_start w tl tc nx0)
  generalize (((w.alloc (.cells #[.int .i64 0, .int .i64 0, .string ⟨#[]⟩, .int .i64 tl, .int .i64 tc, .int .i64 nx0] TT)).alloc (.cells #[.int .i64 0, .int .i64 0, .string ⟨#[]⟩, .int .i64 0, .int .i64 0, .int .i64 0] TT)).alloc (.cells #[.int .i64 0, .int .i64 0, .int .i64 0] 64)).alloc (.cells #[.int .i64 6, .int .i64 tl, .int .i64 tc] 64) = w0 at HB0 HBD ⊢
  have t0 : w0.cell? ⟨w.heap.size, 0, none⟩ = some (.int .i64 0) := blk_cell HB0.out.tok 0
  have f0 := blk_frozen HB0.out.tok 0
  have t1 : w0.cell? ⟨w.heap.size, 1, none⟩ = some (.int .i64 0) := blk_cell HB0.out.tok 1
  have f1 := blk_frozen HB0.out.tok 1
  have t2 : w0.cell? ⟨w.heap.size, 2, none⟩ = some (.string ⟨#[]⟩) := blk_cell HB0.out.tok 2
  have f2 := blk_frozen HB0.out.tok 2
  have t3 : w0.cell? ⟨w.heap.size, 3, none⟩ = some (.int .i64 tl) := blk_cell HB0.out.tok 3
  have f3 := blk_frozen HB0.out.tok 3
  have t4 : w0.cell? ⟨w.heap.size, 4, none⟩ = some (.int .i64 tc) := blk_cell HB0.out.tok 4
  have f4 := blk_frozen HB0.out.tok 4
  have t5 : w0.cell? ⟨w.heap.size, 5, none⟩ = some (.int .i64 nx0) := blk_cell HB0.out.tok 5
  have f5 := blk_frozen HB0.out.tok 5
  have r0 : w0.cell? ⟨w.heap.size + 1, 0, none⟩ = some (.int .i64 0) := blk_cell HB0.out.res 0
  have s0 := blk_frozen HB0.out.res 0
  have r1 : w0.cell? ⟨w.heap.size + 1, 1, none⟩ = some (.int .i64 0) := blk_cell HB0.out.res 1
  have s1 := blk_frozen HB0.out.res 1
  have r2 : w0.cell? ⟨w.heap.size + 1, 2, none⟩ = some (.string ⟨#[]⟩) := blk_cell HB0.out.res 2
  have s2 := blk_frozen HB0.out.res 2
  have r3 : w0.cell? ⟨w.heap.size + 1, 3, none⟩ = some (.int .i64 0) := blk_cell HB0.out.res 3
  have s3 := blk_frozen HB0.out.res 3
  have r4 : w0.cell? ⟨w.heap.size + 1, 4, none⟩ = some (.int .i64 0) := blk_cell HB0.out.res 4
  have s4 := blk_frozen HB0.out.res 4
  have r5 : w0.cell? ⟨w.heap.size + 1, 5, none⟩ = some (.int .i64 0) := blk_cell HB0.out.res 5
  have s5 := blk_frozen HB0.out.res 5
  have z0 : w0.cell? ⟨w.heap.size + 1 + 1, 0, none⟩ = some (.int .i64 0) := blk_cell HB0.out.flt 0
  have y0 := blk_frozen HB0.out.flt 0
  have z1 : w0.cell? ⟨w.heap.size + 1 + 1, 1, none⟩ = some (.int .i64 0) := blk_cell HB0.out.flt 1
  have y1 := blk_frozen HB0.out.flt 1
  have z2 : w0.cell? ⟨w.heap.size + 1 + 1, 2, none⟩ = some (.int .i64 0) := blk_cell HB0.out.flt 2
  have y2 := blk_frozen HB0.out.flt 2
  go_wp2_with fail
  clear t0 t1 t2 t3 t4 t5 f0 f1 f2 f3 f4 f5 r0 s0 r1 s1 r2 s2 r3 s3 r4 s4 r5 s5 z0 y0 z1 y1 z2 y2
  obtain ⟨WF, hWF, hX, hY, hZ⟩ := ret_put (w := w) (blk_far (blk_far (blk_far HB0.out.res (by simp) _) (by simp) _) (by simp) _) (blk_far (blk_far (blk_far HB0.out.flt (by simp <;> omega) _) (by simp <;> omega) _) (by simp <;> omega) _) (below_set (below_set (below_set HB0.out.below (Nat.le_refl _)) (Nat.le_refl _)) (Nat.le_refl _)) (10) (1) (⟨#[]⟩) (tl) (tc) ((i : Int) + 2) (0) (0) (0)
  rw [hWF]
  clear hWF
  have q0 := blk_cell hX 0
  have q1 := blk_cell hX 1
  have q2 := blk_cell hX 2
  have q3 := blk_cell hX 3
  have q4 := blk_cell hX 4
  have q5 := blk_cell hX 5
  have u0 := blk_cell hY 0
  have u1 := blk_cell hY 1
  have u2 := blk_cell hY 2
  (try simp only [Exit.inBlock, Exit.then])
  refine bodyPost_ret (by simp [results, Tryd.results67, go_sem, q0, q1, q2, q3, q4, q5, u0, u1, u2]; rfl) rfl ?_
  exact ⟨by rfl, hZ⟩

set_option maxRecDepth 400000 in
set_option maxHeartbeats 8000000 in
theorem refsharp_f (T : ByteArray) (i : Nat) (tl tc nx0 : Int) (w : World) (_hi : i < T.size) (hT : T.size ≤ 1000000000) (hS : i + 1 < T.size) (hx : ∀ h, T[i + 1]'h = 102) (hend : endAt T (i + 2) = true) :
    Calls Tryd.prog 67 #[.string T, .int .i64 (i : Nat), .agg #[.int .i64 0, .int .i64 0, .string ⟨#[]⟩, .int .i64 tl, .int .i64 tc, .int .i64 nx0]] w (NextTo (refRet (0, ⟨10, 0, [], tl, tc, i + 2⟩)) w) := by
  have hi1 : (i : Int) + 1 < (T.size : Nat) := by omega
  have hi2 : ¬ (T.size : Int) ≤ (i : Nat) + 1 := by omega
  have hbx : ∀ h, T[i + 1]'h = 102 := hx
  have cE := Lib.hid (fun w => refends_any T (i + 2) w)
  rw [hend] at cE
  clear hend
  go_enter Tryd.func67, Tryd.ntmps67
  go_wp2_with fail
  refine (cE.out _).mono ?_
  rintro e w1 ⟨rfl, rfl⟩
  have HB0 := Lib.hid (show Blks w 0 0 ⟨#[]⟩ tl tc nx0 ((((w.alloc (.cells #[.int .i64 0, .int .i64 0, .string ⟨#[]⟩, .int .i64 tl, .int .i64 tc, .int .i64 nx0] TT)).alloc (.cells #[.int .i64 0, .int .i64 0, .string ⟨#[]⟩, .int .i64 0, .int .i64 0, .int .i64 0] TT)).alloc (.cells #[.int .i64 0, .int .i64 0, .int .i64 0] 64)).alloc (.cells #[.int .i64 6, .int .i64 tl, .int .i64 tc] 64)) from (blks_start w 0 0 ⟨#[]⟩ tl tc nx0).step (below_alloc (Below.refl _ _) _))
  have HBD := Lib.hid (bad_start w tl tc nx0)
  generalize (((w.alloc (.cells #[.int .i64 0, .int .i64 0, .string ⟨#[]⟩, .int .i64 tl, .int .i64 tc, .int .i64 nx0] TT)).alloc (.cells #[.int .i64 0, .int .i64 0, .string ⟨#[]⟩, .int .i64 0, .int .i64 0, .int .i64 0] TT)).alloc (.cells #[.int .i64 0, .int .i64 0, .int .i64 0] 64)).alloc (.cells #[.int .i64 6, .int .i64 tl, .int .i64 tc] 64) = w0 at HB0 HBD ⊢
  have t0 : w0.cell? ⟨w.heap.size, 0, none⟩ = some (.int .i64 0) := blk_cell HB0.out.tok 0
  have f0 := blk_frozen HB0.out.tok 0
  have t1 : w0.cell? ⟨w.heap.size, 1, none⟩ = some (.int .i64 0) := blk_cell HB0.out.tok 1
  have f1 := blk_frozen HB0.out.tok 1
  have t2 : w0.cell? ⟨w.heap.size, 2, none⟩ = some (.string ⟨#[]⟩) := blk_cell HB0.out.tok 2
  have f2 := blk_frozen HB0.out.tok 2
  have t3 : w0.cell? ⟨w.heap.size, 3, none⟩ = some (.int .i64 tl) := blk_cell HB0.out.tok 3
  have f3 := blk_frozen HB0.out.tok 3
  have t4 : w0.cell? ⟨w.heap.size, 4, none⟩ = some (.int .i64 tc) := blk_cell HB0.out.tok 4
  have f4 := blk_frozen HB0.out.tok 4
  have t5 : w0.cell? ⟨w.heap.size, 5, none⟩ = some (.int .i64 nx0) := blk_cell HB0.out.tok 5
  have f5 := blk_frozen HB0.out.tok 5
  have r0 : w0.cell? ⟨w.heap.size + 1, 0, none⟩ = some (.int .i64 0) := blk_cell HB0.out.res 0
  have s0 := blk_frozen HB0.out.res 0
  have r1 : w0.cell? ⟨w.heap.size + 1, 1, none⟩ = some (.int .i64 0) := blk_cell HB0.out.res 1
  have s1 := blk_frozen HB0.out.res 1
  have r2 : w0.cell? ⟨w.heap.size + 1, 2, none⟩ = some (.string ⟨#[]⟩) := blk_cell HB0.out.res 2
  have s2 := blk_frozen HB0.out.res 2
  have r3 : w0.cell? ⟨w.heap.size + 1, 3, none⟩ = some (.int .i64 0) := blk_cell HB0.out.res 3
  have s3 := blk_frozen HB0.out.res 3
  have r4 : w0.cell? ⟨w.heap.size + 1, 4, none⟩ = some (.int .i64 0) := blk_cell HB0.out.res 4
  have s4 := blk_frozen HB0.out.res 4
  have r5 : w0.cell? ⟨w.heap.size + 1, 5, none⟩ = some (.int .i64 0) := blk_cell HB0.out.res 5
  have s5 := blk_frozen HB0.out.res 5
  have z0 : w0.cell? ⟨w.heap.size + 1 + 1, 0, none⟩ = some (.int .i64 0) := blk_cell HB0.out.flt 0
  have y0 := blk_frozen HB0.out.flt 0
  have z1 : w0.cell? ⟨w.heap.size + 1 + 1, 1, none⟩ = some (.int .i64 0) := blk_cell HB0.out.flt 1
  have y1 := blk_frozen HB0.out.flt 1
  have z2 : w0.cell? ⟨w.heap.size + 1 + 1, 2, none⟩ = some (.int .i64 0) := blk_cell HB0.out.flt 2
  have y2 := blk_frozen HB0.out.flt 2
  go_wp2_with fail
  clear t0 t1 t2 t3 t4 t5 f0 f1 f2 f3 f4 f5 r0 s0 r1 s1 r2 s2 r3 s3 r4 s4 r5 s5 z0 y0 z1 y1 z2 y2
  obtain ⟨WF, hWF, hX, hY, hZ⟩ := ret_put (w := w) (blk_far (blk_far HB0.out.res (by simp) _) (by simp) _) (blk_far (blk_far HB0.out.flt (by simp <;> omega) _) (by simp <;> omega) _) (below_set (below_set HB0.out.below (Nat.le_refl _)) (Nat.le_refl _)) (10) (0) (⟨#[]⟩) (tl) (tc) ((i : Int) + 2) (0) (0) (0)
  rw [hWF]
  clear hWF
  have q0 := blk_cell hX 0
  have q1 := blk_cell hX 1
  have q2 := blk_cell hX 2
  have q3 := blk_cell hX 3
  have q4 := blk_cell hX 4
  have q5 := blk_cell hX 5
  have u0 := blk_cell hY 0
  have u1 := blk_cell hY 1
  have u2 := blk_cell hY 2
  (try simp only [Exit.inBlock, Exit.then])
  refine bodyPost_ret (by simp [results, Tryd.results67, go_sem, q0, q1, q2, q3, q4, q5, u0, u1, u2]; rfl) rfl ?_
  exact ⟨by rfl, hZ⟩

end Go.Proofs.YthighbbikpnpgaaDoor
