/-
  The reference's Next, within its bounds.
-/
import Derived.Test.YthighbbikpnpgaaDoorLrJ
import Derived.Test.YthighbbikpnpgaaDoorLrK
namespace Go.Proofs.YthighbbikpnpgaaDoor
open Go.RowKit Go.Proofs.YthighbbikpnpgaaDoorW.PrintWords

structure NB (w : World) (tb : Nat) (k n : Int) (x : ByteArray) (l c nx : Int) (w' : World) : Prop where
  tok : TokAt tb k n x l c nx w'
  res : TokAt w.heap.size 0 0 ⟨#[]⟩ 0 0 0 w'
  flt : FltAt (w.heap.size + 1) 0 0 0 w'
  below : Below w.heap.size w w'
  ge : w.heap.size + 2 ≤ tb
theorem NB.step {w : World} {tb : Nat} {k n : Int} {x : ByteArray} {l c nx : Int} {w1 w2 : World} (h : NB w tb k n x l c nx w1) (hb : Below w1.heap.size w1 w2) : NB w tb k n x l c nx w2 :=
  ⟨blk_below h.tok hb, blk_below h.res hb, blk_below h.flt hb, below_step h.below hb, h.ge⟩

theorem nb_start (w w2 : World) (hb : Below ((w.alloc (.cells #[.int .i64 0, .int .i64 0, .string ⟨#[]⟩, .int .i64 0, .int .i64 0, .int .i64 0] TT)).alloc (.cells #[.int .i64 0, .int .i64 0, .int .i64 0] 64)).heap.size ((w.alloc (.cells #[.int .i64 0, .int .i64 0, .string ⟨#[]⟩, .int .i64 0, .int .i64 0, .int .i64 0] TT)).alloc (.cells #[.int .i64 0, .int .i64 0, .int .i64 0] 64)) w2) (l c nx : Int) : NB w w2.heap.size 0 0 ⟨#[]⟩ l c nx (w2.alloc (.cells #[.int .i64 0, .int .i64 0, .string ⟨#[]⟩, .int .i64 l, .int .i64 c, .int .i64 nx] TT)) := by
  have hs : ((w.alloc (.cells #[.int .i64 0, .int .i64 0, .string ⟨#[]⟩, .int .i64 0, .int .i64 0, .int .i64 0] TT)).alloc (.cells #[.int .i64 0, .int .i64 0, .int .i64 0] 64)).heap.size = w.heap.size + 2 := by simp
  have hsz := hb.size
  refine ⟨blk_new w2 _, blk_alloc (blk_below (blk_alloc (blk_new w _) _) hb) _, blk_alloc (blk_below ?_ hb) _, below_alloc (below_step (below_alloc (below_alloc (Below.refl _ _) _) _) hb) _, by omega⟩
  have := blk_new (w.alloc (.cells #[.int .i64 0, .int .i64 0, .string ⟨#[]⟩, .int .i64 0, .int .i64 0, .int .i64 0] TT)) (.cells #[.int .i64 0, .int .i64 0, .int .i64 0] 64 (0, 0))
  rw [show (w.alloc (.cells #[.int .i64 0, .int .i64 0, .string ⟨#[]⟩, .int .i64 0, .int .i64 0, .int .i64 0] TT)).heap.size = w.heap.size + 1 by simp] at this
  exact this

theorem ret_putN {w W : World} (hr : TokAt w.heap.size 0 0 ⟨#[]⟩ 0 0 0 W) (hf : FltAt (w.heap.size + 1) 0 0 0 W) (hb : Below w.heap.size w W) (k n : Int) (x : ByteArray) (l c nx fk fl fc : Int) :
    ∃ WF, (((((((((W.setCell ⟨w.heap.size, 0, none⟩ (.int .i64 k)).setCell ⟨w.heap.size, 1, none⟩ (.int .i64 n)).setCell ⟨w.heap.size, 2, none⟩ (.string x)).setCell ⟨w.heap.size, 3, none⟩ (.int .i64 l)).setCell ⟨w.heap.size, 4, none⟩ (.int .i64 c)).setCell ⟨w.heap.size, 5, none⟩ (.int .i64 nx)).setCell ⟨w.heap.size + 1, 0, none⟩ (.int .i64 fk)).setCell ⟨w.heap.size + 1, 1, none⟩ (.int .i64 fl)).setCell ⟨w.heap.size + 1, 2, none⟩ (.int .i64 fc)) = WF ∧
      TokAt w.heap.size k n x l c nx WF ∧ FltAt (w.heap.size + 1) fk fl fc WF ∧ Below w.heap.size w WF := by
  refine ⟨_, rfl, ?_, ?_, ?_⟩
  · exact blk_far (blk_far (blk_far (tok_put hr k n x l c nx) (by simp) _) (by simp) _) (by simp) _
  · have h6 : FltAt (w.heap.size + 1) 0 0 0 ((((((W.setCell ⟨w.heap.size, 0, none⟩ (.int .i64 k)).setCell ⟨w.heap.size, 1, none⟩ (.int .i64 n)).setCell ⟨w.heap.size, 2, none⟩ (.string x)).setCell ⟨w.heap.size, 3, none⟩ (.int .i64 l)).setCell ⟨w.heap.size, 4, none⟩ (.int .i64 c)).setCell ⟨w.heap.size, 5, none⟩ (.int .i64 nx)) :=
      blk_far (blk_far (blk_far (blk_far (blk_far (blk_far hf (by simp) _) (by simp) _) (by simp) _) (by simp) _) (by simp) _) (by simp) _
    exact blk_put (blk_put (blk_put h6 0 _ rfl) 1 _ rfl) 2 _ rfl
  · exact below_set (below_set (below_set (below_set (below_set (below_set (below_set (below_set (below_set hb (by omega)) (by omega)) (by omega)) (by omega)) (by omega)) (by omega)) (by omega)) (by omega)) (by omega)

theorem refRet_form (R : Int × TokR) : ∃ (k n : Int) (x : ByteArray) (l c nx fk fl fc : Int), refRet R = .tuple #[.agg #[.int .i64 k, .int .i64 n, .string x, .int .i64 l, .int .i64 c, .int .i64 nx], .agg #[.int .i64 fk, .int .i64 fl, .int .i64 fc]] := by
  unfold refRet
  split
  · exact ⟨_, _, _, _, _, _, _, _, _, rfl⟩
  · exact ⟨_, _, _, _, _, _, _, _, _, rfl⟩

theorem tokX_one {T : ByteArray} {j : Nat} {x : UInt8} {l c k m : Int} (h : oneP x (twoP T (j + 1)) = (k, m)) (hm : 0 < m) : tokX T j x l c = (0, ⟨k, 0, [], l, c, j + m.toNat⟩) := by
  rw [tokX, h, if_pos hm]
theorem oneP_none {x two : UInt8} (h1 : x ≠ 40) (h2 : x ≠ 41) (h3 : x ≠ 39) (h4 : x ≠ 96) (h5 : x ≠ 44) (h6 : x ≠ 35) : oneP x two = (0, 0) := by
  unfold oneP
  rw [if_neg h1, if_neg h2, if_neg h3, if_neg h4, if_neg h5, if_neg h6]
theorem oneP_44 {two : UInt8} (h : two ≠ 64) : oneP 44 two = (6, 1) := by
  unfold oneP
  rw [if_neg (by decide), if_neg (by decide), if_neg (by decide), if_neg (by decide), if_pos rfl, if_neg h]
theorem oneP_35 {two : UInt8} (h : two ≠ 40) : oneP 35 two = (0, 0) := by
  unfold oneP
  rw [if_neg (by decide), if_neg (by decide), if_neg (by decide), if_neg (by decide), if_neg (by decide), if_pos rfl, if_neg h]
theorem skip_le (T : ByteArray) (i : Nat) (hi : i ≤ T.size) (l c : Int) : (skipR (T.data.toList.drop i) false i l c).1 ≤ T.size := by
  obtain ⟨m, h1, h2, -⟩ := skipR_spec (T.data.toList.drop i) false i l c
  have : T.data.toList.length = T.size := by simp
  rw [List.length_drop] at h1
  rw [h2]
  show i + m ≤ T.size
  omega

set_option maxRecDepth 400000 in
set_option maxHeartbeats 16000000 in
theorem refnext_ok (T : ByteArray) (i : Nat) (ln cl : Int) (w : World) (hi : i ≤ T.size) (hT : T.size ≤ 1000000000) (h1 : 1 ≤ ln) (h2 : ln ≤ 1073741824) (h3 : 1 ≤ cl) (h4 : cl ≤ 1073741824) :
    Calls Tryd.prog 33 #[.string T, .int .i64 (i : Nat), .int .i64 ln, .int .i64 cl] w (NextTo (refRet (tokP T i ln cl)) w) := by
  have hi0 : ¬ (T.size : Int) < (i : Nat) := by omega
  have hi1 : decide ((T.size : Int) < (i : Nat)) = false := decide_eq_false hi0
  have hm1 : ¬ ln < 1 := by omega
  have hm2 : ¬ 1073741824 < ln := by omega
  have hm3 : ¬ cl < 1 := by omega
  have hm4 : ¬ 1073741824 < cl := by omega
  have e1 : decide (ln < 1) = false := decide_eq_false hm1
  have e2 : decide (1073741824 < ln) = false := decide_eq_false hm2
  have e3 : decide (cl < 1) = false := decide_eq_false hm3
  have e4 : decide (1073741824 < cl) = false := decide_eq_false hm4
  have cK := Lib.hid (fun w => refskip_any T i ln cl w hi hT (by omega) (by omega) (by omega) (by omega))
  obtain ⟨q, hq⟩ : ∃ q, skipR (T.data.toList.drop i) false i ln cl = q := ⟨_, rfl⟩
  obtain ⟨p, l, c⟩ := q
  rw [hq] at cK
  have hpT : p ≤ T.size := by have := skip_le T i hi ln cl; rw [hq] at this; exact this
  have HP := Lib.hid (show tokP T i ln cl = tokB T p l c by rw [tokP, hq])
  clear hq
  go_enter Tryd.func33, Tryd.ntmps33
  go_wp2_with fail
  refine (cK.out _).mono ?_
  rintro e w2 ⟨rfl, hb2⟩
  have HNB := Lib.hid (nb_start w w2 hb2 l c ((p : Nat) + 1))
  clear hb2 cK hi0 hi1 hm1 hm2 hm3 hm4 e1 e2 e3 e4
  go_upto_region 5 with (fail)
  generalize w2.alloc (.cells #[.int .i64 0, .int .i64 0, .string ⟨#[]⟩, .int .i64 l, .int .i64 c, .int .i64 ((p : Nat) + 1)] TT) = w0 at HNB ⊢
  have hge := HNB.out.ge
  generalize w2.heap.size = tb at HNB hge ⊢
  by_cases hlt : p < T.size
  · have hlt' : ((p : Int) == (T.size : Nat)) = false := beq_eq_false_iff_ne.2 (by omega)
    have hltn : ¬ (p : Int) = (T.size : Nat) := by omega
    have hlt1 : (p : Int) < (T.size : Nat) := by omega
    have HTB := Lib.hid (show tokP T i ln cl = tokX T p (T[p]'hlt) l c by rw [HP.out, tokB, dif_pos hlt])
    obtain ⟨x, hx⟩ : ∃ x, T[p]'hlt = x := ⟨_, rfl⟩
    have hbx : ∀ h, T[p]'h = x := fun _ => hx
    have HX := Lib.hid hx
    clear hx
    have x256 : x.toNat < 256 := x.toNat_lt
    by_cases h40 : x = 40
    · subst h40
      have HE := Lib.hid (show tokP T i ln cl = (0, ⟨1, 0, [], l, c, p + 1⟩) by rw [HTB.out, HX.out]; exact tokX_one (k := 1) (m := 1) (rfl) (by decide))
      have t0 : w0.cell? ⟨tb, 0, none⟩ = some (.int .i64 0) := blk_cell HNB.out.tok 0
      have f0 := blk_frozen HNB.out.tok 0
      have t1 : w0.cell? ⟨tb, 1, none⟩ = some (.int .i64 0) := blk_cell HNB.out.tok 1
      have f1 := blk_frozen HNB.out.tok 1
      have t2 : w0.cell? ⟨tb, 2, none⟩ = some (.string ⟨#[]⟩) := blk_cell HNB.out.tok 2
      have f2 := blk_frozen HNB.out.tok 2
      have t3 : w0.cell? ⟨tb, 3, none⟩ = some (.int .i64 l) := blk_cell HNB.out.tok 3
      have f3 := blk_frozen HNB.out.tok 3
      have t4 : w0.cell? ⟨tb, 4, none⟩ = some (.int .i64 c) := blk_cell HNB.out.tok 4
      have f4 := blk_frozen HNB.out.tok 4
      have t5 : w0.cell? ⟨tb, 5, none⟩ = some (.int .i64 ((p : Nat) + 1)) := blk_cell HNB.out.tok 5
      have f5 := blk_frozen HNB.out.tok 5
      have r0 : w0.cell? ⟨w.heap.size, 0, none⟩ = some (.int .i64 0) := blk_cell HNB.out.res 0
      have s0 := blk_frozen HNB.out.res 0
      have r1 : w0.cell? ⟨w.heap.size, 1, none⟩ = some (.int .i64 0) := blk_cell HNB.out.res 1
      have s1 := blk_frozen HNB.out.res 1
      have r2 : w0.cell? ⟨w.heap.size, 2, none⟩ = some (.string ⟨#[]⟩) := blk_cell HNB.out.res 2
      have s2 := blk_frozen HNB.out.res 2
      have r3 : w0.cell? ⟨w.heap.size, 3, none⟩ = some (.int .i64 0) := blk_cell HNB.out.res 3
      have s3 := blk_frozen HNB.out.res 3
      have r4 : w0.cell? ⟨w.heap.size, 4, none⟩ = some (.int .i64 0) := blk_cell HNB.out.res 4
      have s4 := blk_frozen HNB.out.res 4
      have r5 : w0.cell? ⟨w.heap.size, 5, none⟩ = some (.int .i64 0) := blk_cell HNB.out.res 5
      have s5 := blk_frozen HNB.out.res 5
      have z0 : w0.cell? ⟨w.heap.size + 1, 0, none⟩ = some (.int .i64 0) := blk_cell HNB.out.flt 0
      have y0 := blk_frozen HNB.out.flt 0
      have z1 : w0.cell? ⟨w.heap.size + 1, 1, none⟩ = some (.int .i64 0) := blk_cell HNB.out.flt 1
      have y1 := blk_frozen HNB.out.flt 1
      have z2 : w0.cell? ⟨w.heap.size + 1, 2, none⟩ = some (.int .i64 0) := blk_cell HNB.out.flt 2
      have y2 := blk_frozen HNB.out.flt 2
      go_wp2_with fail
      clear t0 f0 t1 f1 t2 f2 t3 f3 t4 f4 t5 f5 r0 s0 r1 s1 r2 s2 r3 s3 r4 s4 r5 s5 z0 y0 z1 y1 z2 y2
      obtain ⟨WF, hWF, hX, hY, hZ⟩ := ret_putN (w := w) (blk_far (HNB.out.res) (by show w.heap.size ≠ tb; omega) _) (blk_far (HNB.out.flt) (by show w.heap.size + 1 ≠ tb; omega) _) (below_set (HNB.out.below) (by omega)) (1) (0) (⟨#[]⟩) (l) (c) ((p : Int) + 1) (0) (0) (0)
      rw [hWF]
      clear hWF
      have q0 := blk_cell hX 0
      have q1 := blk_cell hX 1
      have q2 := blk_cell hX 2
      have q3 := blk_cell hX 3
      have q4 := blk_cell hX 4
      have q5 := blk_cell hX 5
      have u0 := blk_cell hY 0
      have u1 := blk_cell hY 1
      have u2 := blk_cell hY 2
      (try simp only [Exit.inBlock, Exit.then])
      refine bodyPost_ret (by simp [results, Tryd.results33, go_sem, q0, q1, q2, q3, q4, q5, u0, u1, u2]; rfl) rfl ?_
      exact ⟨by rw [HE.out]; rfl, hZ⟩
    have b40 : ((x.toNat : Int) == 40) = false := u8ne (n := 40) (by omega) h40
    have p40 : ¬ (x.toNat : Int) = 40 := fun e => h40 ((byte_int x 40 (by omega)).1 e)
    by_cases h41 : x = 41
    · subst h41
      have HE := Lib.hid (show tokP T i ln cl = (0, ⟨2, 0, [], l, c, p + 1⟩) by rw [HTB.out, HX.out]; exact tokX_one (k := 2) (m := 1) (rfl) (by decide))
      have t0 : w0.cell? ⟨tb, 0, none⟩ = some (.int .i64 0) := blk_cell HNB.out.tok 0
      have f0 := blk_frozen HNB.out.tok 0
      have t1 : w0.cell? ⟨tb, 1, none⟩ = some (.int .i64 0) := blk_cell HNB.out.tok 1
      have f1 := blk_frozen HNB.out.tok 1
      have t2 : w0.cell? ⟨tb, 2, none⟩ = some (.string ⟨#[]⟩) := blk_cell HNB.out.tok 2
      have f2 := blk_frozen HNB.out.tok 2
      have t3 : w0.cell? ⟨tb, 3, none⟩ = some (.int .i64 l) := blk_cell HNB.out.tok 3
      have f3 := blk_frozen HNB.out.tok 3
      have t4 : w0.cell? ⟨tb, 4, none⟩ = some (.int .i64 c) := blk_cell HNB.out.tok 4
      have f4 := blk_frozen HNB.out.tok 4
      have t5 : w0.cell? ⟨tb, 5, none⟩ = some (.int .i64 ((p : Nat) + 1)) := blk_cell HNB.out.tok 5
      have f5 := blk_frozen HNB.out.tok 5
      have r0 : w0.cell? ⟨w.heap.size, 0, none⟩ = some (.int .i64 0) := blk_cell HNB.out.res 0
      have s0 := blk_frozen HNB.out.res 0
      have r1 : w0.cell? ⟨w.heap.size, 1, none⟩ = some (.int .i64 0) := blk_cell HNB.out.res 1
      have s1 := blk_frozen HNB.out.res 1
      have r2 : w0.cell? ⟨w.heap.size, 2, none⟩ = some (.string ⟨#[]⟩) := blk_cell HNB.out.res 2
      have s2 := blk_frozen HNB.out.res 2
      have r3 : w0.cell? ⟨w.heap.size, 3, none⟩ = some (.int .i64 0) := blk_cell HNB.out.res 3
      have s3 := blk_frozen HNB.out.res 3
      have r4 : w0.cell? ⟨w.heap.size, 4, none⟩ = some (.int .i64 0) := blk_cell HNB.out.res 4
      have s4 := blk_frozen HNB.out.res 4
      have r5 : w0.cell? ⟨w.heap.size, 5, none⟩ = some (.int .i64 0) := blk_cell HNB.out.res 5
      have s5 := blk_frozen HNB.out.res 5
      have z0 : w0.cell? ⟨w.heap.size + 1, 0, none⟩ = some (.int .i64 0) := blk_cell HNB.out.flt 0
      have y0 := blk_frozen HNB.out.flt 0
      have z1 : w0.cell? ⟨w.heap.size + 1, 1, none⟩ = some (.int .i64 0) := blk_cell HNB.out.flt 1
      have y1 := blk_frozen HNB.out.flt 1
      have z2 : w0.cell? ⟨w.heap.size + 1, 2, none⟩ = some (.int .i64 0) := blk_cell HNB.out.flt 2
      have y2 := blk_frozen HNB.out.flt 2
      go_wp2_with fail
      clear t0 f0 t1 f1 t2 f2 t3 f3 t4 f4 t5 f5 r0 s0 r1 s1 r2 s2 r3 s3 r4 s4 r5 s5 z0 y0 z1 y1 z2 y2
      obtain ⟨WF, hWF, hX, hY, hZ⟩ := ret_putN (w := w) (blk_far (HNB.out.res) (by show w.heap.size ≠ tb; omega) _) (blk_far (HNB.out.flt) (by show w.heap.size + 1 ≠ tb; omega) _) (below_set (HNB.out.below) (by omega)) (2) (0) (⟨#[]⟩) (l) (c) ((p : Int) + 1) (0) (0) (0)
      rw [hWF]
      clear hWF
      have q0 := blk_cell hX 0
      have q1 := blk_cell hX 1
      have q2 := blk_cell hX 2
      have q3 := blk_cell hX 3
      have q4 := blk_cell hX 4
      have q5 := blk_cell hX 5
      have u0 := blk_cell hY 0
      have u1 := blk_cell hY 1
      have u2 := blk_cell hY 2
      (try simp only [Exit.inBlock, Exit.then])
      refine bodyPost_ret (by simp [results, Tryd.results33, go_sem, q0, q1, q2, q3, q4, q5, u0, u1, u2]; rfl) rfl ?_
      exact ⟨by rw [HE.out]; rfl, hZ⟩
    have b41 : ((x.toNat : Int) == 41) = false := u8ne (n := 41) (by omega) h41
    have p41 : ¬ (x.toNat : Int) = 41 := fun e => h41 ((byte_int x 41 (by omega)).1 e)
    by_cases h39 : x = 39
    · subst h39
      have HE := Lib.hid (show tokP T i ln cl = (0, ⟨4, 0, [], l, c, p + 1⟩) by rw [HTB.out, HX.out]; exact tokX_one (k := 4) (m := 1) (rfl) (by decide))
      have t0 : w0.cell? ⟨tb, 0, none⟩ = some (.int .i64 0) := blk_cell HNB.out.tok 0
      have f0 := blk_frozen HNB.out.tok 0
      have t1 : w0.cell? ⟨tb, 1, none⟩ = some (.int .i64 0) := blk_cell HNB.out.tok 1
      have f1 := blk_frozen HNB.out.tok 1
      have t2 : w0.cell? ⟨tb, 2, none⟩ = some (.string ⟨#[]⟩) := blk_cell HNB.out.tok 2
      have f2 := blk_frozen HNB.out.tok 2
      have t3 : w0.cell? ⟨tb, 3, none⟩ = some (.int .i64 l) := blk_cell HNB.out.tok 3
      have f3 := blk_frozen HNB.out.tok 3
      have t4 : w0.cell? ⟨tb, 4, none⟩ = some (.int .i64 c) := blk_cell HNB.out.tok 4
      have f4 := blk_frozen HNB.out.tok 4
      have t5 : w0.cell? ⟨tb, 5, none⟩ = some (.int .i64 ((p : Nat) + 1)) := blk_cell HNB.out.tok 5
      have f5 := blk_frozen HNB.out.tok 5
      have r0 : w0.cell? ⟨w.heap.size, 0, none⟩ = some (.int .i64 0) := blk_cell HNB.out.res 0
      have s0 := blk_frozen HNB.out.res 0
      have r1 : w0.cell? ⟨w.heap.size, 1, none⟩ = some (.int .i64 0) := blk_cell HNB.out.res 1
      have s1 := blk_frozen HNB.out.res 1
      have r2 : w0.cell? ⟨w.heap.size, 2, none⟩ = some (.string ⟨#[]⟩) := blk_cell HNB.out.res 2
      have s2 := blk_frozen HNB.out.res 2
      have r3 : w0.cell? ⟨w.heap.size, 3, none⟩ = some (.int .i64 0) := blk_cell HNB.out.res 3
      have s3 := blk_frozen HNB.out.res 3
      have r4 : w0.cell? ⟨w.heap.size, 4, none⟩ = some (.int .i64 0) := blk_cell HNB.out.res 4
      have s4 := blk_frozen HNB.out.res 4
      have r5 : w0.cell? ⟨w.heap.size, 5, none⟩ = some (.int .i64 0) := blk_cell HNB.out.res 5
      have s5 := blk_frozen HNB.out.res 5
      have z0 : w0.cell? ⟨w.heap.size + 1, 0, none⟩ = some (.int .i64 0) := blk_cell HNB.out.flt 0
      have y0 := blk_frozen HNB.out.flt 0
      have z1 : w0.cell? ⟨w.heap.size + 1, 1, none⟩ = some (.int .i64 0) := blk_cell HNB.out.flt 1
      have y1 := blk_frozen HNB.out.flt 1
      have z2 : w0.cell? ⟨w.heap.size + 1, 2, none⟩ = some (.int .i64 0) := blk_cell HNB.out.flt 2
      have y2 := blk_frozen HNB.out.flt 2
      go_wp2_with fail
      clear t0 f0 t1 f1 t2 f2 t3 f3 t4 f4 t5 f5 r0 s0 r1 s1 r2 s2 r3 s3 r4 s4 r5 s5 z0 y0 z1 y1 z2 y2
      obtain ⟨WF, hWF, hX, hY, hZ⟩ := ret_putN (w := w) (blk_far (HNB.out.res) (by show w.heap.size ≠ tb; omega) _) (blk_far (HNB.out.flt) (by show w.heap.size + 1 ≠ tb; omega) _) (below_set (HNB.out.below) (by omega)) (4) (0) (⟨#[]⟩) (l) (c) ((p : Int) + 1) (0) (0) (0)
      rw [hWF]
      clear hWF
      have q0 := blk_cell hX 0
      have q1 := blk_cell hX 1
      have q2 := blk_cell hX 2
      have q3 := blk_cell hX 3
      have q4 := blk_cell hX 4
      have q5 := blk_cell hX 5
      have u0 := blk_cell hY 0
      have u1 := blk_cell hY 1
      have u2 := blk_cell hY 2
      (try simp only [Exit.inBlock, Exit.then])
      refine bodyPost_ret (by simp [results, Tryd.results33, go_sem, q0, q1, q2, q3, q4, q5, u0, u1, u2]; rfl) rfl ?_
      exact ⟨by rw [HE.out]; rfl, hZ⟩
    have b39 : ((x.toNat : Int) == 39) = false := u8ne (n := 39) (by omega) h39
    have p39 : ¬ (x.toNat : Int) = 39 := fun e => h39 ((byte_int x 39 (by omega)).1 e)
    by_cases h96 : x = 96
    · subst h96
      have HE := Lib.hid (show tokP T i ln cl = (0, ⟨5, 0, [], l, c, p + 1⟩) by rw [HTB.out, HX.out]; exact tokX_one (k := 5) (m := 1) (rfl) (by decide))
      have t0 : w0.cell? ⟨tb, 0, none⟩ = some (.int .i64 0) := blk_cell HNB.out.tok 0
      have f0 := blk_frozen HNB.out.tok 0
      have t1 : w0.cell? ⟨tb, 1, none⟩ = some (.int .i64 0) := blk_cell HNB.out.tok 1
      have f1 := blk_frozen HNB.out.tok 1
      have t2 : w0.cell? ⟨tb, 2, none⟩ = some (.string ⟨#[]⟩) := blk_cell HNB.out.tok 2
      have f2 := blk_frozen HNB.out.tok 2
      have t3 : w0.cell? ⟨tb, 3, none⟩ = some (.int .i64 l) := blk_cell HNB.out.tok 3
      have f3 := blk_frozen HNB.out.tok 3
      have t4 : w0.cell? ⟨tb, 4, none⟩ = some (.int .i64 c) := blk_cell HNB.out.tok 4
      have f4 := blk_frozen HNB.out.tok 4
      have t5 : w0.cell? ⟨tb, 5, none⟩ = some (.int .i64 ((p : Nat) + 1)) := blk_cell HNB.out.tok 5
      have f5 := blk_frozen HNB.out.tok 5
      have r0 : w0.cell? ⟨w.heap.size, 0, none⟩ = some (.int .i64 0) := blk_cell HNB.out.res 0
      have s0 := blk_frozen HNB.out.res 0
      have r1 : w0.cell? ⟨w.heap.size, 1, none⟩ = some (.int .i64 0) := blk_cell HNB.out.res 1
      have s1 := blk_frozen HNB.out.res 1
      have r2 : w0.cell? ⟨w.heap.size, 2, none⟩ = some (.string ⟨#[]⟩) := blk_cell HNB.out.res 2
      have s2 := blk_frozen HNB.out.res 2
      have r3 : w0.cell? ⟨w.heap.size, 3, none⟩ = some (.int .i64 0) := blk_cell HNB.out.res 3
      have s3 := blk_frozen HNB.out.res 3
      have r4 : w0.cell? ⟨w.heap.size, 4, none⟩ = some (.int .i64 0) := blk_cell HNB.out.res 4
      have s4 := blk_frozen HNB.out.res 4
      have r5 : w0.cell? ⟨w.heap.size, 5, none⟩ = some (.int .i64 0) := blk_cell HNB.out.res 5
      have s5 := blk_frozen HNB.out.res 5
      have z0 : w0.cell? ⟨w.heap.size + 1, 0, none⟩ = some (.int .i64 0) := blk_cell HNB.out.flt 0
      have y0 := blk_frozen HNB.out.flt 0
      have z1 : w0.cell? ⟨w.heap.size + 1, 1, none⟩ = some (.int .i64 0) := blk_cell HNB.out.flt 1
      have y1 := blk_frozen HNB.out.flt 1
      have z2 : w0.cell? ⟨w.heap.size + 1, 2, none⟩ = some (.int .i64 0) := blk_cell HNB.out.flt 2
      have y2 := blk_frozen HNB.out.flt 2
      go_wp2_with fail
      clear t0 f0 t1 f1 t2 f2 t3 f3 t4 f4 t5 f5 r0 s0 r1 s1 r2 s2 r3 s3 r4 s4 r5 s5 z0 y0 z1 y1 z2 y2
      obtain ⟨WF, hWF, hX, hY, hZ⟩ := ret_putN (w := w) (blk_far (HNB.out.res) (by show w.heap.size ≠ tb; omega) _) (blk_far (HNB.out.flt) (by show w.heap.size + 1 ≠ tb; omega) _) (below_set (HNB.out.below) (by omega)) (5) (0) (⟨#[]⟩) (l) (c) ((p : Int) + 1) (0) (0) (0)
      rw [hWF]
      clear hWF
      have q0 := blk_cell hX 0
      have q1 := blk_cell hX 1
      have q2 := blk_cell hX 2
      have q3 := blk_cell hX 3
      have q4 := blk_cell hX 4
      have q5 := blk_cell hX 5
      have u0 := blk_cell hY 0
      have u1 := blk_cell hY 1
      have u2 := blk_cell hY 2
      (try simp only [Exit.inBlock, Exit.then])
      refine bodyPost_ret (by simp [results, Tryd.results33, go_sem, q0, q1, q2, q3, q4, q5, u0, u1, u2]; rfl) rfl ?_
      exact ⟨by rw [HE.out]; rfl, hZ⟩
    have b96 : ((x.toNat : Int) == 96) = false := u8ne (n := 96) (by omega) h96
    have p96 : ¬ (x.toNat : Int) = 96 := fun e => h96 ((byte_int x 96 (by omega)).1 e)
    by_cases h44 : x = 44
    · subst h44
      by_cases hlt2 : p + 1 < T.size
      · have hlt3 : (p : Int) + 1 < (T.size : Nat) := by omega
        obtain ⟨y, hy⟩ : ∃ y, T[p + 1]'hlt2 = y := ⟨_, rfl⟩
        have hby : ∀ h, T[p + 1]'h = y := fun _ => hy
        have HTW := Lib.hid (show twoP T (p + 1) = y by rw [twoP, dif_pos hlt2, hy])
        clear hy
        have y256 : y.toNat < 256 := y.toNat_lt
        by_cases hy64 : y = 64
        · subst hy64
          have HE := Lib.hid (show tokP T i ln cl = (0, ⟨7, 0, [], l, c, p + 2⟩) by rw [HTB.out, HX.out]; exact tokX_one (k := 7) (m := 2) (by rw [HTW.out] <;> rfl) (by decide))
          have t0 : w0.cell? ⟨tb, 0, none⟩ = some (.int .i64 0) := blk_cell HNB.out.tok 0
          have f0 := blk_frozen HNB.out.tok 0
          have t1 : w0.cell? ⟨tb, 1, none⟩ = some (.int .i64 0) := blk_cell HNB.out.tok 1
          have f1 := blk_frozen HNB.out.tok 1
          have t2 : w0.cell? ⟨tb, 2, none⟩ = some (.string ⟨#[]⟩) := blk_cell HNB.out.tok 2
          have f2 := blk_frozen HNB.out.tok 2
          have t3 : w0.cell? ⟨tb, 3, none⟩ = some (.int .i64 l) := blk_cell HNB.out.tok 3
          have f3 := blk_frozen HNB.out.tok 3
          have t4 : w0.cell? ⟨tb, 4, none⟩ = some (.int .i64 c) := blk_cell HNB.out.tok 4
          have f4 := blk_frozen HNB.out.tok 4
          have t5 : w0.cell? ⟨tb, 5, none⟩ = some (.int .i64 ((p : Nat) + 1)) := blk_cell HNB.out.tok 5
          have f5 := blk_frozen HNB.out.tok 5
          have r0 : w0.cell? ⟨w.heap.size, 0, none⟩ = some (.int .i64 0) := blk_cell HNB.out.res 0
          have s0 := blk_frozen HNB.out.res 0
          have r1 : w0.cell? ⟨w.heap.size, 1, none⟩ = some (.int .i64 0) := blk_cell HNB.out.res 1
          have s1 := blk_frozen HNB.out.res 1
          have r2 : w0.cell? ⟨w.heap.size, 2, none⟩ = some (.string ⟨#[]⟩) := blk_cell HNB.out.res 2
          have s2 := blk_frozen HNB.out.res 2
          have r3 : w0.cell? ⟨w.heap.size, 3, none⟩ = some (.int .i64 0) := blk_cell HNB.out.res 3
          have s3 := blk_frozen HNB.out.res 3
          have r4 : w0.cell? ⟨w.heap.size, 4, none⟩ = some (.int .i64 0) := blk_cell HNB.out.res 4
          have s4 := blk_frozen HNB.out.res 4
          have r5 : w0.cell? ⟨w.heap.size, 5, none⟩ = some (.int .i64 0) := blk_cell HNB.out.res 5
          have s5 := blk_frozen HNB.out.res 5
          have z0 : w0.cell? ⟨w.heap.size + 1, 0, none⟩ = some (.int .i64 0) := blk_cell HNB.out.flt 0
          have y0 := blk_frozen HNB.out.flt 0
          have z1 : w0.cell? ⟨w.heap.size + 1, 1, none⟩ = some (.int .i64 0) := blk_cell HNB.out.flt 1
          have y1 := blk_frozen HNB.out.flt 1
          have z2 : w0.cell? ⟨w.heap.size + 1, 2, none⟩ = some (.int .i64 0) := blk_cell HNB.out.flt 2
          have y2 := blk_frozen HNB.out.flt 2
          go_wp2_with fail
          clear t0 f0 t1 f1 t2 f2 t3 f3 t4 f4 t5 f5 r0 s0 r1 s1 r2 s2 r3 s3 r4 s4 r5 s5 z0 y0 z1 y1 z2 y2
          obtain ⟨WF, hWF, hX, hY, hZ⟩ := ret_putN (w := w) (blk_far (blk_far (HNB.out.res) (by show w.heap.size ≠ tb; omega) _) (by show w.heap.size ≠ tb; omega) _) (blk_far (blk_far (HNB.out.flt) (by show w.heap.size + 1 ≠ tb; omega) _) (by show w.heap.size + 1 ≠ tb; omega) _) (below_set (below_set (HNB.out.below) (by omega)) (by omega)) (7) (0) (⟨#[]⟩) (l) (c) ((p : Int) + 2) (0) (0) (0)
          rw [hWF]
          clear hWF
          have q0 := blk_cell hX 0
          have q1 := blk_cell hX 1
          have q2 := blk_cell hX 2
          have q3 := blk_cell hX 3
          have q4 := blk_cell hX 4
          have q5 := blk_cell hX 5
          have u0 := blk_cell hY 0
          have u1 := blk_cell hY 1
          have u2 := blk_cell hY 2
          (try simp only [Exit.inBlock, Exit.then])
          refine bodyPost_ret (by simp [results, Tryd.results33, go_sem, q0, q1, q2, q3, q4, q5, u0, u1, u2]; rfl) rfl ?_
          exact ⟨by rw [HE.out]; rfl, hZ⟩
        · have b64 : ((y.toNat : Int) == 64) = false := u8ne (n := 64) (by omega) hy64
          have p64 : ¬ (y.toNat : Int) = 64 := fun e => hy64 ((byte_int y 64 (by omega)).1 e)
          have HTN := Lib.hid (show twoP T (p + 1) ≠ 64 by rw [HTW.out]; exact hy64)
          clear hy64
          have HE := Lib.hid (show tokP T i ln cl = (0, ⟨6, 0, [], l, c, p + 1⟩) by rw [HTB.out, HX.out]; exact tokX_one (k := 6) (m := 1) (oneP_44 HTN.out) (by decide))
          have t0 : w0.cell? ⟨tb, 0, none⟩ = some (.int .i64 0) := blk_cell HNB.out.tok 0
          have f0 := blk_frozen HNB.out.tok 0
          have t1 : w0.cell? ⟨tb, 1, none⟩ = some (.int .i64 0) := blk_cell HNB.out.tok 1
          have f1 := blk_frozen HNB.out.tok 1
          have t2 : w0.cell? ⟨tb, 2, none⟩ = some (.string ⟨#[]⟩) := blk_cell HNB.out.tok 2
          have f2 := blk_frozen HNB.out.tok 2
          have t3 : w0.cell? ⟨tb, 3, none⟩ = some (.int .i64 l) := blk_cell HNB.out.tok 3
          have f3 := blk_frozen HNB.out.tok 3
          have t4 : w0.cell? ⟨tb, 4, none⟩ = some (.int .i64 c) := blk_cell HNB.out.tok 4
          have f4 := blk_frozen HNB.out.tok 4
          have t5 : w0.cell? ⟨tb, 5, none⟩ = some (.int .i64 ((p : Nat) + 1)) := blk_cell HNB.out.tok 5
          have f5 := blk_frozen HNB.out.tok 5
          have r0 : w0.cell? ⟨w.heap.size, 0, none⟩ = some (.int .i64 0) := blk_cell HNB.out.res 0
          have s0 := blk_frozen HNB.out.res 0
          have r1 : w0.cell? ⟨w.heap.size, 1, none⟩ = some (.int .i64 0) := blk_cell HNB.out.res 1
          have s1 := blk_frozen HNB.out.res 1
          have r2 : w0.cell? ⟨w.heap.size, 2, none⟩ = some (.string ⟨#[]⟩) := blk_cell HNB.out.res 2
          have s2 := blk_frozen HNB.out.res 2
          have r3 : w0.cell? ⟨w.heap.size, 3, none⟩ = some (.int .i64 0) := blk_cell HNB.out.res 3
          have s3 := blk_frozen HNB.out.res 3
          have r4 : w0.cell? ⟨w.heap.size, 4, none⟩ = some (.int .i64 0) := blk_cell HNB.out.res 4
          have s4 := blk_frozen HNB.out.res 4
          have r5 : w0.cell? ⟨w.heap.size, 5, none⟩ = some (.int .i64 0) := blk_cell HNB.out.res 5
          have s5 := blk_frozen HNB.out.res 5
          have z0 : w0.cell? ⟨w.heap.size + 1, 0, none⟩ = some (.int .i64 0) := blk_cell HNB.out.flt 0
          have y0 := blk_frozen HNB.out.flt 0
          have z1 : w0.cell? ⟨w.heap.size + 1, 1, none⟩ = some (.int .i64 0) := blk_cell HNB.out.flt 1
          have y1 := blk_frozen HNB.out.flt 1
          have z2 : w0.cell? ⟨w.heap.size + 1, 2, none⟩ = some (.int .i64 0) := blk_cell HNB.out.flt 2
          have y2 := blk_frozen HNB.out.flt 2
          go_wp2_with fail
          clear t0 f0 t1 f1 t2 f2 t3 f3 t4 f4 t5 f5 r0 s0 r1 s1 r2 s2 r3 s3 r4 s4 r5 s5 z0 y0 z1 y1 z2 y2
          obtain ⟨WF, hWF, hX, hY, hZ⟩ := ret_putN (w := w) (blk_far (HNB.out.res) (by show w.heap.size ≠ tb; omega) _) (blk_far (HNB.out.flt) (by show w.heap.size + 1 ≠ tb; omega) _) (below_set (HNB.out.below) (by omega)) (6) (0) (⟨#[]⟩) (l) (c) ((p : Int) + 1) (0) (0) (0)
          rw [hWF]
          clear hWF
          have q0 := blk_cell hX 0
          have q1 := blk_cell hX 1
          have q2 := blk_cell hX 2
          have q3 := blk_cell hX 3
          have q4 := blk_cell hX 4
          have q5 := blk_cell hX 5
          have u0 := blk_cell hY 0
          have u1 := blk_cell hY 1
          have u2 := blk_cell hY 2
          (try simp only [Exit.inBlock, Exit.then])
          refine bodyPost_ret (by simp [results, Tryd.results33, go_sem, q0, q1, q2, q3, q4, q5, u0, u1, u2]; rfl) rfl ?_
          exact ⟨by rw [HE.out]; rfl, hZ⟩
      · have hlt3 : ¬ (p : Int) + 1 < (T.size : Nat) := by omega
        have HTN := Lib.hid (show twoP T (p + 1) ≠ 64 by rw [twoP, dif_neg hlt2]; decide)
        have HE := Lib.hid (show tokP T i ln cl = (0, ⟨6, 0, [], l, c, p + 1⟩) by rw [HTB.out, HX.out]; exact tokX_one (k := 6) (m := 1) (oneP_44 HTN.out) (by decide))
        have t0 : w0.cell? ⟨tb, 0, none⟩ = some (.int .i64 0) := blk_cell HNB.out.tok 0
        have f0 := blk_frozen HNB.out.tok 0
        have t1 : w0.cell? ⟨tb, 1, none⟩ = some (.int .i64 0) := blk_cell HNB.out.tok 1
        have f1 := blk_frozen HNB.out.tok 1
        have t2 : w0.cell? ⟨tb, 2, none⟩ = some (.string ⟨#[]⟩) := blk_cell HNB.out.tok 2
        have f2 := blk_frozen HNB.out.tok 2
        have t3 : w0.cell? ⟨tb, 3, none⟩ = some (.int .i64 l) := blk_cell HNB.out.tok 3
        have f3 := blk_frozen HNB.out.tok 3
        have t4 : w0.cell? ⟨tb, 4, none⟩ = some (.int .i64 c) := blk_cell HNB.out.tok 4
        have f4 := blk_frozen HNB.out.tok 4
        have t5 : w0.cell? ⟨tb, 5, none⟩ = some (.int .i64 ((p : Nat) + 1)) := blk_cell HNB.out.tok 5
        have f5 := blk_frozen HNB.out.tok 5
        have r0 : w0.cell? ⟨w.heap.size, 0, none⟩ = some (.int .i64 0) := blk_cell HNB.out.res 0
        have s0 := blk_frozen HNB.out.res 0
        have r1 : w0.cell? ⟨w.heap.size, 1, none⟩ = some (.int .i64 0) := blk_cell HNB.out.res 1
        have s1 := blk_frozen HNB.out.res 1
        have r2 : w0.cell? ⟨w.heap.size, 2, none⟩ = some (.string ⟨#[]⟩) := blk_cell HNB.out.res 2
        have s2 := blk_frozen HNB.out.res 2
        have r3 : w0.cell? ⟨w.heap.size, 3, none⟩ = some (.int .i64 0) := blk_cell HNB.out.res 3
        have s3 := blk_frozen HNB.out.res 3
        have r4 : w0.cell? ⟨w.heap.size, 4, none⟩ = some (.int .i64 0) := blk_cell HNB.out.res 4
        have s4 := blk_frozen HNB.out.res 4
        have r5 : w0.cell? ⟨w.heap.size, 5, none⟩ = some (.int .i64 0) := blk_cell HNB.out.res 5
        have s5 := blk_frozen HNB.out.res 5
        have z0 : w0.cell? ⟨w.heap.size + 1, 0, none⟩ = some (.int .i64 0) := blk_cell HNB.out.flt 0
        have y0 := blk_frozen HNB.out.flt 0
        have z1 : w0.cell? ⟨w.heap.size + 1, 1, none⟩ = some (.int .i64 0) := blk_cell HNB.out.flt 1
        have y1 := blk_frozen HNB.out.flt 1
        have z2 : w0.cell? ⟨w.heap.size + 1, 2, none⟩ = some (.int .i64 0) := blk_cell HNB.out.flt 2
        have y2 := blk_frozen HNB.out.flt 2
        go_wp2_with fail
        clear t0 f0 t1 f1 t2 f2 t3 f3 t4 f4 t5 f5 r0 s0 r1 s1 r2 s2 r3 s3 r4 s4 r5 s5 z0 y0 z1 y1 z2 y2
        obtain ⟨WF, hWF, hX, hY, hZ⟩ := ret_putN (w := w) (blk_far (HNB.out.res) (by show w.heap.size ≠ tb; omega) _) (blk_far (HNB.out.flt) (by show w.heap.size + 1 ≠ tb; omega) _) (below_set (HNB.out.below) (by omega)) (6) (0) (⟨#[]⟩) (l) (c) ((p : Int) + 1) (0) (0) (0)
        rw [hWF]
        clear hWF
        have q0 := blk_cell hX 0
        have q1 := blk_cell hX 1
        have q2 := blk_cell hX 2
        have q3 := blk_cell hX 3
        have q4 := blk_cell hX 4
        have q5 := blk_cell hX 5
        have u0 := blk_cell hY 0
        have u1 := blk_cell hY 1
        have u2 := blk_cell hY 2
        (try simp only [Exit.inBlock, Exit.then])
        refine bodyPost_ret (by simp [results, Tryd.results33, go_sem, q0, q1, q2, q3, q4, q5, u0, u1, u2]; rfl) rfl ?_
        exact ⟨by rw [HE.out]; rfl, hZ⟩
    have b44 : ((x.toNat : Int) == 44) = false := u8ne (n := 44) (by omega) h44
    have p44 : ¬ (x.toNat : Int) = 44 := fun e => h44 ((byte_int x 44 (by omega)).1 e)
    by_cases h35 : x = 35
    · subst h35
      by_cases hlt2 : p + 1 < T.size
      · have hlt3 : (p : Int) + 1 < (T.size : Nat) := by omega
        obtain ⟨y, hy⟩ : ∃ y, T[p + 1]'hlt2 = y := ⟨_, rfl⟩
        have hby : ∀ h, T[p + 1]'h = y := fun _ => hy
        have HTW := Lib.hid (show twoP T (p + 1) = y by rw [twoP, dif_pos hlt2, hy])
        clear hy
        have y256 : y.toNat < 256 := y.toNat_lt
        by_cases hy40 : y = 40
        · subst hy40
          have HE := Lib.hid (show tokP T i ln cl = (0, ⟨3, 0, [], l, c, p + 2⟩) by rw [HTB.out, HX.out]; exact tokX_one (k := 3) (m := 2) (by rw [HTW.out] <;> rfl) (by decide))
          have t0 : w0.cell? ⟨tb, 0, none⟩ = some (.int .i64 0) := blk_cell HNB.out.tok 0
          have f0 := blk_frozen HNB.out.tok 0
          have t1 : w0.cell? ⟨tb, 1, none⟩ = some (.int .i64 0) := blk_cell HNB.out.tok 1
          have f1 := blk_frozen HNB.out.tok 1
          have t2 : w0.cell? ⟨tb, 2, none⟩ = some (.string ⟨#[]⟩) := blk_cell HNB.out.tok 2
          have f2 := blk_frozen HNB.out.tok 2
          have t3 : w0.cell? ⟨tb, 3, none⟩ = some (.int .i64 l) := blk_cell HNB.out.tok 3
          have f3 := blk_frozen HNB.out.tok 3
          have t4 : w0.cell? ⟨tb, 4, none⟩ = some (.int .i64 c) := blk_cell HNB.out.tok 4
          have f4 := blk_frozen HNB.out.tok 4
          have t5 : w0.cell? ⟨tb, 5, none⟩ = some (.int .i64 ((p : Nat) + 1)) := blk_cell HNB.out.tok 5
          have f5 := blk_frozen HNB.out.tok 5
          have r0 : w0.cell? ⟨w.heap.size, 0, none⟩ = some (.int .i64 0) := blk_cell HNB.out.res 0
          have s0 := blk_frozen HNB.out.res 0
          have r1 : w0.cell? ⟨w.heap.size, 1, none⟩ = some (.int .i64 0) := blk_cell HNB.out.res 1
          have s1 := blk_frozen HNB.out.res 1
          have r2 : w0.cell? ⟨w.heap.size, 2, none⟩ = some (.string ⟨#[]⟩) := blk_cell HNB.out.res 2
          have s2 := blk_frozen HNB.out.res 2
          have r3 : w0.cell? ⟨w.heap.size, 3, none⟩ = some (.int .i64 0) := blk_cell HNB.out.res 3
          have s3 := blk_frozen HNB.out.res 3
          have r4 : w0.cell? ⟨w.heap.size, 4, none⟩ = some (.int .i64 0) := blk_cell HNB.out.res 4
          have s4 := blk_frozen HNB.out.res 4
          have r5 : w0.cell? ⟨w.heap.size, 5, none⟩ = some (.int .i64 0) := blk_cell HNB.out.res 5
          have s5 := blk_frozen HNB.out.res 5
          have z0 : w0.cell? ⟨w.heap.size + 1, 0, none⟩ = some (.int .i64 0) := blk_cell HNB.out.flt 0
          have y0 := blk_frozen HNB.out.flt 0
          have z1 : w0.cell? ⟨w.heap.size + 1, 1, none⟩ = some (.int .i64 0) := blk_cell HNB.out.flt 1
          have y1 := blk_frozen HNB.out.flt 1
          have z2 : w0.cell? ⟨w.heap.size + 1, 2, none⟩ = some (.int .i64 0) := blk_cell HNB.out.flt 2
          have y2 := blk_frozen HNB.out.flt 2
          go_wp2_with fail
          clear t0 f0 t1 f1 t2 f2 t3 f3 t4 f4 t5 f5 r0 s0 r1 s1 r2 s2 r3 s3 r4 s4 r5 s5 z0 y0 z1 y1 z2 y2
          obtain ⟨WF, hWF, hX, hY, hZ⟩ := ret_putN (w := w) (blk_far (blk_far (HNB.out.res) (by show w.heap.size ≠ tb; omega) _) (by show w.heap.size ≠ tb; omega) _) (blk_far (blk_far (HNB.out.flt) (by show w.heap.size + 1 ≠ tb; omega) _) (by show w.heap.size + 1 ≠ tb; omega) _) (below_set (below_set (HNB.out.below) (by omega)) (by omega)) (3) (0) (⟨#[]⟩) (l) (c) ((p : Int) + 2) (0) (0) (0)
          rw [hWF]
          clear hWF
          have q0 := blk_cell hX 0
          have q1 := blk_cell hX 1
          have q2 := blk_cell hX 2
          have q3 := blk_cell hX 3
          have q4 := blk_cell hX 4
          have q5 := blk_cell hX 5
          have u0 := blk_cell hY 0
          have u1 := blk_cell hY 1
          have u2 := blk_cell hY 2
          (try simp only [Exit.inBlock, Exit.then])
          refine bodyPost_ret (by simp [results, Tryd.results33, go_sem, q0, q1, q2, q3, q4, q5, u0, u1, u2]; rfl) rfl ?_
          exact ⟨by rw [HE.out]; rfl, hZ⟩
        · have b40 : ((y.toNat : Int) == 40) = false := u8ne (n := 40) (by omega) hy40
          have p40 : ¬ (y.toNat : Int) = 40 := fun e => hy40 ((byte_int y 40 (by omega)).1 e)
          have HTN := Lib.hid (show twoP T (p + 1) ≠ 40 by rw [HTW.out]; exact hy40)
          clear hy40
          have HE := Lib.hid (show tokP T i ln cl = ((sharpL T p (T.data.toList.drop (p + 1))).1, ⟨(sharpL T p (T.data.toList.drop (p + 1))).2.1, (sharpL T p (T.data.toList.drop (p + 1))).2.2.1, [], l, c, (sharpL T p (T.data.toList.drop (p + 1))).2.2.2⟩) by rw [HTB.out, HX.out]; rw [tokX, oneP_35 HTN.out, if_neg (by decide), if_pos rfl])
          have cS := Lib.hid (fun w => refsharp_any T p l c ((p : Nat) + 1) w hlt hT)
          obtain ⟨rk, rn, rx, rl, rc, rnx, fk, fl, fc, hff⟩ := refRet_form ((sharpL T p (T.data.toList.drop (p + 1))).1, ⟨(sharpL T p (T.data.toList.drop (p + 1))).2.1, (sharpL T p (T.data.toList.drop (p + 1))).2.2.1, [], l, c, (sharpL T p (T.data.toList.drop (p + 1))).2.2.2⟩)
          rw [hff] at cS
          have HF := Lib.hid (hff)
          clear hff
          have t0 : w0.cell? ⟨tb, 0, none⟩ = some (.int .i64 0) := blk_cell HNB.out.tok 0
          have f0 := blk_frozen HNB.out.tok 0
          have t1 : w0.cell? ⟨tb, 1, none⟩ = some (.int .i64 0) := blk_cell HNB.out.tok 1
          have f1 := blk_frozen HNB.out.tok 1
          have t2 : w0.cell? ⟨tb, 2, none⟩ = some (.string ⟨#[]⟩) := blk_cell HNB.out.tok 2
          have f2 := blk_frozen HNB.out.tok 2
          have t3 : w0.cell? ⟨tb, 3, none⟩ = some (.int .i64 l) := blk_cell HNB.out.tok 3
          have f3 := blk_frozen HNB.out.tok 3
          have t4 : w0.cell? ⟨tb, 4, none⟩ = some (.int .i64 c) := blk_cell HNB.out.tok 4
          have f4 := blk_frozen HNB.out.tok 4
          have t5 : w0.cell? ⟨tb, 5, none⟩ = some (.int .i64 ((p : Nat) + 1)) := blk_cell HNB.out.tok 5
          have f5 := blk_frozen HNB.out.tok 5
          have r0 : w0.cell? ⟨w.heap.size, 0, none⟩ = some (.int .i64 0) := blk_cell HNB.out.res 0
          have s0 := blk_frozen HNB.out.res 0
          have r1 : w0.cell? ⟨w.heap.size, 1, none⟩ = some (.int .i64 0) := blk_cell HNB.out.res 1
          have s1 := blk_frozen HNB.out.res 1
          have r2 : w0.cell? ⟨w.heap.size, 2, none⟩ = some (.string ⟨#[]⟩) := blk_cell HNB.out.res 2
          have s2 := blk_frozen HNB.out.res 2
          have r3 : w0.cell? ⟨w.heap.size, 3, none⟩ = some (.int .i64 0) := blk_cell HNB.out.res 3
          have s3 := blk_frozen HNB.out.res 3
          have r4 : w0.cell? ⟨w.heap.size, 4, none⟩ = some (.int .i64 0) := blk_cell HNB.out.res 4
          have s4 := blk_frozen HNB.out.res 4
          have r5 : w0.cell? ⟨w.heap.size, 5, none⟩ = some (.int .i64 0) := blk_cell HNB.out.res 5
          have s5 := blk_frozen HNB.out.res 5
          have z0 : w0.cell? ⟨w.heap.size + 1, 0, none⟩ = some (.int .i64 0) := blk_cell HNB.out.flt 0
          have y0 := blk_frozen HNB.out.flt 0
          have z1 : w0.cell? ⟨w.heap.size + 1, 1, none⟩ = some (.int .i64 0) := blk_cell HNB.out.flt 1
          have y1 := blk_frozen HNB.out.flt 1
          have z2 : w0.cell? ⟨w.heap.size + 1, 2, none⟩ = some (.int .i64 0) := blk_cell HNB.out.flt 2
          have y2 := blk_frozen HNB.out.flt 2
          go_wp2_with fail
          refine (cS.out _).mono ?_
          rintro e w3 hw3
          obtain rfl := hw3.ret
          have HB3 := Lib.hid (HNB.out.step hw3.below)
          clear hw3 t0 f0 t1 f1 t2 f2 t3 f3 t4 f4 t5 f5 r0 s0 r1 s1 r2 s2 r3 s3 r4 s4 r5 s5 z0 y0 z1 y1 z2 y2
          have r0 : w3.cell? ⟨w.heap.size, 0, none⟩ = some (.int .i64 0) := blk_cell HB3.out.res 0
          have s0 := blk_frozen HB3.out.res 0
          have r1 : w3.cell? ⟨w.heap.size, 1, none⟩ = some (.int .i64 0) := blk_cell HB3.out.res 1
          have s1 := blk_frozen HB3.out.res 1
          have r2 : w3.cell? ⟨w.heap.size, 2, none⟩ = some (.string ⟨#[]⟩) := blk_cell HB3.out.res 2
          have s2 := blk_frozen HB3.out.res 2
          have r3 : w3.cell? ⟨w.heap.size, 3, none⟩ = some (.int .i64 0) := blk_cell HB3.out.res 3
          have s3 := blk_frozen HB3.out.res 3
          have r4 : w3.cell? ⟨w.heap.size, 4, none⟩ = some (.int .i64 0) := blk_cell HB3.out.res 4
          have s4 := blk_frozen HB3.out.res 4
          have r5 : w3.cell? ⟨w.heap.size, 5, none⟩ = some (.int .i64 0) := blk_cell HB3.out.res 5
          have s5 := blk_frozen HB3.out.res 5
          have z0 : w3.cell? ⟨w.heap.size + 1, 0, none⟩ = some (.int .i64 0) := blk_cell HB3.out.flt 0
          have y0 := blk_frozen HB3.out.flt 0
          have z1 : w3.cell? ⟨w.heap.size + 1, 1, none⟩ = some (.int .i64 0) := blk_cell HB3.out.flt 1
          have y1 := blk_frozen HB3.out.flt 1
          have z2 : w3.cell? ⟨w.heap.size + 1, 2, none⟩ = some (.int .i64 0) := blk_cell HB3.out.flt 2
          have y2 := blk_frozen HB3.out.flt 2
          go_wp2_with fail
          clear r0 s0 r1 s1 r2 s2 r3 s3 r4 s4 r5 s5 z0 y0 z1 y1 z2 y2
          obtain ⟨WF, hWF, hX, hY, hZ⟩ := ret_putN (w := w) (HB3.out.res) (HB3.out.flt) (HB3.out.below) (rk) (rn) (rx) (rl) (rc) (rnx) (fk) (fl) (fc)
          rw [hWF]
          clear hWF
          have q0 := blk_cell hX 0
          have q1 := blk_cell hX 1
          have q2 := blk_cell hX 2
          have q3 := blk_cell hX 3
          have q4 := blk_cell hX 4
          have q5 := blk_cell hX 5
          have u0 := blk_cell hY 0
          have u1 := blk_cell hY 1
          have u2 := blk_cell hY 2
          (try simp only [Exit.inBlock, Exit.then])
          refine bodyPost_ret (by simp [results, Tryd.results33, go_sem, q0, q1, q2, q3, q4, q5, u0, u1, u2]; rfl) rfl ?_
          exact ⟨by rw [HE.out, HF.out] <;> rfl, hZ⟩
      · have hlt3 : ¬ (p : Int) + 1 < (T.size : Nat) := by omega
        have HTN := Lib.hid (show twoP T (p + 1) ≠ 40 by rw [twoP, dif_neg hlt2]; decide)
        have HE := Lib.hid (show tokP T i ln cl = ((sharpL T p (T.data.toList.drop (p + 1))).1, ⟨(sharpL T p (T.data.toList.drop (p + 1))).2.1, (sharpL T p (T.data.toList.drop (p + 1))).2.2.1, [], l, c, (sharpL T p (T.data.toList.drop (p + 1))).2.2.2⟩) by rw [HTB.out, HX.out]; rw [tokX, oneP_35 HTN.out, if_neg (by decide), if_pos rfl])
        have cS := Lib.hid (fun w => refsharp_any T p l c ((p : Nat) + 1) w hlt hT)
        obtain ⟨rk, rn, rx, rl, rc, rnx, fk, fl, fc, hff⟩ := refRet_form ((sharpL T p (T.data.toList.drop (p + 1))).1, ⟨(sharpL T p (T.data.toList.drop (p + 1))).2.1, (sharpL T p (T.data.toList.drop (p + 1))).2.2.1, [], l, c, (sharpL T p (T.data.toList.drop (p + 1))).2.2.2⟩)
        rw [hff] at cS
        have HF := Lib.hid (hff)
        clear hff
        have t0 : w0.cell? ⟨tb, 0, none⟩ = some (.int .i64 0) := blk_cell HNB.out.tok 0
        have f0 := blk_frozen HNB.out.tok 0
        have t1 : w0.cell? ⟨tb, 1, none⟩ = some (.int .i64 0) := blk_cell HNB.out.tok 1
        have f1 := blk_frozen HNB.out.tok 1
        have t2 : w0.cell? ⟨tb, 2, none⟩ = some (.string ⟨#[]⟩) := blk_cell HNB.out.tok 2
        have f2 := blk_frozen HNB.out.tok 2
        have t3 : w0.cell? ⟨tb, 3, none⟩ = some (.int .i64 l) := blk_cell HNB.out.tok 3
        have f3 := blk_frozen HNB.out.tok 3
        have t4 : w0.cell? ⟨tb, 4, none⟩ = some (.int .i64 c) := blk_cell HNB.out.tok 4
        have f4 := blk_frozen HNB.out.tok 4
        have t5 : w0.cell? ⟨tb, 5, none⟩ = some (.int .i64 ((p : Nat) + 1)) := blk_cell HNB.out.tok 5
        have f5 := blk_frozen HNB.out.tok 5
        have r0 : w0.cell? ⟨w.heap.size, 0, none⟩ = some (.int .i64 0) := blk_cell HNB.out.res 0
        have s0 := blk_frozen HNB.out.res 0
        have r1 : w0.cell? ⟨w.heap.size, 1, none⟩ = some (.int .i64 0) := blk_cell HNB.out.res 1
        have s1 := blk_frozen HNB.out.res 1
        have r2 : w0.cell? ⟨w.heap.size, 2, none⟩ = some (.string ⟨#[]⟩) := blk_cell HNB.out.res 2
        have s2 := blk_frozen HNB.out.res 2
        have r3 : w0.cell? ⟨w.heap.size, 3, none⟩ = some (.int .i64 0) := blk_cell HNB.out.res 3
        have s3 := blk_frozen HNB.out.res 3
        have r4 : w0.cell? ⟨w.heap.size, 4, none⟩ = some (.int .i64 0) := blk_cell HNB.out.res 4
        have s4 := blk_frozen HNB.out.res 4
        have r5 : w0.cell? ⟨w.heap.size, 5, none⟩ = some (.int .i64 0) := blk_cell HNB.out.res 5
        have s5 := blk_frozen HNB.out.res 5
        have z0 : w0.cell? ⟨w.heap.size + 1, 0, none⟩ = some (.int .i64 0) := blk_cell HNB.out.flt 0
        have y0 := blk_frozen HNB.out.flt 0
        have z1 : w0.cell? ⟨w.heap.size + 1, 1, none⟩ = some (.int .i64 0) := blk_cell HNB.out.flt 1
        have y1 := blk_frozen HNB.out.flt 1
        have z2 : w0.cell? ⟨w.heap.size + 1, 2, none⟩ = some (.int .i64 0) := blk_cell HNB.out.flt 2
        have y2 := blk_frozen HNB.out.flt 2
        go_wp2_with fail
        refine (cS.out _).mono ?_
        rintro e w3 hw3
        obtain rfl := hw3.ret
        have HB3 := Lib.hid (HNB.out.step hw3.below)
        clear hw3 t0 f0 t1 f1 t2 f2 t3 f3 t4 f4 t5 f5 r0 s0 r1 s1 r2 s2 r3 s3 r4 s4 r5 s5 z0 y0 z1 y1 z2 y2
        have r0 : w3.cell? ⟨w.heap.size, 0, none⟩ = some (.int .i64 0) := blk_cell HB3.out.res 0
        have s0 := blk_frozen HB3.out.res 0
        have r1 : w3.cell? ⟨w.heap.size, 1, none⟩ = some (.int .i64 0) := blk_cell HB3.out.res 1
        have s1 := blk_frozen HB3.out.res 1
        have r2 : w3.cell? ⟨w.heap.size, 2, none⟩ = some (.string ⟨#[]⟩) := blk_cell HB3.out.res 2
        have s2 := blk_frozen HB3.out.res 2
        have r3 : w3.cell? ⟨w.heap.size, 3, none⟩ = some (.int .i64 0) := blk_cell HB3.out.res 3
        have s3 := blk_frozen HB3.out.res 3
        have r4 : w3.cell? ⟨w.heap.size, 4, none⟩ = some (.int .i64 0) := blk_cell HB3.out.res 4
        have s4 := blk_frozen HB3.out.res 4
        have r5 : w3.cell? ⟨w.heap.size, 5, none⟩ = some (.int .i64 0) := blk_cell HB3.out.res 5
        have s5 := blk_frozen HB3.out.res 5
        have z0 : w3.cell? ⟨w.heap.size + 1, 0, none⟩ = some (.int .i64 0) := blk_cell HB3.out.flt 0
        have y0 := blk_frozen HB3.out.flt 0
        have z1 : w3.cell? ⟨w.heap.size + 1, 1, none⟩ = some (.int .i64 0) := blk_cell HB3.out.flt 1
        have y1 := blk_frozen HB3.out.flt 1
        have z2 : w3.cell? ⟨w.heap.size + 1, 2, none⟩ = some (.int .i64 0) := blk_cell HB3.out.flt 2
        have y2 := blk_frozen HB3.out.flt 2
        go_wp2_with fail
        clear r0 s0 r1 s1 r2 s2 r3 s3 r4 s4 r5 s5 z0 y0 z1 y1 z2 y2
        obtain ⟨WF, hWF, hX, hY, hZ⟩ := ret_putN (w := w) (HB3.out.res) (HB3.out.flt) (HB3.out.below) (rk) (rn) (rx) (rl) (rc) (rnx) (fk) (fl) (fc)
        rw [hWF]
        clear hWF
        have q0 := blk_cell hX 0
        have q1 := blk_cell hX 1
        have q2 := blk_cell hX 2
        have q3 := blk_cell hX 3
        have q4 := blk_cell hX 4
        have q5 := blk_cell hX 5
        have u0 := blk_cell hY 0
        have u1 := blk_cell hY 1
        have u2 := blk_cell hY 2
        (try simp only [Exit.inBlock, Exit.then])
        refine bodyPost_ret (by simp [results, Tryd.results33, go_sem, q0, q1, q2, q3, q4, q5, u0, u1, u2]; rfl) rfl ?_
        exact ⟨by rw [HE.out, HF.out] <;> rfl, hZ⟩
    have b35 : ((x.toNat : Int) == 35) = false := u8ne (n := 35) (by omega) h35
    have p35 : ¬ (x.toNat : Int) = 35 := fun e => h35 ((byte_int x 35 (by omega)).1 e)
    by_cases h34 : x = 34
    · subst h34
      have HE := Lib.hid (show tokP T i ln cl = (strE (strP (T.data.toList.drop (p + 1)) [] (p + 1)), ⟨12, 0, (strP (T.data.toList.drop (p + 1)) [] (p + 1)).2.1, l, c, (strP (T.data.toList.drop (p + 1)) [] (p + 1)).2.2 + 1⟩) by rw [HTB.out, HX.out]; rw [tokX, show oneP 34 (twoP T (p + 1)) = (0, 0) from rfl, if_neg (by decide), if_neg (by decide), if_pos rfl])
      have cS := Lib.hid (fun w => refstr_any T p l c ((p : Nat) + 1) w hlt hT)
      obtain ⟨rk, rn, rx, rl, rc, rnx, fk, fl, fc, hff⟩ := refRet_form (strE (strP (T.data.toList.drop (p + 1)) [] (p + 1)), ⟨12, 0, (strP (T.data.toList.drop (p + 1)) [] (p + 1)).2.1, l, c, (strP (T.data.toList.drop (p + 1)) [] (p + 1)).2.2 + 1⟩)
      rw [hff] at cS
      have HF := Lib.hid (hff)
      clear hff
      have t0 : w0.cell? ⟨tb, 0, none⟩ = some (.int .i64 0) := blk_cell HNB.out.tok 0
      have f0 := blk_frozen HNB.out.tok 0
      have t1 : w0.cell? ⟨tb, 1, none⟩ = some (.int .i64 0) := blk_cell HNB.out.tok 1
      have f1 := blk_frozen HNB.out.tok 1
      have t2 : w0.cell? ⟨tb, 2, none⟩ = some (.string ⟨#[]⟩) := blk_cell HNB.out.tok 2
      have f2 := blk_frozen HNB.out.tok 2
      have t3 : w0.cell? ⟨tb, 3, none⟩ = some (.int .i64 l) := blk_cell HNB.out.tok 3
      have f3 := blk_frozen HNB.out.tok 3
      have t4 : w0.cell? ⟨tb, 4, none⟩ = some (.int .i64 c) := blk_cell HNB.out.tok 4
      have f4 := blk_frozen HNB.out.tok 4
      have t5 : w0.cell? ⟨tb, 5, none⟩ = some (.int .i64 ((p : Nat) + 1)) := blk_cell HNB.out.tok 5
      have f5 := blk_frozen HNB.out.tok 5
      have r0 : w0.cell? ⟨w.heap.size, 0, none⟩ = some (.int .i64 0) := blk_cell HNB.out.res 0
      have s0 := blk_frozen HNB.out.res 0
      have r1 : w0.cell? ⟨w.heap.size, 1, none⟩ = some (.int .i64 0) := blk_cell HNB.out.res 1
      have s1 := blk_frozen HNB.out.res 1
      have r2 : w0.cell? ⟨w.heap.size, 2, none⟩ = some (.string ⟨#[]⟩) := blk_cell HNB.out.res 2
      have s2 := blk_frozen HNB.out.res 2
      have r3 : w0.cell? ⟨w.heap.size, 3, none⟩ = some (.int .i64 0) := blk_cell HNB.out.res 3
      have s3 := blk_frozen HNB.out.res 3
      have r4 : w0.cell? ⟨w.heap.size, 4, none⟩ = some (.int .i64 0) := blk_cell HNB.out.res 4
      have s4 := blk_frozen HNB.out.res 4
      have r5 : w0.cell? ⟨w.heap.size, 5, none⟩ = some (.int .i64 0) := blk_cell HNB.out.res 5
      have s5 := blk_frozen HNB.out.res 5
      have z0 : w0.cell? ⟨w.heap.size + 1, 0, none⟩ = some (.int .i64 0) := blk_cell HNB.out.flt 0
      have y0 := blk_frozen HNB.out.flt 0
      have z1 : w0.cell? ⟨w.heap.size + 1, 1, none⟩ = some (.int .i64 0) := blk_cell HNB.out.flt 1
      have y1 := blk_frozen HNB.out.flt 1
      have z2 : w0.cell? ⟨w.heap.size + 1, 2, none⟩ = some (.int .i64 0) := blk_cell HNB.out.flt 2
      have y2 := blk_frozen HNB.out.flt 2
      go_wp2_with fail
      refine (cS.out _).mono ?_
      rintro e w3 hw3
      obtain rfl := hw3.ret
      have HB3 := Lib.hid (HNB.out.step hw3.below)
      clear hw3 t0 f0 t1 f1 t2 f2 t3 f3 t4 f4 t5 f5 r0 s0 r1 s1 r2 s2 r3 s3 r4 s4 r5 s5 z0 y0 z1 y1 z2 y2
      have r0 : w3.cell? ⟨w.heap.size, 0, none⟩ = some (.int .i64 0) := blk_cell HB3.out.res 0
      have s0 := blk_frozen HB3.out.res 0
      have r1 : w3.cell? ⟨w.heap.size, 1, none⟩ = some (.int .i64 0) := blk_cell HB3.out.res 1
      have s1 := blk_frozen HB3.out.res 1
      have r2 : w3.cell? ⟨w.heap.size, 2, none⟩ = some (.string ⟨#[]⟩) := blk_cell HB3.out.res 2
      have s2 := blk_frozen HB3.out.res 2
      have r3 : w3.cell? ⟨w.heap.size, 3, none⟩ = some (.int .i64 0) := blk_cell HB3.out.res 3
      have s3 := blk_frozen HB3.out.res 3
      have r4 : w3.cell? ⟨w.heap.size, 4, none⟩ = some (.int .i64 0) := blk_cell HB3.out.res 4
      have s4 := blk_frozen HB3.out.res 4
      have r5 : w3.cell? ⟨w.heap.size, 5, none⟩ = some (.int .i64 0) := blk_cell HB3.out.res 5
      have s5 := blk_frozen HB3.out.res 5
      have z0 : w3.cell? ⟨w.heap.size + 1, 0, none⟩ = some (.int .i64 0) := blk_cell HB3.out.flt 0
      have y0 := blk_frozen HB3.out.flt 0
      have z1 : w3.cell? ⟨w.heap.size + 1, 1, none⟩ = some (.int .i64 0) := blk_cell HB3.out.flt 1
      have y1 := blk_frozen HB3.out.flt 1
      have z2 : w3.cell? ⟨w.heap.size + 1, 2, none⟩ = some (.int .i64 0) := blk_cell HB3.out.flt 2
      have y2 := blk_frozen HB3.out.flt 2
      go_wp2_with fail
      clear r0 s0 r1 s1 r2 s2 r3 s3 r4 s4 r5 s5 z0 y0 z1 y1 z2 y2
      obtain ⟨WF, hWF, hX, hY, hZ⟩ := ret_putN (w := w) (HB3.out.res) (HB3.out.flt) (HB3.out.below) (rk) (rn) (rx) (rl) (rc) (rnx) (fk) (fl) (fc)
      rw [hWF]
      clear hWF
      have q0 := blk_cell hX 0
      have q1 := blk_cell hX 1
      have q2 := blk_cell hX 2
      have q3 := blk_cell hX 3
      have q4 := blk_cell hX 4
      have q5 := blk_cell hX 5
      have u0 := blk_cell hY 0
      have u1 := blk_cell hY 1
      have u2 := blk_cell hY 2
      (try simp only [Exit.inBlock, Exit.then])
      refine bodyPost_ret (by simp [results, Tryd.results33, go_sem, q0, q1, q2, q3, q4, q5, u0, u1, u2]; rfl) rfl ?_
      exact ⟨by rw [HE.out, HF.out] <;> rfl, hZ⟩
    have b34 : ((x.toNat : Int) == 34) = false := u8ne (n := 34) (by omega) h34
    have p34 : ¬ (x.toNat : Int) = 34 := fun e => h34 ((byte_int x 34 (by omega)).1 e)
    have HW := Lib.hid (show oneP x (twoP T (p + 1)) = (0, 0) from oneP_none h40 h41 h39 h96 h44 h35)
    have HN1 := Lib.hid h35
    have HN2 := Lib.hid h34
    clear h40 h41 h39 h96 h44 h35 h34
    have HE := Lib.hid (show tokP T i ln cl = (wordE (wordAt T p), ⟨(wordK (wordAt T p)).1, (wordK (wordAt T p)).2.1, (wordK (wordAt T p)).2.2, l, c, p + (wordAt T p).length⟩) by rw [HTB.out, HX.out]; rw [tokX, HW.out, if_neg (by decide), if_neg HN1.out, if_neg HN2.out])
    have cS := Lib.hid (fun w => refword_any T p l c ((p : Nat) + 1) w (Nat.le_of_lt hlt) hT)
    obtain ⟨rk, rn, rx, rl, rc, rnx, fk, fl, fc, hff⟩ := refRet_form (wordE (wordAt T p), ⟨(wordK (wordAt T p)).1, (wordK (wordAt T p)).2.1, (wordK (wordAt T p)).2.2, l, c, p + (wordAt T p).length⟩)
    rw [hff] at cS
    have HF := Lib.hid (hff)
    clear hff
    have t0 : w0.cell? ⟨tb, 0, none⟩ = some (.int .i64 0) := blk_cell HNB.out.tok 0
    have f0 := blk_frozen HNB.out.tok 0
    have t1 : w0.cell? ⟨tb, 1, none⟩ = some (.int .i64 0) := blk_cell HNB.out.tok 1
    have f1 := blk_frozen HNB.out.tok 1
    have t2 : w0.cell? ⟨tb, 2, none⟩ = some (.string ⟨#[]⟩) := blk_cell HNB.out.tok 2
    have f2 := blk_frozen HNB.out.tok 2
    have t3 : w0.cell? ⟨tb, 3, none⟩ = some (.int .i64 l) := blk_cell HNB.out.tok 3
    have f3 := blk_frozen HNB.out.tok 3
    have t4 : w0.cell? ⟨tb, 4, none⟩ = some (.int .i64 c) := blk_cell HNB.out.tok 4
    have f4 := blk_frozen HNB.out.tok 4
    have t5 : w0.cell? ⟨tb, 5, none⟩ = some (.int .i64 ((p : Nat) + 1)) := blk_cell HNB.out.tok 5
    have f5 := blk_frozen HNB.out.tok 5
    have r0 : w0.cell? ⟨w.heap.size, 0, none⟩ = some (.int .i64 0) := blk_cell HNB.out.res 0
    have s0 := blk_frozen HNB.out.res 0
    have r1 : w0.cell? ⟨w.heap.size, 1, none⟩ = some (.int .i64 0) := blk_cell HNB.out.res 1
    have s1 := blk_frozen HNB.out.res 1
    have r2 : w0.cell? ⟨w.heap.size, 2, none⟩ = some (.string ⟨#[]⟩) := blk_cell HNB.out.res 2
    have s2 := blk_frozen HNB.out.res 2
    have r3 : w0.cell? ⟨w.heap.size, 3, none⟩ = some (.int .i64 0) := blk_cell HNB.out.res 3
    have s3 := blk_frozen HNB.out.res 3
    have r4 : w0.cell? ⟨w.heap.size, 4, none⟩ = some (.int .i64 0) := blk_cell HNB.out.res 4
    have s4 := blk_frozen HNB.out.res 4
    have r5 : w0.cell? ⟨w.heap.size, 5, none⟩ = some (.int .i64 0) := blk_cell HNB.out.res 5
    have s5 := blk_frozen HNB.out.res 5
    have z0 : w0.cell? ⟨w.heap.size + 1, 0, none⟩ = some (.int .i64 0) := blk_cell HNB.out.flt 0
    have y0 := blk_frozen HNB.out.flt 0
    have z1 : w0.cell? ⟨w.heap.size + 1, 1, none⟩ = some (.int .i64 0) := blk_cell HNB.out.flt 1
    have y1 := blk_frozen HNB.out.flt 1
    have z2 : w0.cell? ⟨w.heap.size + 1, 2, none⟩ = some (.int .i64 0) := blk_cell HNB.out.flt 2
    have y2 := blk_frozen HNB.out.flt 2
    go_wp2_with fail
    refine (cS.out _).mono ?_
    rintro e w3 hw3
    obtain rfl := hw3.ret
    have HB3 := Lib.hid (HNB.out.step hw3.below)
    clear hw3 t0 f0 t1 f1 t2 f2 t3 f3 t4 f4 t5 f5 r0 s0 r1 s1 r2 s2 r3 s3 r4 s4 r5 s5 z0 y0 z1 y1 z2 y2
    have r0 : w3.cell? ⟨w.heap.size, 0, none⟩ = some (.int .i64 0) := blk_cell HB3.out.res 0
    have s0 := blk_frozen HB3.out.res 0
    have r1 : w3.cell? ⟨w.heap.size, 1, none⟩ = some (.int .i64 0) := blk_cell HB3.out.res 1
    have s1 := blk_frozen HB3.out.res 1
    have r2 : w3.cell? ⟨w.heap.size, 2, none⟩ = some (.string ⟨#[]⟩) := blk_cell HB3.out.res 2
    have s2 := blk_frozen HB3.out.res 2
    have r3 : w3.cell? ⟨w.heap.size, 3, none⟩ = some (.int .i64 0) := blk_cell HB3.out.res 3
    have s3 := blk_frozen HB3.out.res 3
    have r4 : w3.cell? ⟨w.heap.size, 4, none⟩ = some (.int .i64 0) := blk_cell HB3.out.res 4
    have s4 := blk_frozen HB3.out.res 4
    have r5 : w3.cell? ⟨w.heap.size, 5, none⟩ = some (.int .i64 0) := blk_cell HB3.out.res 5
    have s5 := blk_frozen HB3.out.res 5
    have z0 : w3.cell? ⟨w.heap.size + 1, 0, none⟩ = some (.int .i64 0) := blk_cell HB3.out.flt 0
    have y0 := blk_frozen HB3.out.flt 0
    have z1 : w3.cell? ⟨w.heap.size + 1, 1, none⟩ = some (.int .i64 0) := blk_cell HB3.out.flt 1
    have y1 := blk_frozen HB3.out.flt 1
    have z2 : w3.cell? ⟨w.heap.size + 1, 2, none⟩ = some (.int .i64 0) := blk_cell HB3.out.flt 2
    have y2 := blk_frozen HB3.out.flt 2
    go_wp2_with fail
    clear r0 s0 r1 s1 r2 s2 r3 s3 r4 s4 r5 s5 z0 y0 z1 y1 z2 y2
    obtain ⟨WF, hWF, hX, hY, hZ⟩ := ret_putN (w := w) (HB3.out.res) (HB3.out.flt) (HB3.out.below) (rk) (rn) (rx) (rl) (rc) (rnx) (fk) (fl) (fc)
    rw [hWF]
    clear hWF
    have q0 := blk_cell hX 0
    have q1 := blk_cell hX 1
    have q2 := blk_cell hX 2
    have q3 := blk_cell hX 3
    have q4 := blk_cell hX 4
    have q5 := blk_cell hX 5
    have u0 := blk_cell hY 0
    have u1 := blk_cell hY 1
    have u2 := blk_cell hY 2
    (try simp only [Exit.inBlock, Exit.then])
    refine bodyPost_ret (by simp [results, Tryd.results33, go_sem, q0, q1, q2, q3, q4, q5, u0, u1, u2]; rfl) rfl ?_
    exact ⟨by rw [HE.out, HF.out] <;> rfl, hZ⟩
  · obtain rfl : p = T.size := by omega
    have HE := Lib.hid (show tokP T i ln cl = (0, ⟨14, 0, [], l, c, T.size⟩) by rw [HP.out, tokB, dif_neg (by omega)])
    have t0 : w0.cell? ⟨tb, 0, none⟩ = some (.int .i64 0) := blk_cell HNB.out.tok 0
    have f0 := blk_frozen HNB.out.tok 0
    have t1 : w0.cell? ⟨tb, 1, none⟩ = some (.int .i64 0) := blk_cell HNB.out.tok 1
    have f1 := blk_frozen HNB.out.tok 1
    have t2 : w0.cell? ⟨tb, 2, none⟩ = some (.string ⟨#[]⟩) := blk_cell HNB.out.tok 2
    have f2 := blk_frozen HNB.out.tok 2
    have t3 : w0.cell? ⟨tb, 3, none⟩ = some (.int .i64 l) := blk_cell HNB.out.tok 3
    have f3 := blk_frozen HNB.out.tok 3
    have t4 : w0.cell? ⟨tb, 4, none⟩ = some (.int .i64 c) := blk_cell HNB.out.tok 4
    have f4 := blk_frozen HNB.out.tok 4
    have t5 : w0.cell? ⟨tb, 5, none⟩ = some (.int .i64 ((T.size : Nat) + 1)) := blk_cell HNB.out.tok 5
    have f5 := blk_frozen HNB.out.tok 5
    have r0 : w0.cell? ⟨w.heap.size, 0, none⟩ = some (.int .i64 0) := blk_cell HNB.out.res 0
    have s0 := blk_frozen HNB.out.res 0
    have r1 : w0.cell? ⟨w.heap.size, 1, none⟩ = some (.int .i64 0) := blk_cell HNB.out.res 1
    have s1 := blk_frozen HNB.out.res 1
    have r2 : w0.cell? ⟨w.heap.size, 2, none⟩ = some (.string ⟨#[]⟩) := blk_cell HNB.out.res 2
    have s2 := blk_frozen HNB.out.res 2
    have r3 : w0.cell? ⟨w.heap.size, 3, none⟩ = some (.int .i64 0) := blk_cell HNB.out.res 3
    have s3 := blk_frozen HNB.out.res 3
    have r4 : w0.cell? ⟨w.heap.size, 4, none⟩ = some (.int .i64 0) := blk_cell HNB.out.res 4
    have s4 := blk_frozen HNB.out.res 4
    have r5 : w0.cell? ⟨w.heap.size, 5, none⟩ = some (.int .i64 0) := blk_cell HNB.out.res 5
    have s5 := blk_frozen HNB.out.res 5
    have z0 : w0.cell? ⟨w.heap.size + 1, 0, none⟩ = some (.int .i64 0) := blk_cell HNB.out.flt 0
    have y0 := blk_frozen HNB.out.flt 0
    have z1 : w0.cell? ⟨w.heap.size + 1, 1, none⟩ = some (.int .i64 0) := blk_cell HNB.out.flt 1
    have y1 := blk_frozen HNB.out.flt 1
    have z2 : w0.cell? ⟨w.heap.size + 1, 2, none⟩ = some (.int .i64 0) := blk_cell HNB.out.flt 2
    have y2 := blk_frozen HNB.out.flt 2
    go_wp2_with fail
    clear t0 f0 t1 f1 t2 f2 t3 f3 t4 f4 t5 f5 r0 s0 r1 s1 r2 s2 r3 s3 r4 s4 r5 s5 z0 y0 z1 y1 z2 y2
    obtain ⟨WF, hWF, hX, hY, hZ⟩ := ret_putN (w := w) (blk_far (blk_far (HNB.out.res) (by show w.heap.size ≠ tb; omega) _) (by show w.heap.size ≠ tb; omega) _) (blk_far (blk_far (HNB.out.flt) (by show w.heap.size + 1 ≠ tb; omega) _) (by show w.heap.size + 1 ≠ tb; omega) _) (below_set (below_set (HNB.out.below) (by omega)) (by omega)) (14) (0) (⟨#[]⟩) (l) (c) ((T.size : Nat)) (0) (0) (0)
    rw [hWF]
    clear hWF
    have q0 := blk_cell hX 0
    have q1 := blk_cell hX 1
    have q2 := blk_cell hX 2
    have q3 := blk_cell hX 3
    have q4 := blk_cell hX 4
    have q5 := blk_cell hX 5
    have u0 := blk_cell hY 0
    have u1 := blk_cell hY 1
    have u2 := blk_cell hY 2
    (try simp only [Exit.inBlock, Exit.then])
    refine bodyPost_ret (by simp [results, Tryd.results33, go_sem, q0, q1, q2, q3, q4, q5, u0, u1, u2]; rfl) rfl ?_
    exact ⟨by rw [HE.out]; rfl, hZ⟩
end Go.Proofs.YthighbbikpnpgaaDoor
