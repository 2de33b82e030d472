/-
  The reference's word.
-/
import Derived.Test.YthighbbikpnpgaaDoorLrB
import Derived.Test.YthighbbikpnpgaaDoorLxD
import Derived.Test.YthighbbikpnpgaaDoorLB5
import Derived.Handy
namespace Go.Proofs.YthighbbikpnpgaaDoor
open Go.RowKit Go.Proofs.YthighbbikpnpgaaDoorW.PrintWords

def refRet (R : Int × TokR) : Value := .tuple (if R.1 = 0 then #[tokV R.2, faultV 0 0 0] else #[tokV tok0, faultV R.1 R.2.ln R.2.cl])

def FltAt (b : Nat) (k l c : Int) (w : World) : Prop := w.heap[b]? = some (.cells #[.int .i64 k, .int .i64 l, .int .i64 c] 64 (0, 0))

/-- The three blocks that the reference's functions of a token begin with. -/
structure Blks (w : World) (k n : Int) (x : ByteArray) (l c nx : Int) (w' : World) : Prop where
  tok : TokAt w.heap.size k n x l c nx w'
  res : TokAt (w.heap.size + 1) 0 0 ⟨#[]⟩ 0 0 0 w'
  flt : FltAt (w.heap.size + 1 + 1) 0 0 0 w'
  below : Below w.heap.size w w'
theorem Blks.step {w w1 w2 : World} {k n : Int} {x : ByteArray} {l c nx : Int} (h : Blks w k n x l c nx w1) (hb : Below w1.heap.size w1 w2) : Blks w k n x l c nx w2 :=
  ⟨blk_below h.tok hb, blk_below h.res hb, blk_below h.flt hb, below_step h.below hb⟩
theorem blks_start (w : World) (k n : Int) (x : ByteArray) (l c nx : Int) : Blks w k n x l c nx (((w.alloc (.cells #[.int .i64 k, .int .i64 n, .string x, .int .i64 l, .int .i64 c, .int .i64 nx] TT)).alloc (.cells #[.int .i64 0, .int .i64 0, .string ⟨#[]⟩, .int .i64 0, .int .i64 0, .int .i64 0] TT)).alloc (.cells #[.int .i64 0, .int .i64 0, .int .i64 0] 64)) := by
  refine ⟨blk_alloc (blk_alloc (blk_new w _) _) _, ?_, ?_, below_alloc (below_alloc (below_alloc (Below.refl _ _) _) _) _⟩
  · refine blk_alloc ?_ _
    have := blk_new (w.alloc (.cells #[.int .i64 k, .int .i64 n, .string x, .int .i64 l, .int .i64 c, .int .i64 nx] TT)) (.cells #[.int .i64 0, .int .i64 0, .string ⟨#[]⟩, .int .i64 0, .int .i64 0, .int .i64 0] TT (0, 0))
    rw [show (w.alloc (.cells #[.int .i64 k, .int .i64 n, .string x, .int .i64 l, .int .i64 c, .int .i64 nx] TT)).heap.size = w.heap.size + 1 by simp] at this
    exact this
  · have := blk_new ((w.alloc (.cells #[.int .i64 k, .int .i64 n, .string x, .int .i64 l, .int .i64 c, .int .i64 nx] TT)).alloc (.cells #[.int .i64 0, .int .i64 0, .string ⟨#[]⟩, .int .i64 0, .int .i64 0, .int .i64 0] TT)) (.cells #[.int .i64 0, .int .i64 0, .int .i64 0] 64 (0, 0))
    rw [show ((w.alloc (.cells #[.int .i64 k, .int .i64 n, .string x, .int .i64 l, .int .i64 c, .int .i64 nx] TT)).alloc (.cells #[.int .i64 0, .int .i64 0, .string ⟨#[]⟩, .int .i64 0, .int .i64 0, .int .i64 0] TT)).heap.size = w.heap.size + 1 + 1 by simp] at this
    exact this

theorem ret_put {w W : World} (hr : TokAt (w.heap.size + 1) 0 0 ⟨#[]⟩ 0 0 0 W) (hf : FltAt (w.heap.size + 1 + 1) 0 0 0 W) (hb : Below w.heap.size w W) (k n : Int) (x : ByteArray) (l c nx fk fl fc : Int) :
    ∃ WF, (((((((((W.setCell ⟨w.heap.size + 1, 0, none⟩ (.int .i64 k)).setCell ⟨w.heap.size + 1, 1, none⟩ (.int .i64 n)).setCell ⟨w.heap.size + 1, 2, none⟩ (.string x)).setCell ⟨w.heap.size + 1, 3, none⟩ (.int .i64 l)).setCell ⟨w.heap.size + 1, 4, none⟩ (.int .i64 c)).setCell ⟨w.heap.size + 1, 5, none⟩ (.int .i64 nx)).setCell ⟨w.heap.size + 1 + 1, 0, none⟩ (.int .i64 fk)).setCell ⟨w.heap.size + 1 + 1, 1, none⟩ (.int .i64 fl)).setCell ⟨w.heap.size + 1 + 1, 2, none⟩ (.int .i64 fc)) = WF ∧
      TokAt (w.heap.size + 1) k n x l c nx WF ∧ FltAt (w.heap.size + 1 + 1) fk fl fc WF ∧ Below w.heap.size w WF := by
  refine ⟨_, rfl, ?_, ?_, ?_⟩
  · exact blk_far (blk_far (blk_far (tok_put hr k n x l c nx) (by simp) _) (by simp) _) (by simp) _
  · have h6 : FltAt (w.heap.size + 1 + 1) 0 0 0 ((((((W.setCell ⟨w.heap.size + 1, 0, none⟩ (.int .i64 k)).setCell ⟨w.heap.size + 1, 1, none⟩ (.int .i64 n)).setCell ⟨w.heap.size + 1, 2, none⟩ (.string x)).setCell ⟨w.heap.size + 1, 3, none⟩ (.int .i64 l)).setCell ⟨w.heap.size + 1, 4, none⟩ (.int .i64 c)).setCell ⟨w.heap.size + 1, 5, none⟩ (.int .i64 nx)) :=
      blk_far (blk_far (blk_far (blk_far (blk_far (blk_far hf (by simp) _) (by simp) _) (by simp) _) (by simp) _) (by simp) _) (by simp) _
    exact blk_put (blk_put (blk_put h6 0 _ rfl) 1 _ rfl) 2 _ rfl
  · exact below_set (below_set (below_set (below_set (below_set (below_set (below_set (below_set (below_set hb (by omega)) (by omega)) (by omega)) (by omega)) (by omega)) (by omega)) (by omega)) (by omega)) (by omega)

set_option maxRecDepth 400000 in
set_option maxHeartbeats 8000000 in
theorem refword_any (T : ByteArray) (i : Nat) (tl tc nx0 : Int) (w : World) (hi : i ≤ T.size) (hT : T.size ≤ 1000000000) :
    Calls Tryd.prog 69 #[.string T, .int .i64 (i : Nat), .agg #[.int .i64 0, .int .i64 0, .string ⟨#[]⟩, .int .i64 tl, .int .i64 tc, .int .i64 nx0]] w (NextTo (refRet (wordE (wordAt T i), ⟨(wordK (wordAt T i)).1, (wordK (wordAt T i)).2.1, (wordK (wordAt T i)).2.2, tl, tc, i + (wordAt T i).length⟩)) w) := by
  obtain ⟨R, hR⟩ : ∃ R : Int × TokR, (wordE (wordAt T i), ⟨(wordK (wordAt T i)).1, (wordK (wordAt T i)).2.1, (wordK (wordAt T i)).2.2, tl, tc, i + (wordAt T i).length⟩) = R := ⟨_, rfl⟩
  rw [hR]
  have HR := Lib.hid hR
  have HT := Lib.hid hT
  clear hR
  go_enter Tryd.func69, Tryd.ntmps69
  go_wp2_with fail
  have HB0 := Lib.hid (blks_start w 0 0 ⟨#[]⟩ tl tc nx0)
  generalize (((w.alloc (.cells #[.int .i64 0, .int .i64 0, .string ⟨#[]⟩, .int .i64 tl, .int .i64 tc, .int .i64 nx0] TT)).alloc (.cells #[.int .i64 0, .int .i64 0, .string ⟨#[]⟩, .int .i64 0, .int .i64 0, .int .i64 0] TT)).alloc (.cells #[.int .i64 0, .int .i64 0, .int .i64 0] 64)) = w0 at HB0 ⊢
  go_loopg [8] (T.size - i) (fun gk v w' => ∃ (p : Nat), v = .int .i64 (p : Nat) ∧ gk = T.size - p ∧ i ≤ p ∧ p ≤ T.size ∧ Hid (((T.data.toList.drop i).take (p - i)).all (fun c => !endB c) = true) ∧ Hid (Blks w 0 0 ⟨#[]⟩ tl tc nx0 w'))
  case atStart => exact ⟨i, rfl, rfl, Nat.le_refl _, hi, Lib.hid (by simp), HB0⟩
  case round =>
    clear HB0
    obtain ⟨p, rfl, rfl, hip, hpT, HA, HB⟩ := hrel
    have hTT := HT.out
    have hE : endAt T p = true ∨ endAt T p = false := by cases endAt T p <;> simp
    rcases hE with hE | hE
    · have hend := Lib.hid hE
      have HW := Lib.hid (show (T.data.toList.drop i).take (p - i) = wordAt T i from by
        refine (takeWhile_stop _ _ HA.out fun hh => ?_).symm
        rw [List.length_drop] at hh
        have hp : p < T.size := by
          have : T.data.toList.length = T.size := by simp
          omega
        rw [endAt, dif_pos hp] at hE
        rw [List.getElem_drop]
        have e : T.data.toList[i + (p - i)]'(by have : T.data.toList.length = T.size := by simp
                                                omega) = T[p]'hp := by
          have e1 : i + (p - i) = p := by omega
          simp only [e1]
          rfl
        rw [e, hE]
        rfl)
      have cE := Lib.hid (fun w => refends_any T p w)
      rw [hE] at cE
      clear hE
      go_wp2_with fail
      refine (cE.out _).mono ?_
      rintro e w' ⟨rfl, rfl⟩
      obtain ⟨S, hS⟩ : ∃ S, T.extract i p = S := ⟨_, rfl⟩
      have HSL := Lib.hid (show S.data.toList = wordAt T i by rw [← hS, ← HW.out, extract_list])
      have HPL := Lib.hid (show p = i + (wordAt T i).length by
        rw [← HW.out, List.length_take, List.length_drop]
        have : T.data.toList.length = T.size := by simp
        omega)
      have j1 : (i : Int) ≤ (p : Nat) := by omega
      have j2 : (p : Int) ≤ (T.size : Nat) := by omega
      have HB1 := Lib.hid (show Blks w 0 0 ⟨#[]⟩ tl tc (p : Nat) (w'.setCell ⟨w.heap.size, 5, none⟩ (.int .i64 (p : Nat))) from
        ⟨blk_put HB.out.tok 5 _ rfl, blk_far HB.out.res (by simp) _, blk_far HB.out.flt (by simp <;> omega) _, below_set HB.out.below (Nat.le_refl _)⟩)
      by_cases hdot : wordAt T i = [46]
      · obtain rfl : S = ⟨#[46]⟩ := by apply ByteArray.ext; apply Array.ext'; rw [HSL.out, hdot]
        have HD := Lib.hid hdot
        clear hdot
        have t0 : w'.cell? ⟨w.heap.size, 0, none⟩ = some (.int .i64 0) := blk_cell HB.out.tok 0
        have f0 := blk_frozen HB.out.tok 0
        have t1 : w'.cell? ⟨w.heap.size, 1, none⟩ = some (.int .i64 0) := blk_cell HB.out.tok 1
        have f1 := blk_frozen HB.out.tok 1
        have t2 : w'.cell? ⟨w.heap.size, 2, none⟩ = some (.string ⟨#[]⟩) := blk_cell HB.out.tok 2
        have f2 := blk_frozen HB.out.tok 2
        have t3 : w'.cell? ⟨w.heap.size, 3, none⟩ = some (.int .i64 tl) := blk_cell HB.out.tok 3
        have f3 := blk_frozen HB.out.tok 3
        have t4 : w'.cell? ⟨w.heap.size, 4, none⟩ = some (.int .i64 tc) := blk_cell HB.out.tok 4
        have f4 := blk_frozen HB.out.tok 4
        have t5 : w'.cell? ⟨w.heap.size, 5, none⟩ = some (.int .i64 nx0) := blk_cell HB.out.tok 5
        have f5 := blk_frozen HB.out.tok 5
        have r0 : w'.cell? ⟨w.heap.size + 1, 0, none⟩ = some (.int .i64 0) := blk_cell HB.out.res 0
        have s0 := blk_frozen HB.out.res 0
        have r1 : w'.cell? ⟨w.heap.size + 1, 1, none⟩ = some (.int .i64 0) := blk_cell HB.out.res 1
        have s1 := blk_frozen HB.out.res 1
        have r2 : w'.cell? ⟨w.heap.size + 1, 2, none⟩ = some (.string ⟨#[]⟩) := blk_cell HB.out.res 2
        have s2 := blk_frozen HB.out.res 2
        have r3 : w'.cell? ⟨w.heap.size + 1, 3, none⟩ = some (.int .i64 0) := blk_cell HB.out.res 3
        have s3 := blk_frozen HB.out.res 3
        have r4 : w'.cell? ⟨w.heap.size + 1, 4, none⟩ = some (.int .i64 0) := blk_cell HB.out.res 4
        have s4 := blk_frozen HB.out.res 4
        have r5 : w'.cell? ⟨w.heap.size + 1, 5, none⟩ = some (.int .i64 0) := blk_cell HB.out.res 5
        have s5 := blk_frozen HB.out.res 5
        have z0 : w'.cell? ⟨w.heap.size + 1 + 1, 0, none⟩ = some (.int .i64 0) := blk_cell HB.out.flt 0
        have y0 := blk_frozen HB.out.flt 0
        have z1 : w'.cell? ⟨w.heap.size + 1 + 1, 1, none⟩ = some (.int .i64 0) := blk_cell HB.out.flt 1
        have y1 := blk_frozen HB.out.flt 1
        have z2 : w'.cell? ⟨w.heap.size + 1 + 1, 2, none⟩ = some (.int .i64 0) := blk_cell HB.out.flt 2
        have y2 := blk_frozen HB.out.flt 2
        go_wp2_with fail
        clear t0 t1 t2 t3 t4 t5 f0 f1 f2 f3 f4 f5 r0 s0 r1 s1 r2 s2 r3 s3 r4 s4 r5 s5 z0 y0 z1 y1 z2 y2
        obtain ⟨WF, hWF, hX, hY, hZ⟩ := ret_put (w := w) (blk_far HB1.out.res (by simp) _) (blk_far HB1.out.flt (by simp <;> omega) _) (below_set HB1.out.below (Nat.le_refl _)) (8) (0) (⟨#[]⟩) (tl) (tc) ((p : Nat)) (0) (0) (0)
        rw [hWF]
        clear hWF
        have q0 := blk_cell hX 0
        have q1 := blk_cell hX 1
        have q2 := blk_cell hX 2
        have q3 := blk_cell hX 3
        have q4 := blk_cell hX 4
        have q5 := blk_cell hX 5
        have u0 := blk_cell hY 0
        have u1 := blk_cell hY 1
        have u2 := blk_cell hY 2
        (try simp only [Exit.inBlock, Exit.then])
        refine bodyPost_ret (by simp [results, Tryd.results69, go_sem, q0, q1, q2, q3, q4, q5, u0, u1, u2]; rfl) rfl ?_
        exact ⟨by rw [← HR.out, ← HPL.out, HD.out]; rfl, hZ⟩
      · have hSne : ¬ S.toList = [46] := by rw [ByteArray.toList_eq, HSL.out]; exact hdot
        have hSnb : (S.toList == [46]) = false := by simpa using hSne
        have HD := Lib.hid hdot
        have hlen : S.data.toList.length ≤ 4611686018427387904 := by
          rw [HSL.out, ← HW.out, List.length_take]; omega
        have cD := Lib.hid (fun w => refdigits_any S hlen w)
        have cP := Lib.hid (fun w => refparse_any S w)
        have cY := Lib.hid (fun w => refsymbol_any S w)
        rw [HSL.out] at cD cP cY
        have t5 : w'.cell? ⟨w.heap.size, 5, none⟩ = some (.int .i64 nx0) := blk_cell HB.out.tok 5
        have f5 := blk_frozen HB.out.tok 5
        clear hdot hlen
        go_wp2_with fail
        refine (cD.out _).mono ?_
        rintro e w2 ⟨rfl, rfl⟩
        clear t5 f5 hS
        generalize w'.setCell ⟨w.heap.size, 5, none⟩ (.int .i64 (p : Nat)) = w4 at HB1 ⊢
        have hok : okL (bodyL (wordAt T i)) = true ∨ okL (bodyL (wordAt T i)) = false := by cases okL (bodyL (wordAt T i)) <;> simp
        rcases hok with hok | hok
        · rw [hok]
          have hpc : (parseL (wordAt T i)).2 = 0 ∨ (parseL (wordAt T i)).2 = 11 := by
            rw [parseL, if_pos hok]
            exact fitL_code _
          obtain ⟨⟨n, cd⟩, hn⟩ : ∃ x, parseL (wordAt T i) = x := ⟨_, rfl⟩
          have HN := Lib.hid hn
          rw [hn] at cP hpc
          simp only at hpc
          clear hok hn
          go_wp2_with fail
          refine (cP.out _).mono ?_
          rintro e w5 ⟨rfl, hb5⟩
          have HB5 := Lib.hid (HB1.out.step hb5)
          clear hb5
          rcases hpc with rfl | rfl
          · rw [show refV (n, 0) = .tuple #[.int .i64 n, .int .i64 0] from rfl]
            have t0 : w5.cell? ⟨w.heap.size, 0, none⟩ = some (.int .i64 0) := blk_cell HB5.out.tok 0
            have f0 := blk_frozen HB5.out.tok 0
            have t1 : w5.cell? ⟨w.heap.size, 1, none⟩ = some (.int .i64 0) := blk_cell HB5.out.tok 1
            have f1 := blk_frozen HB5.out.tok 1
            have t2 : w5.cell? ⟨w.heap.size, 2, none⟩ = some (.string ⟨#[]⟩) := blk_cell HB5.out.tok 2
            have f2 := blk_frozen HB5.out.tok 2
            have t3 : w5.cell? ⟨w.heap.size, 3, none⟩ = some (.int .i64 tl) := blk_cell HB5.out.tok 3
            have f3 := blk_frozen HB5.out.tok 3
            have t4 : w5.cell? ⟨w.heap.size, 4, none⟩ = some (.int .i64 tc) := blk_cell HB5.out.tok 4
            have f4 := blk_frozen HB5.out.tok 4
            have t5 : w5.cell? ⟨w.heap.size, 5, none⟩ = some (.int .i64 (p : Nat)) := blk_cell HB5.out.tok 5
            have f5 := blk_frozen HB5.out.tok 5
            have r0 : w5.cell? ⟨w.heap.size + 1, 0, none⟩ = some (.int .i64 0) := blk_cell HB5.out.res 0
            have s0 := blk_frozen HB5.out.res 0
            have r1 : w5.cell? ⟨w.heap.size + 1, 1, none⟩ = some (.int .i64 0) := blk_cell HB5.out.res 1
            have s1 := blk_frozen HB5.out.res 1
            have r2 : w5.cell? ⟨w.heap.size + 1, 2, none⟩ = some (.string ⟨#[]⟩) := blk_cell HB5.out.res 2
            have s2 := blk_frozen HB5.out.res 2
            have r3 : w5.cell? ⟨w.heap.size + 1, 3, none⟩ = some (.int .i64 0) := blk_cell HB5.out.res 3
            have s3 := blk_frozen HB5.out.res 3
            have r4 : w5.cell? ⟨w.heap.size + 1, 4, none⟩ = some (.int .i64 0) := blk_cell HB5.out.res 4
            have s4 := blk_frozen HB5.out.res 4
            have r5 : w5.cell? ⟨w.heap.size + 1, 5, none⟩ = some (.int .i64 0) := blk_cell HB5.out.res 5
            have s5 := blk_frozen HB5.out.res 5
            have z0 : w5.cell? ⟨w.heap.size + 1 + 1, 0, none⟩ = some (.int .i64 0) := blk_cell HB5.out.flt 0
            have y0 := blk_frozen HB5.out.flt 0
            have z1 : w5.cell? ⟨w.heap.size + 1 + 1, 1, none⟩ = some (.int .i64 0) := blk_cell HB5.out.flt 1
            have y1 := blk_frozen HB5.out.flt 1
            have z2 : w5.cell? ⟨w.heap.size + 1 + 1, 2, none⟩ = some (.int .i64 0) := blk_cell HB5.out.flt 2
            have y2 := blk_frozen HB5.out.flt 2
            go_wp2_with fail
            clear t0 t1 t2 t3 t4 t5 f0 f1 f2 f3 f4 f5 r0 s0 r1 s1 r2 s2 r3 s3 r4 s4 r5 s5 z0 y0 z1 y1 z2 y2
            obtain ⟨WF, hWF, hX, hY, hZ⟩ := ret_put (w := w) (blk_far (blk_far HB5.out.res (by simp) _) (by simp) _) (blk_far (blk_far HB5.out.flt (by simp <;> omega) _) (by simp <;> omega) _) (below_set (below_set HB5.out.below (Nat.le_refl _)) (Nat.le_refl _)) (9) (n) (⟨#[]⟩) (tl) (tc) ((p : Nat)) (0) (0) (0)
            rw [hWF]
            clear hWF
            have q0 := blk_cell hX 0
            have q1 := blk_cell hX 1
            have q2 := blk_cell hX 2
            have q3 := blk_cell hX 3
            have q4 := blk_cell hX 4
            have q5 := blk_cell hX 5
            have u0 := blk_cell hY 0
            have u1 := blk_cell hY 1
            have u2 := blk_cell hY 2
            (try simp only [Exit.inBlock, Exit.then])
            refine bodyPost_ret (by simp [results, Tryd.results69, go_sem, q0, q1, q2, q3, q4, q5, u0, u1, u2]; rfl) rfl ?_
            exact ⟨by rw [← HR.out, ← HPL.out, wordE, if_neg HD.out, wordK, if_neg HD.out, HN.out]; rfl, hZ⟩
          · rw [show refV (n, 11) = .tuple #[.int .i64 n, .int .i64 11] from rfl]
            have t0 : w5.cell? ⟨w.heap.size, 0, none⟩ = some (.int .i64 0) := blk_cell HB5.out.tok 0
            have t1 : w5.cell? ⟨w.heap.size, 1, none⟩ = some (.int .i64 0) := blk_cell HB5.out.tok 1
            have t2 : w5.cell? ⟨w.heap.size, 2, none⟩ = some (.string ⟨#[]⟩) := blk_cell HB5.out.tok 2
            have t3 : w5.cell? ⟨w.heap.size, 3, none⟩ = some (.int .i64 tl) := blk_cell HB5.out.tok 3
            have t4 : w5.cell? ⟨w.heap.size, 4, none⟩ = some (.int .i64 tc) := blk_cell HB5.out.tok 4
            have t5 : w5.cell? ⟨w.heap.size, 5, none⟩ = some (.int .i64 (p : Nat)) := blk_cell HB5.out.tok 5
            have r0 : w5.cell? ⟨w.heap.size + 1, 0, none⟩ = some (.int .i64 0) := blk_cell HB5.out.res 0
            have s0 := blk_frozen HB5.out.res 0
            have r1 : w5.cell? ⟨w.heap.size + 1, 1, none⟩ = some (.int .i64 0) := blk_cell HB5.out.res 1
            have s1 := blk_frozen HB5.out.res 1
            have r2 : w5.cell? ⟨w.heap.size + 1, 2, none⟩ = some (.string ⟨#[]⟩) := blk_cell HB5.out.res 2
            have s2 := blk_frozen HB5.out.res 2
            have r3 : w5.cell? ⟨w.heap.size + 1, 3, none⟩ = some (.int .i64 0) := blk_cell HB5.out.res 3
            have s3 := blk_frozen HB5.out.res 3
            have r4 : w5.cell? ⟨w.heap.size + 1, 4, none⟩ = some (.int .i64 0) := blk_cell HB5.out.res 4
            have s4 := blk_frozen HB5.out.res 4
            have r5 : w5.cell? ⟨w.heap.size + 1, 5, none⟩ = some (.int .i64 0) := blk_cell HB5.out.res 5
            have s5 := blk_frozen HB5.out.res 5
            have z0 : w5.cell? ⟨w.heap.size + 1 + 1, 0, none⟩ = some (.int .i64 0) := blk_cell HB5.out.flt 0
            have y0 := blk_frozen HB5.out.flt 0
            have z1 : w5.cell? ⟨w.heap.size + 1 + 1, 1, none⟩ = some (.int .i64 0) := blk_cell HB5.out.flt 1
            have y1 := blk_frozen HB5.out.flt 1
            have z2 : w5.cell? ⟨w.heap.size + 1 + 1, 2, none⟩ = some (.int .i64 0) := blk_cell HB5.out.flt 2
            have y2 := blk_frozen HB5.out.flt 2
            go_wp2_with fail
            go_region
            clear t0 t1 t2 t3 t4 t5 r0 s0 r1 s1 r2 s2 r3 s3 r4 s4 r5 s5 z0 y0 z1 y1 z2 y2
            obtain ⟨WF, hWF, hX, hY, hZ⟩ := ret_put (w := w) (HB5.out.res) (HB5.out.flt) (HB5.out.below) 0 0 ⟨#[]⟩ 0 0 0 (11) (tl) (tc)
            rw [hWF]
            clear hWF
            have hX2 := blk_drew hX
            have hY2 := blk_drew hY
            have hZ2 := below_drew hZ
            clear hX hY hZ
            generalize WF.drew = w8 at hX2 hY2 hZ2 ⊢
            go_wp2_with fail
            have q0 := blk_cell hX2 0
            have q1 := blk_cell hX2 1
            have q2 := blk_cell hX2 2
            have q3 := blk_cell hX2 3
            have q4 := blk_cell hX2 4
            have q5 := blk_cell hX2 5
            have u0 := blk_cell hY2 0
            have u1 := blk_cell hY2 1
            have u2 := blk_cell hY2 2
            (try simp only [Exit.inBlock, Exit.then])
            refine bodyPost_ret (by simp [results, Tryd.results69, go_sem, q0, q1, q2, q3, q4, q5, u0, u1, u2]; rfl) rfl ?_
            exact ⟨by rw [← HR.out, wordE, if_neg HD.out, HN.out]; rfl, hZ2⟩
        · rw [hok]
          have HN := Lib.hid (show parseL (wordAt T i) = (0, 6) by rw [parseL, if_neg (by rw [hok]; decide)])
          clear hok
          go_wp2_with fail
          refine (cY.out _).mono ?_
          rintro e w5 ⟨rfl, rfl⟩
          have hsy : symL (wordAt T i) = true ∨ symL (wordAt T i) = false := by cases symL (wordAt T i) <;> simp
          rcases hsy with hsy | hsy
          · have HY := Lib.hid hsy
            rw [hsy]
            clear hsy
            have t0 : w5.cell? ⟨w.heap.size, 0, none⟩ = some (.int .i64 0) := blk_cell HB1.out.tok 0
            have f0 := blk_frozen HB1.out.tok 0
            have t1 : w5.cell? ⟨w.heap.size, 1, none⟩ = some (.int .i64 0) := blk_cell HB1.out.tok 1
            have f1 := blk_frozen HB1.out.tok 1
            have t2 : w5.cell? ⟨w.heap.size, 2, none⟩ = some (.string ⟨#[]⟩) := blk_cell HB1.out.tok 2
            have f2 := blk_frozen HB1.out.tok 2
            have t3 : w5.cell? ⟨w.heap.size, 3, none⟩ = some (.int .i64 tl) := blk_cell HB1.out.tok 3
            have f3 := blk_frozen HB1.out.tok 3
            have t4 : w5.cell? ⟨w.heap.size, 4, none⟩ = some (.int .i64 tc) := blk_cell HB1.out.tok 4
            have f4 := blk_frozen HB1.out.tok 4
            have t5 : w5.cell? ⟨w.heap.size, 5, none⟩ = some (.int .i64 (p : Nat)) := blk_cell HB1.out.tok 5
            have f5 := blk_frozen HB1.out.tok 5
            have r0 : w5.cell? ⟨w.heap.size + 1, 0, none⟩ = some (.int .i64 0) := blk_cell HB1.out.res 0
            have s0 := blk_frozen HB1.out.res 0
            have r1 : w5.cell? ⟨w.heap.size + 1, 1, none⟩ = some (.int .i64 0) := blk_cell HB1.out.res 1
            have s1 := blk_frozen HB1.out.res 1
            have r2 : w5.cell? ⟨w.heap.size + 1, 2, none⟩ = some (.string ⟨#[]⟩) := blk_cell HB1.out.res 2
            have s2 := blk_frozen HB1.out.res 2
            have r3 : w5.cell? ⟨w.heap.size + 1, 3, none⟩ = some (.int .i64 0) := blk_cell HB1.out.res 3
            have s3 := blk_frozen HB1.out.res 3
            have r4 : w5.cell? ⟨w.heap.size + 1, 4, none⟩ = some (.int .i64 0) := blk_cell HB1.out.res 4
            have s4 := blk_frozen HB1.out.res 4
            have r5 : w5.cell? ⟨w.heap.size + 1, 5, none⟩ = some (.int .i64 0) := blk_cell HB1.out.res 5
            have s5 := blk_frozen HB1.out.res 5
            have z0 : w5.cell? ⟨w.heap.size + 1 + 1, 0, none⟩ = some (.int .i64 0) := blk_cell HB1.out.flt 0
            have y0 := blk_frozen HB1.out.flt 0
            have z1 : w5.cell? ⟨w.heap.size + 1 + 1, 1, none⟩ = some (.int .i64 0) := blk_cell HB1.out.flt 1
            have y1 := blk_frozen HB1.out.flt 1
            have z2 : w5.cell? ⟨w.heap.size + 1 + 1, 2, none⟩ = some (.int .i64 0) := blk_cell HB1.out.flt 2
            have y2 := blk_frozen HB1.out.flt 2
            go_wp2_with fail
            clear t0 t1 t2 t3 t4 t5 f0 f1 f2 f3 f4 f5 r0 s0 r1 s1 r2 s2 r3 s3 r4 s4 r5 s5 z0 y0 z1 y1 z2 y2
            obtain ⟨WF, hWF, hX, hY, hZ⟩ := ret_put (w := w) (blk_far (blk_far HB1.out.res (by simp) _) (by simp) _) (blk_far (blk_far HB1.out.flt (by simp <;> omega) _) (by simp <;> omega) _) (below_set (below_set HB1.out.below (Nat.le_refl _)) (Nat.le_refl _)) (13) (0) (S) (tl) (tc) ((p : Nat)) (0) (0) (0)
            rw [hWF]
            clear hWF
            have q0 := blk_cell hX 0
            have q1 := blk_cell hX 1
            have q2 := blk_cell hX 2
            have q3 := blk_cell hX 3
            have q4 := blk_cell hX 4
            have q5 := blk_cell hX 5
            have u0 := blk_cell hY 0
            have u1 := blk_cell hY 1
            have u2 := blk_cell hY 2
            (try simp only [Exit.inBlock, Exit.then])
            refine bodyPost_ret (by simp [results, Tryd.results69, go_sem, q0, q1, q2, q3, q4, q5, u0, u1, u2]; rfl) rfl ?_
            exact ⟨by have hSS : S = ⟨(wordAt T i).toArray⟩ := (by apply ByteArray.ext; apply Array.ext'; rw [HSL.out]); rw [← HR.out, ← HPL.out, wordE, if_neg HD.out, wordK, if_neg HD.out, HN.out, if_pos rfl, if_pos HY.out, hSS]; rfl, hZ⟩
          · have HY := Lib.hid hsy
            rw [hsy]
            clear hsy
            have t0 : w5.cell? ⟨w.heap.size, 0, none⟩ = some (.int .i64 0) := blk_cell HB1.out.tok 0
            have t1 : w5.cell? ⟨w.heap.size, 1, none⟩ = some (.int .i64 0) := blk_cell HB1.out.tok 1
            have t2 : w5.cell? ⟨w.heap.size, 2, none⟩ = some (.string ⟨#[]⟩) := blk_cell HB1.out.tok 2
            have t3 : w5.cell? ⟨w.heap.size, 3, none⟩ = some (.int .i64 tl) := blk_cell HB1.out.tok 3
            have t4 : w5.cell? ⟨w.heap.size, 4, none⟩ = some (.int .i64 tc) := blk_cell HB1.out.tok 4
            have t5 : w5.cell? ⟨w.heap.size, 5, none⟩ = some (.int .i64 (p : Nat)) := blk_cell HB1.out.tok 5
            have r0 : w5.cell? ⟨w.heap.size + 1, 0, none⟩ = some (.int .i64 0) := blk_cell HB1.out.res 0
            have s0 := blk_frozen HB1.out.res 0
            have r1 : w5.cell? ⟨w.heap.size + 1, 1, none⟩ = some (.int .i64 0) := blk_cell HB1.out.res 1
            have s1 := blk_frozen HB1.out.res 1
            have r2 : w5.cell? ⟨w.heap.size + 1, 2, none⟩ = some (.string ⟨#[]⟩) := blk_cell HB1.out.res 2
            have s2 := blk_frozen HB1.out.res 2
            have r3 : w5.cell? ⟨w.heap.size + 1, 3, none⟩ = some (.int .i64 0) := blk_cell HB1.out.res 3
            have s3 := blk_frozen HB1.out.res 3
            have r4 : w5.cell? ⟨w.heap.size + 1, 4, none⟩ = some (.int .i64 0) := blk_cell HB1.out.res 4
            have s4 := blk_frozen HB1.out.res 4
            have r5 : w5.cell? ⟨w.heap.size + 1, 5, none⟩ = some (.int .i64 0) := blk_cell HB1.out.res 5
            have s5 := blk_frozen HB1.out.res 5
            have z0 : w5.cell? ⟨w.heap.size + 1 + 1, 0, none⟩ = some (.int .i64 0) := blk_cell HB1.out.flt 0
            have y0 := blk_frozen HB1.out.flt 0
            have z1 : w5.cell? ⟨w.heap.size + 1 + 1, 1, none⟩ = some (.int .i64 0) := blk_cell HB1.out.flt 1
            have y1 := blk_frozen HB1.out.flt 1
            have z2 : w5.cell? ⟨w.heap.size + 1 + 1, 2, none⟩ = some (.int .i64 0) := blk_cell HB1.out.flt 2
            have y2 := blk_frozen HB1.out.flt 2
            go_wp2_with fail
            go_region
            clear t0 t1 t2 t3 t4 t5 r0 s0 r1 s1 r2 s2 r3 s3 r4 s4 r5 s5 z0 y0 z1 y1 z2 y2
            obtain ⟨WF, hWF, hX, hY, hZ⟩ := ret_put (w := w) (HB1.out.res) (HB1.out.flt) (HB1.out.below) 0 0 ⟨#[]⟩ 0 0 0 (6) (tl) (tc)
            rw [hWF]
            clear hWF
            have hX2 := blk_drew hX
            have hY2 := blk_drew hY
            have hZ2 := below_drew hZ
            clear hX hY hZ
            generalize WF.drew = w8 at hX2 hY2 hZ2 ⊢
            go_wp2_with fail
            have q0 := blk_cell hX2 0
            have q1 := blk_cell hX2 1
            have q2 := blk_cell hX2 2
            have q3 := blk_cell hX2 3
            have q4 := blk_cell hX2 4
            have q5 := blk_cell hX2 5
            have u0 := blk_cell hY2 0
            have u1 := blk_cell hY2 1
            have u2 := blk_cell hY2 2
            (try simp only [Exit.inBlock, Exit.then])
            refine bodyPost_ret (by simp [results, Tryd.results69, go_sem, q0, q1, q2, q3, q4, q5, u0, u1, u2]; rfl) rfl ?_
            exact ⟨by rw [← HR.out, wordE, if_neg HD.out, HN.out, if_pos rfl, if_neg (by rw [HY.out]; decide)]; rfl, hZ2⟩
    · have hp : p < T.size := by
        by_cases hh : p < T.size
        · exact hh
        · rw [endAt, dif_neg hh] at hE; cases hE
      have HA2 := Lib.hid (show ((T.data.toList.drop i).take (p + 1 - i)).all (fun c => !endB c) = true from by
        rw [endAt, dif_pos hp] at hE
        have hlen : p - i < (T.data.toList.drop i).length := by
          have : T.data.toList.length = T.size := by simp
          rw [List.length_drop]; omega
        rw [show p + 1 - i = (p - i) + 1 by omega, List.take_succ_eq_append_getElem hlen, List.all_append, HA.out, List.getElem_drop]
        have e : T.data.toList[i + (p - i)]'(by have : T.data.toList.length = T.size := by simp
                                                omega) = T[p]'hp := by
          have e1 : i + (p - i) = p := by omega
          simp only [e1]
          rfl
        simp only [List.all_cons, List.all_nil, e, hE]
        rfl)
      have cE := Lib.hid (fun w => refends_any T p w)
      rw [hE] at cE
      clear hE
      go_wp2_with fail
      refine (cE.out _).mono ?_
      rintro e w' ⟨rfl, rfl⟩
      (go_wp2_with fail; repeat (go_region; go_wp2_with fail))
      go_roundg (T.size - (p + 1))
      case measure => omega
      case rel => exact ⟨p + 1, rfl, rfl, by omega, hp, HA2, HB⟩
end Go.Proofs.YthighbbikpnpgaaDoor
