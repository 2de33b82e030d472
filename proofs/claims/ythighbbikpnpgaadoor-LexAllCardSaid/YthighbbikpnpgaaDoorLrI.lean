/-
  The reference's sharp: the names, another way into the loop.
-/
import Derived.Test.YthighbbikpnpgaaDoorLrG
namespace Go.Proofs.YthighbbikpnpgaaDoor
open Go.RowKit Go.Proofs.YthighbbikpnpgaaDoorW.PrintWords

set_option maxRecDepth 400000 in
set_option maxHeartbeats 8000000 in
theorem refsharp_n3 (T : ByteArray) (i : Nat) (tl tc nx0 : Int) (w : World) (_hi : i < T.size) (hT : T.size ≤ 1000000000) (hS : i + 2 < T.size) (hx : ∀ h, T[i + 1]'h = 92) (y : UInt8) (hy : ∀ h, T[i + 2]'h = y) (h32 : 32 < y.toNat) (hend : endAt T (i + 3) = false) :
    Calls Tryd.prog 67 #[.string T, .int .i64 (i : Nat), .agg #[.int .i64 0, .int .i64 0, .string ⟨#[]⟩, .int .i64 tl, .int .i64 tc, .int .i64 nx0]] w (NextTo (refRet ((namesP T i (T.data.toList.drop (i + 2)) names4).1, ⟨(namesP T i (T.data.toList.drop (i + 2)) names4).2.1, (namesP T i (T.data.toList.drop (i + 2)) names4).2.2.1, [], tl, tc, (namesP T i (T.data.toList.drop (i + 2)) names4).2.2.2⟩)) w) := by
  obtain ⟨L, hL⟩ : ∃ L, T.data.toList.drop (i + 2) = L := ⟨_, rfl⟩
  have HLL := Lib.hid hL
  rw [hL]
  obtain ⟨R, hR⟩ : ∃ R, namesP T i L names4 = R := ⟨_, rfl⟩
  have HR := Lib.hid hR
  rw [hR]
  clear hL hR
  have hi1 : (i : Int) + 1 < (T.size : Nat) := by omega
  have hi2 : ¬ (T.size : Int) ≤ (i : Nat) + 1 := by omega
  have hbx : ∀ h, T[i + 1]'h = 92 := hx
  have hi3 : (i : Int) + 2 < (T.size : Nat) := by omega
  have hby : ∀ h, T[i + 2]'h = y := hy
  have y256 : y.toNat < 256 := y.toNat_lt
  have y32 : decide ((32 : Int) < y.toNat) = true := decide_eq_true (by omega)
  have y33 : (32 : Int) < y.toNat := by omega
  have cE := Lib.hid (fun w => refends_any T (i + 3) w)
  rw [hend] at cE
  clear hend
  go_enter Tryd.func67, Tryd.ntmps67
  go_wp2_with fail
  refine (cE.out _).mono ?_
  rintro e w1 ⟨rfl, rfl⟩
  go_wp2_with fail
  have HI := Lib.hid (rn_start T i w tl tc nx0 L R HR.out)
  generalize (((((w.alloc (.cells #[.int .i64 11, .int .i64 0, .string ⟨#[]⟩, .int .i64 tl, .int .i64 tc, .int .i64 nx0] TT)).alloc (.cells #[.int .i64 0, .int .i64 0, .string ⟨#[]⟩, .int .i64 0, .int .i64 0, .int .i64 0] TT)).alloc (.cells #[.int .i64 0, .int .i64 0, .int .i64 0] 64)).alloc (.cells #[.int .i64 6, .int .i64 tl, .int .i64 tc] 64)).alloc (.cells #[.string ⟨#[115, 112, 97, 99, 101]⟩, .string ⟨#[110, 101, 119, 108, 105, 110, 101]⟩, .string ⟨#[116, 97, 98]⟩, .string ⟨#[110, 117, 108]⟩] 9)).alloc (.cells #[.int .i64 32, .int .i64 10, .int .i64 9, .int .i64 0] 3) = w0 at HI ⊢
  go_loopg [11] 4 (fun gk v w' => ∃ (j : Nat), v = .int .i64 (j : Nat) ∧ gk = 4 - j ∧ Hid (RnI T i w tl tc nx0 L R j w'))
  case atStart => exact ⟨0, rfl, rfl, HI⟩
  case round =>
    clear HI HR
    obtain ⟨j, rfl, rfl, HJ⟩ := hrel
    have hj := HJ.out.le
    by_cases h0 : j = 0
    · subst h0
      have m0 : wr.cell? ⟨w.heap.size + 1 + 1 + 1 + 1, 0, none⟩ = some (.string ⟨#[115, 112, 97, 99, 101]⟩) := blk_cell HJ.out.nam 0
      have HJ2 := Lib.hid (fun m => show Blks w 11 0 ⟨#[]⟩ tl tc nx0 (wr.drewN m) ∧ FltAt (w.heap.size + 1 + 1 + 1) 6 tl tc (wr.drewN m) ∧ (wr.drewN m).heap[w.heap.size + 1 + 1 + 1 + 1]? = some (.cells #[.string ⟨#[115, 112, 97, 99, 101]⟩, .string ⟨#[110, 101, 119, 108, 105, 110, 101]⟩, .string ⟨#[116, 97, 98]⟩, .string ⟨#[110, 117, 108]⟩] 9 (0, 0)) ∧ (wr.drewN m).heap[w.heap.size + 1 + 1 + 1 + 1 + 1]? = some (.cells #[.int .i64 32, .int .i64 10, .int .i64 9, .int .i64 0] 3 (0, 0)) from
        ⟨⟨HJ.out.blks.tok, HJ.out.blks.res, HJ.out.blks.flt, ⟨HJ.out.blks.below.os, HJ.out.blks.below.tape, HJ.out.blks.below.output, HJ.out.blks.below.size, HJ.out.blks.below.block⟩⟩, HJ.out.bad, HJ.out.nam, HJ.out.cod⟩)
      by_cases hA : i + 2 + 5 ≤ T.size
      · have hA1 : (i : Int) + 2 + 5 ≤ (T.size : Nat) := by omega
        obtain ⟨S, hS⟩ : ∃ S, T.extract (i + 2) (i + 2 + 5) = S := ⟨_, rfl⟩
        have hsl : ∀ W : World, (Instr.slice 9 (.string T) (some (.int .i64 ((i : Int) + 2))) (some (.int .i64 ((i : Int) + 2 + 5))) none).run Tryd.prog W = .ok (.string S) W := fun W => by
          have e1 : ((i : Int) + 2).toNat = i + 2 := by omega
          have e2 : ((i : Int) + 2 + 5).toNat = i + 2 + 5 := by omega
          have := run_slice_string (P := Tryd.prog) (w := W) 9 T .i64 .i64 ((i : Int) + 2) ((i : Int) + 2 + 5) Tryd.underlying9 (by omega) (by omega) hA1
          rw [this, e1, e2, hS]
        have hA5 : i + 2 + 5 ≤ T.size := hA
        have hA6 : i + 7 ≤ T.size := hA
        have hA7 : (i : Int) + 7 ≤ (T.size : Nat) := by omega
        have hSL : S.data.toList = L.take 5 := by
          rw [← hS, extract_list, HLL.out, show i + 2 + 5 - (i + 2) = 5 by omega]
        by_cases hB : L.take 5 = [115, 112, 97, 99, 101]
        · obtain rfl : S = ⟨#[115, 112, 97, 99, 101]⟩ := by apply ByteArray.ext; apply Array.ext'; rw [hSL, hB]
          have hq : endAt T (i + 2 + 5) = true ∨ endAt T (i + 2 + 5) = false := by cases endAt T (i + 2 + 5) <;> simp
          have hen := Lib.hid (fun w => refends_any T (i + 2 + 5) w)
          rcases hq with hq | hq
          · rw [hq] at hen
            have HE := Lib.hid (show R = (0, 11, 32, i + 2 + 5) by
              rw [← HJ.out.rest]
              show namesP T i L (([115, 112, 97, 99, 101], 32) :: names4.drop 1) = _
              rw [namesP, if_pos (by show (Lib.hasPrefix L [115, 112, 97, 99, 101] && endAt T (i + 2 + 5)) = true; rw [prefix_take, hq, Bool.and_true]; exact decide_eq_true hB)]
              rfl)
            clear hSL hB hq
            go_wp2_with fail
            go_quiet (((go_at_call 91; exact Calls.quiet_of_same (hen.out _))))
            have HQ := Lib.hid (HJ2.out nq)
            clear HJ HJ2 m0
            generalize wr.drewN nq = w5 at HQ ⊢
            have o0 : w5.cell? ⟨w.heap.size + 1 + 1 + 1 + 1 + 1, 0, none⟩ = some (.int .i64 32) := blk_cell HQ.out.2.2.2 0
            have t0 : w5.cell? ⟨w.heap.size, 0, none⟩ = some (.int .i64 11) := blk_cell HQ.out.1.tok 0
            have f0 := blk_frozen HQ.out.1.tok 0
            have t1 : w5.cell? ⟨w.heap.size, 1, none⟩ = some (.int .i64 0) := blk_cell HQ.out.1.tok 1
            have f1 := blk_frozen HQ.out.1.tok 1
            have t2 : w5.cell? ⟨w.heap.size, 2, none⟩ = some (.string ⟨#[]⟩) := blk_cell HQ.out.1.tok 2
            have f2 := blk_frozen HQ.out.1.tok 2
            have t3 : w5.cell? ⟨w.heap.size, 3, none⟩ = some (.int .i64 tl) := blk_cell HQ.out.1.tok 3
            have f3 := blk_frozen HQ.out.1.tok 3
            have t4 : w5.cell? ⟨w.heap.size, 4, none⟩ = some (.int .i64 tc) := blk_cell HQ.out.1.tok 4
            have f4 := blk_frozen HQ.out.1.tok 4
            have t5 : w5.cell? ⟨w.heap.size, 5, none⟩ = some (.int .i64 nx0) := blk_cell HQ.out.1.tok 5
            have f5 := blk_frozen HQ.out.1.tok 5
            have r0 : w5.cell? ⟨w.heap.size + 1, 0, none⟩ = some (.int .i64 0) := blk_cell HQ.out.1.res 0
            have s0 := blk_frozen HQ.out.1.res 0
            have r1 : w5.cell? ⟨w.heap.size + 1, 1, none⟩ = some (.int .i64 0) := blk_cell HQ.out.1.res 1
            have s1 := blk_frozen HQ.out.1.res 1
            have r2 : w5.cell? ⟨w.heap.size + 1, 2, none⟩ = some (.string ⟨#[]⟩) := blk_cell HQ.out.1.res 2
            have s2 := blk_frozen HQ.out.1.res 2
            have r3 : w5.cell? ⟨w.heap.size + 1, 3, none⟩ = some (.int .i64 0) := blk_cell HQ.out.1.res 3
            have s3 := blk_frozen HQ.out.1.res 3
            have r4 : w5.cell? ⟨w.heap.size + 1, 4, none⟩ = some (.int .i64 0) := blk_cell HQ.out.1.res 4
            have s4 := blk_frozen HQ.out.1.res 4
            have r5 : w5.cell? ⟨w.heap.size + 1, 5, none⟩ = some (.int .i64 0) := blk_cell HQ.out.1.res 5
            have s5 := blk_frozen HQ.out.1.res 5
            have z0 : w5.cell? ⟨w.heap.size + 1 + 1, 0, none⟩ = some (.int .i64 0) := blk_cell HQ.out.1.flt 0
            have y0 := blk_frozen HQ.out.1.flt 0
            have z1 : w5.cell? ⟨w.heap.size + 1 + 1, 1, none⟩ = some (.int .i64 0) := blk_cell HQ.out.1.flt 1
            have y1 := blk_frozen HQ.out.1.flt 1
            have z2 : w5.cell? ⟨w.heap.size + 1 + 1, 2, none⟩ = some (.int .i64 0) := blk_cell HQ.out.1.flt 2
            have y2 := blk_frozen HQ.out.1.flt 2
            go_wp2_with fail
            clear t0 t1 t2 t3 t4 t5 f0 f1 f2 f3 f4 f5 r0 s0 r1 s1 r2 s2 r3 s3 r4 s4 r5 s5 z0 y0 z1 y1 z2 y2 o0
            obtain ⟨WF, hWF, hX, hY, hZ⟩ := ret_put (w := w) (blk_far (blk_far HQ.out.1.res (by simp) _) (by simp) _) (blk_far (blk_far HQ.out.1.flt (by simp <;> omega) _) (by simp <;> omega) _) (below_set (below_set HQ.out.1.below (Nat.le_refl _)) (Nat.le_refl _)) (11) (32) (⟨#[]⟩) (tl) (tc) ((i : Int) + 2 + 5) (0) (0) (0)
            rw [hWF]
            clear hWF
            have q0 := blk_cell hX 0
            have q1 := blk_cell hX 1
            have q2 := blk_cell hX 2
            have q3 := blk_cell hX 3
            have q4 := blk_cell hX 4
            have q5 := blk_cell hX 5
            have u0 := blk_cell hY 0
            have u1 := blk_cell hY 1
            have u2 := blk_cell hY 2
            (try simp only [Exit.inBlock, Exit.then])
            refine bodyPost_ret (by simp [results, Tryd.results67, go_sem, q0, q1, q2, q3, q4, q5, u0, u1, u2]; rfl) rfl ?_
            exact ⟨by rw [HE.out]; rfl, hZ⟩
          · rw [hq] at hen
            have HNX := Lib.hid (show namesP T i L (names4.drop 1) = R by
              rw [← HJ.out.rest]
              show _ = namesP T i L (([115, 112, 97, 99, 101], 32) :: names4.drop 1)
              rw [namesP, if_neg (by show ¬ (Lib.hasPrefix L [115, 112, 97, 99, 101] && endAt T (i + 2 + 5)) = true; rw [hq]; simp)])
            clear hSL hB hq
            go_wp2_with fail
            go_quiet (((go_at_call 91; exact Calls.quiet_of_same (hen.out _))))
            all_goals go_wp2_with fail
            all_goals go_roundg (4 - 1)
            all_goals first | (show 4 - 1 < 4 - 0; omega) | exact ⟨1, rfl, rfl, Lib.hid ⟨(HJ2.out _).1, (HJ2.out _).2.1, (HJ2.out _).2.2.1, (HJ2.out _).2.2.2, HNX.out, by omega⟩⟩
        · have hSne : ¬ S.toList = [115, 112, 97, 99, 101] := by rw [ByteArray.toList_eq, hSL]; exact hB
          have hSnb : (S.toList == [115, 112, 97, 99, 101]) = false := by simpa using hSne
          have HNX := Lib.hid (show namesP T i L (names4.drop 1) = R by
            rw [← HJ.out.rest]
            show _ = namesP T i L (([115, 112, 97, 99, 101], 32) :: names4.drop 1)
            rw [namesP, if_neg (by rw [fits_no (x := ([115, 112, 97, 99, 101], 32)) hB]; decide)])
          clear hSL hB
          go_wp2_with fail
          go_quiet (fail)
          all_goals go_wp2_with fail
          all_goals go_roundg (4 - 1)
          all_goals first | (show 4 - 1 < 4 - 0; omega) | exact ⟨1, rfl, rfl, Lib.hid ⟨(HJ2.out _).1, (HJ2.out _).2.1, (HJ2.out _).2.2.1, (HJ2.out _).2.2.2, HNX.out, by omega⟩⟩
      · have hA1 : ¬ (i : Int) + 2 + 5 ≤ (T.size : Nat) := by omega
        have hA3 : decide ((i : Int) + 2 + 5 ≤ (T.size : Nat)) = false := decide_eq_false hA1
        have HNX := Lib.hid (show namesP T i L (names4.drop 1) = R by
          rw [← HJ.out.rest]
          show _ = namesP T i L (([115, 112, 97, 99, 101], 32) :: names4.drop 1)
          rw [namesP, if_neg (by rw [fits_no (x := ([115, 112, 97, 99, 101], 32)) (fun h => by have h2 := congrArg List.length h; rw [← HLL.out, List.length_take, List.length_drop] at h2; have : T.data.toList.length = T.size := (by simp); simp at h2; omega)]; decide)])
        go_wp2_with fail
        go_quiet (fail)
        all_goals go_wp2_with fail
        all_goals go_roundg (4 - 1)
        all_goals first | (show 4 - 1 < 4 - 0; omega) | exact ⟨1, rfl, rfl, Lib.hid ⟨(HJ2.out _).1, (HJ2.out _).2.1, (HJ2.out _).2.2.1, (HJ2.out _).2.2.2, HNX.out, by omega⟩⟩
    by_cases h1 : j = 1
    · subst h1
      have m0 : wr.cell? ⟨w.heap.size + 1 + 1 + 1 + 1, 1, none⟩ = some (.string ⟨#[110, 101, 119, 108, 105, 110, 101]⟩) := blk_cell HJ.out.nam 1
      have HJ2 := Lib.hid (fun m => show Blks w 11 0 ⟨#[]⟩ tl tc nx0 (wr.drewN m) ∧ FltAt (w.heap.size + 1 + 1 + 1) 6 tl tc (wr.drewN m) ∧ (wr.drewN m).heap[w.heap.size + 1 + 1 + 1 + 1]? = some (.cells #[.string ⟨#[115, 112, 97, 99, 101]⟩, .string ⟨#[110, 101, 119, 108, 105, 110, 101]⟩, .string ⟨#[116, 97, 98]⟩, .string ⟨#[110, 117, 108]⟩] 9 (0, 0)) ∧ (wr.drewN m).heap[w.heap.size + 1 + 1 + 1 + 1 + 1]? = some (.cells #[.int .i64 32, .int .i64 10, .int .i64 9, .int .i64 0] 3 (0, 0)) from
        ⟨⟨HJ.out.blks.tok, HJ.out.blks.res, HJ.out.blks.flt, ⟨HJ.out.blks.below.os, HJ.out.blks.below.tape, HJ.out.blks.below.output, HJ.out.blks.below.size, HJ.out.blks.below.block⟩⟩, HJ.out.bad, HJ.out.nam, HJ.out.cod⟩)
      by_cases hA : i + 2 + 7 ≤ T.size
      · have hA1 : (i : Int) + 2 + 7 ≤ (T.size : Nat) := by omega
        obtain ⟨S, hS⟩ : ∃ S, T.extract (i + 2) (i + 2 + 7) = S := ⟨_, rfl⟩
        have hsl : ∀ W : World, (Instr.slice 9 (.string T) (some (.int .i64 ((i : Int) + 2))) (some (.int .i64 ((i : Int) + 2 + 7))) none).run Tryd.prog W = .ok (.string S) W := fun W => by
          have e1 : ((i : Int) + 2).toNat = i + 2 := by omega
          have e2 : ((i : Int) + 2 + 7).toNat = i + 2 + 7 := by omega
          have := run_slice_string (P := Tryd.prog) (w := W) 9 T .i64 .i64 ((i : Int) + 2) ((i : Int) + 2 + 7) Tryd.underlying9 (by omega) (by omega) hA1
          rw [this, e1, e2, hS]
        have hA5 : i + 2 + 7 ≤ T.size := hA
        have hA6 : i + 9 ≤ T.size := hA
        have hA7 : (i : Int) + 9 ≤ (T.size : Nat) := by omega
        have hSL : S.data.toList = L.take 7 := by
          rw [← hS, extract_list, HLL.out, show i + 2 + 7 - (i + 2) = 7 by omega]
        by_cases hB : L.take 7 = [110, 101, 119, 108, 105, 110, 101]
        · obtain rfl : S = ⟨#[110, 101, 119, 108, 105, 110, 101]⟩ := by apply ByteArray.ext; apply Array.ext'; rw [hSL, hB]
          have hq : endAt T (i + 2 + 7) = true ∨ endAt T (i + 2 + 7) = false := by cases endAt T (i + 2 + 7) <;> simp
          have hen := Lib.hid (fun w => refends_any T (i + 2 + 7) w)
          rcases hq with hq | hq
          · rw [hq] at hen
            have HE := Lib.hid (show R = (0, 11, 10, i + 2 + 7) by
              rw [← HJ.out.rest]
              show namesP T i L (([110, 101, 119, 108, 105, 110, 101], 10) :: names4.drop 2) = _
              rw [namesP, if_pos (by show (Lib.hasPrefix L [110, 101, 119, 108, 105, 110, 101] && endAt T (i + 2 + 7)) = true; rw [prefix_take, hq, Bool.and_true]; exact decide_eq_true hB)]
              rfl)
            clear hSL hB hq
            go_wp2_with fail
            go_quiet (((go_at_call 91; exact Calls.quiet_of_same (hen.out _))))
            have HQ := Lib.hid (HJ2.out nq)
            clear HJ HJ2 m0
            generalize wr.drewN nq = w5 at HQ ⊢
            have o0 : w5.cell? ⟨w.heap.size + 1 + 1 + 1 + 1 + 1, 1, none⟩ = some (.int .i64 10) := blk_cell HQ.out.2.2.2 1
            have t0 : w5.cell? ⟨w.heap.size, 0, none⟩ = some (.int .i64 11) := blk_cell HQ.out.1.tok 0
            have f0 := blk_frozen HQ.out.1.tok 0
            have t1 : w5.cell? ⟨w.heap.size, 1, none⟩ = some (.int .i64 0) := blk_cell HQ.out.1.tok 1
            have f1 := blk_frozen HQ.out.1.tok 1
            have t2 : w5.cell? ⟨w.heap.size, 2, none⟩ = some (.string ⟨#[]⟩) := blk_cell HQ.out.1.tok 2
            have f2 := blk_frozen HQ.out.1.tok 2
            have t3 : w5.cell? ⟨w.heap.size, 3, none⟩ = some (.int .i64 tl) := blk_cell HQ.out.1.tok 3
            have f3 := blk_frozen HQ.out.1.tok 3
            have t4 : w5.cell? ⟨w.heap.size, 4, none⟩ = some (.int .i64 tc) := blk_cell HQ.out.1.tok 4
            have f4 := blk_frozen HQ.out.1.tok 4
            have t5 : w5.cell? ⟨w.heap.size, 5, none⟩ = some (.int .i64 nx0) := blk_cell HQ.out.1.tok 5
            have f5 := blk_frozen HQ.out.1.tok 5
            have r0 : w5.cell? ⟨w.heap.size + 1, 0, none⟩ = some (.int .i64 0) := blk_cell HQ.out.1.res 0
            have s0 := blk_frozen HQ.out.1.res 0
            have r1 : w5.cell? ⟨w.heap.size + 1, 1, none⟩ = some (.int .i64 0) := blk_cell HQ.out.1.res 1
            have s1 := blk_frozen HQ.out.1.res 1
            have r2 : w5.cell? ⟨w.heap.size + 1, 2, none⟩ = some (.string ⟨#[]⟩) := blk_cell HQ.out.1.res 2
            have s2 := blk_frozen HQ.out.1.res 2
            have r3 : w5.cell? ⟨w.heap.size + 1, 3, none⟩ = some (.int .i64 0) := blk_cell HQ.out.1.res 3
            have s3 := blk_frozen HQ.out.1.res 3
            have r4 : w5.cell? ⟨w.heap.size + 1, 4, none⟩ = some (.int .i64 0) := blk_cell HQ.out.1.res 4
            have s4 := blk_frozen HQ.out.1.res 4
            have r5 : w5.cell? ⟨w.heap.size + 1, 5, none⟩ = some (.int .i64 0) := blk_cell HQ.out.1.res 5
            have s5 := blk_frozen HQ.out.1.res 5
            have z0 : w5.cell? ⟨w.heap.size + 1 + 1, 0, none⟩ = some (.int .i64 0) := blk_cell HQ.out.1.flt 0
            have y0 := blk_frozen HQ.out.1.flt 0
            have z1 : w5.cell? ⟨w.heap.size + 1 + 1, 1, none⟩ = some (.int .i64 0) := blk_cell HQ.out.1.flt 1
            have y1 := blk_frozen HQ.out.1.flt 1
            have z2 : w5.cell? ⟨w.heap.size + 1 + 1, 2, none⟩ = some (.int .i64 0) := blk_cell HQ.out.1.flt 2
            have y2 := blk_frozen HQ.out.1.flt 2
            go_wp2_with fail
            clear t0 t1 t2 t3 t4 t5 f0 f1 f2 f3 f4 f5 r0 s0 r1 s1 r2 s2 r3 s3 r4 s4 r5 s5 z0 y0 z1 y1 z2 y2 o0
            obtain ⟨WF, hWF, hX, hY, hZ⟩ := ret_put (w := w) (blk_far (blk_far HQ.out.1.res (by simp) _) (by simp) _) (blk_far (blk_far HQ.out.1.flt (by simp <;> omega) _) (by simp <;> omega) _) (below_set (below_set HQ.out.1.below (Nat.le_refl _)) (Nat.le_refl _)) (11) (10) (⟨#[]⟩) (tl) (tc) ((i : Int) + 2 + 7) (0) (0) (0)
            rw [hWF]
            clear hWF
            have q0 := blk_cell hX 0
            have q1 := blk_cell hX 1
            have q2 := blk_cell hX 2
            have q3 := blk_cell hX 3
            have q4 := blk_cell hX 4
            have q5 := blk_cell hX 5
            have u0 := blk_cell hY 0
            have u1 := blk_cell hY 1
            have u2 := blk_cell hY 2
            (try simp only [Exit.inBlock, Exit.then])
            refine bodyPost_ret (by simp [results, Tryd.results67, go_sem, q0, q1, q2, q3, q4, q5, u0, u1, u2]; rfl) rfl ?_
            exact ⟨by rw [HE.out]; rfl, hZ⟩
          · rw [hq] at hen
            have HNX := Lib.hid (show namesP T i L (names4.drop 2) = R by
              rw [← HJ.out.rest]
              show _ = namesP T i L (([110, 101, 119, 108, 105, 110, 101], 10) :: names4.drop 2)
              rw [namesP, if_neg (by show ¬ (Lib.hasPrefix L [110, 101, 119, 108, 105, 110, 101] && endAt T (i + 2 + 7)) = true; rw [hq]; simp)])
            clear hSL hB hq
            go_wp2_with fail
            go_quiet (((go_at_call 91; exact Calls.quiet_of_same (hen.out _))))
            all_goals go_wp2_with fail
            all_goals go_roundg (4 - 2)
            all_goals first | (show 4 - 2 < 4 - 1; omega) | exact ⟨2, rfl, rfl, Lib.hid ⟨(HJ2.out _).1, (HJ2.out _).2.1, (HJ2.out _).2.2.1, (HJ2.out _).2.2.2, HNX.out, by omega⟩⟩
        · have hSne : ¬ S.toList = [110, 101, 119, 108, 105, 110, 101] := by rw [ByteArray.toList_eq, hSL]; exact hB
          have hSnb : (S.toList == [110, 101, 119, 108, 105, 110, 101]) = false := by simpa using hSne
          have HNX := Lib.hid (show namesP T i L (names4.drop 2) = R by
            rw [← HJ.out.rest]
            show _ = namesP T i L (([110, 101, 119, 108, 105, 110, 101], 10) :: names4.drop 2)
            rw [namesP, if_neg (by rw [fits_no (x := ([110, 101, 119, 108, 105, 110, 101], 10)) hB]; decide)])
          clear hSL hB
          go_wp2_with fail
          go_quiet (fail)
          all_goals go_wp2_with fail
          all_goals go_roundg (4 - 2)
          all_goals first | (show 4 - 2 < 4 - 1; omega) | exact ⟨2, rfl, rfl, Lib.hid ⟨(HJ2.out _).1, (HJ2.out _).2.1, (HJ2.out _).2.2.1, (HJ2.out _).2.2.2, HNX.out, by omega⟩⟩
      · have hA1 : ¬ (i : Int) + 2 + 7 ≤ (T.size : Nat) := by omega
        have hA3 : decide ((i : Int) + 2 + 7 ≤ (T.size : Nat)) = false := decide_eq_false hA1
        have HNX := Lib.hid (show namesP T i L (names4.drop 2) = R by
          rw [← HJ.out.rest]
          show _ = namesP T i L (([110, 101, 119, 108, 105, 110, 101], 10) :: names4.drop 2)
          rw [namesP, if_neg (by rw [fits_no (x := ([110, 101, 119, 108, 105, 110, 101], 10)) (fun h => by have h2 := congrArg List.length h; rw [← HLL.out, List.length_take, List.length_drop] at h2; have : T.data.toList.length = T.size := (by simp); simp at h2; omega)]; decide)])
        go_wp2_with fail
        go_quiet (fail)
        all_goals go_wp2_with fail
        all_goals go_roundg (4 - 2)
        all_goals first | (show 4 - 2 < 4 - 1; omega) | exact ⟨2, rfl, rfl, Lib.hid ⟨(HJ2.out _).1, (HJ2.out _).2.1, (HJ2.out _).2.2.1, (HJ2.out _).2.2.2, HNX.out, by omega⟩⟩
    by_cases h2 : j = 2
    · subst h2
      have m0 : wr.cell? ⟨w.heap.size + 1 + 1 + 1 + 1, 2, none⟩ = some (.string ⟨#[116, 97, 98]⟩) := blk_cell HJ.out.nam 2
      have HJ2 := Lib.hid (fun m => show Blks w 11 0 ⟨#[]⟩ tl tc nx0 (wr.drewN m) ∧ FltAt (w.heap.size + 1 + 1 + 1) 6 tl tc (wr.drewN m) ∧ (wr.drewN m).heap[w.heap.size + 1 + 1 + 1 + 1]? = some (.cells #[.string ⟨#[115, 112, 97, 99, 101]⟩, .string ⟨#[110, 101, 119, 108, 105, 110, 101]⟩, .string ⟨#[116, 97, 98]⟩, .string ⟨#[110, 117, 108]⟩] 9 (0, 0)) ∧ (wr.drewN m).heap[w.heap.size + 1 + 1 + 1 + 1 + 1]? = some (.cells #[.int .i64 32, .int .i64 10, .int .i64 9, .int .i64 0] 3 (0, 0)) from
        ⟨⟨HJ.out.blks.tok, HJ.out.blks.res, HJ.out.blks.flt, ⟨HJ.out.blks.below.os, HJ.out.blks.below.tape, HJ.out.blks.below.output, HJ.out.blks.below.size, HJ.out.blks.below.block⟩⟩, HJ.out.bad, HJ.out.nam, HJ.out.cod⟩)
      by_cases hA : i + 2 + 3 ≤ T.size
      · have hA1 : (i : Int) + 2 + 3 ≤ (T.size : Nat) := by omega
        obtain ⟨S, hS⟩ : ∃ S, T.extract (i + 2) (i + 2 + 3) = S := ⟨_, rfl⟩
        have hsl : ∀ W : World, (Instr.slice 9 (.string T) (some (.int .i64 ((i : Int) + 2))) (some (.int .i64 ((i : Int) + 2 + 3))) none).run Tryd.prog W = .ok (.string S) W := fun W => by
          have e1 : ((i : Int) + 2).toNat = i + 2 := by omega
          have e2 : ((i : Int) + 2 + 3).toNat = i + 2 + 3 := by omega
          have := run_slice_string (P := Tryd.prog) (w := W) 9 T .i64 .i64 ((i : Int) + 2) ((i : Int) + 2 + 3) Tryd.underlying9 (by omega) (by omega) hA1
          rw [this, e1, e2, hS]
        have hA5 : i + 2 + 3 ≤ T.size := hA
        have hA6 : i + 5 ≤ T.size := hA
        have hA7 : (i : Int) + 5 ≤ (T.size : Nat) := by omega
        have hSL : S.data.toList = L.take 3 := by
          rw [← hS, extract_list, HLL.out, show i + 2 + 3 - (i + 2) = 3 by omega]
        by_cases hB : L.take 3 = [116, 97, 98]
        · obtain rfl : S = ⟨#[116, 97, 98]⟩ := by apply ByteArray.ext; apply Array.ext'; rw [hSL, hB]
          have hq : endAt T (i + 2 + 3) = true ∨ endAt T (i + 2 + 3) = false := by cases endAt T (i + 2 + 3) <;> simp
          have hen := Lib.hid (fun w => refends_any T (i + 2 + 3) w)
          rcases hq with hq | hq
          · rw [hq] at hen
            have HE := Lib.hid (show R = (0, 11, 9, i + 2 + 3) by
              rw [← HJ.out.rest]
              show namesP T i L (([116, 97, 98], 9) :: names4.drop 3) = _
              rw [namesP, if_pos (by show (Lib.hasPrefix L [116, 97, 98] && endAt T (i + 2 + 3)) = true; rw [prefix_take, hq, Bool.and_true]; exact decide_eq_true hB)]
              rfl)
            clear hSL hB hq
            go_wp2_with fail
            go_quiet (((go_at_call 91; exact Calls.quiet_of_same (hen.out _))))
            have HQ := Lib.hid (HJ2.out nq)
            clear HJ HJ2 m0
            generalize wr.drewN nq = w5 at HQ ⊢
            have o0 : w5.cell? ⟨w.heap.size + 1 + 1 + 1 + 1 + 1, 2, none⟩ = some (.int .i64 9) := blk_cell HQ.out.2.2.2 2
            have t0 : w5.cell? ⟨w.heap.size, 0, none⟩ = some (.int .i64 11) := blk_cell HQ.out.1.tok 0
            have f0 := blk_frozen HQ.out.1.tok 0
            have t1 : w5.cell? ⟨w.heap.size, 1, none⟩ = some (.int .i64 0) := blk_cell HQ.out.1.tok 1
            have f1 := blk_frozen HQ.out.1.tok 1
            have t2 : w5.cell? ⟨w.heap.size, 2, none⟩ = some (.string ⟨#[]⟩) := blk_cell HQ.out.1.tok 2
            have f2 := blk_frozen HQ.out.1.tok 2
            have t3 : w5.cell? ⟨w.heap.size, 3, none⟩ = some (.int .i64 tl) := blk_cell HQ.out.1.tok 3
            have f3 := blk_frozen HQ.out.1.tok 3
            have t4 : w5.cell? ⟨w.heap.size, 4, none⟩ = some (.int .i64 tc) := blk_cell HQ.out.1.tok 4
            have f4 := blk_frozen HQ.out.1.tok 4
            have t5 : w5.cell? ⟨w.heap.size, 5, none⟩ = some (.int .i64 nx0) := blk_cell HQ.out.1.tok 5
            have f5 := blk_frozen HQ.out.1.tok 5
            have r0 : w5.cell? ⟨w.heap.size + 1, 0, none⟩ = some (.int .i64 0) := blk_cell HQ.out.1.res 0
            have s0 := blk_frozen HQ.out.1.res 0
            have r1 : w5.cell? ⟨w.heap.size + 1, 1, none⟩ = some (.int .i64 0) := blk_cell HQ.out.1.res 1
            have s1 := blk_frozen HQ.out.1.res 1
            have r2 : w5.cell? ⟨w.heap.size + 1, 2, none⟩ = some (.string ⟨#[]⟩) := blk_cell HQ.out.1.res 2
            have s2 := blk_frozen HQ.out.1.res 2
            have r3 : w5.cell? ⟨w.heap.size + 1, 3, none⟩ = some (.int .i64 0) := blk_cell HQ.out.1.res 3
            have s3 := blk_frozen HQ.out.1.res 3
            have r4 : w5.cell? ⟨w.heap.size + 1, 4, none⟩ = some (.int .i64 0) := blk_cell HQ.out.1.res 4
            have s4 := blk_frozen HQ.out.1.res 4
            have r5 : w5.cell? ⟨w.heap.size + 1, 5, none⟩ = some (.int .i64 0) := blk_cell HQ.out.1.res 5
            have s5 := blk_frozen HQ.out.1.res 5
            have z0 : w5.cell? ⟨w.heap.size + 1 + 1, 0, none⟩ = some (.int .i64 0) := blk_cell HQ.out.1.flt 0
            have y0 := blk_frozen HQ.out.1.flt 0
            have z1 : w5.cell? ⟨w.heap.size + 1 + 1, 1, none⟩ = some (.int .i64 0) := blk_cell HQ.out.1.flt 1
            have y1 := blk_frozen HQ.out.1.flt 1
            have z2 : w5.cell? ⟨w.heap.size + 1 + 1, 2, none⟩ = some (.int .i64 0) := blk_cell HQ.out.1.flt 2
            have y2 := blk_frozen HQ.out.1.flt 2
            go_wp2_with fail
            clear t0 t1 t2 t3 t4 t5 f0 f1 f2 f3 f4 f5 r0 s0 r1 s1 r2 s2 r3 s3 r4 s4 r5 s5 z0 y0 z1 y1 z2 y2 o0
            obtain ⟨WF, hWF, hX, hY, hZ⟩ := ret_put (w := w) (blk_far (blk_far HQ.out.1.res (by simp) _) (by simp) _) (blk_far (blk_far HQ.out.1.flt (by simp <;> omega) _) (by simp <;> omega) _) (below_set (below_set HQ.out.1.below (Nat.le_refl _)) (Nat.le_refl _)) (11) (9) (⟨#[]⟩) (tl) (tc) ((i : Int) + 2 + 3) (0) (0) (0)
            rw [hWF]
            clear hWF
            have q0 := blk_cell hX 0
            have q1 := blk_cell hX 1
            have q2 := blk_cell hX 2
            have q3 := blk_cell hX 3
            have q4 := blk_cell hX 4
            have q5 := blk_cell hX 5
            have u0 := blk_cell hY 0
            have u1 := blk_cell hY 1
            have u2 := blk_cell hY 2
            (try simp only [Exit.inBlock, Exit.then])
            refine bodyPost_ret (by simp [results, Tryd.results67, go_sem, q0, q1, q2, q3, q4, q5, u0, u1, u2]; rfl) rfl ?_
            exact ⟨by rw [HE.out]; rfl, hZ⟩
          · rw [hq] at hen
            have HNX := Lib.hid (show namesP T i L (names4.drop 3) = R by
              rw [← HJ.out.rest]
              show _ = namesP T i L (([116, 97, 98], 9) :: names4.drop 3)
              rw [namesP, if_neg (by show ¬ (Lib.hasPrefix L [116, 97, 98] && endAt T (i + 2 + 3)) = true; rw [hq]; simp)])
            clear hSL hB hq
            go_wp2_with fail
            go_quiet (((go_at_call 91; exact Calls.quiet_of_same (hen.out _))))
            all_goals go_wp2_with fail
            all_goals go_roundg (4 - 3)
            all_goals first | (show 4 - 3 < 4 - 2; omega) | exact ⟨3, rfl, rfl, Lib.hid ⟨(HJ2.out _).1, (HJ2.out _).2.1, (HJ2.out _).2.2.1, (HJ2.out _).2.2.2, HNX.out, by omega⟩⟩
        · have hSne : ¬ S.toList = [116, 97, 98] := by rw [ByteArray.toList_eq, hSL]; exact hB
          have hSnb : (S.toList == [116, 97, 98]) = false := by simpa using hSne
          have HNX := Lib.hid (show namesP T i L (names4.drop 3) = R by
            rw [← HJ.out.rest]
            show _ = namesP T i L (([116, 97, 98], 9) :: names4.drop 3)
            rw [namesP, if_neg (by rw [fits_no (x := ([116, 97, 98], 9)) hB]; decide)])
          clear hSL hB
          go_wp2_with fail
          go_quiet (fail)
          all_goals go_wp2_with fail
          all_goals go_roundg (4 - 3)
          all_goals first | (show 4 - 3 < 4 - 2; omega) | exact ⟨3, rfl, rfl, Lib.hid ⟨(HJ2.out _).1, (HJ2.out _).2.1, (HJ2.out _).2.2.1, (HJ2.out _).2.2.2, HNX.out, by omega⟩⟩
      · have hA1 : ¬ (i : Int) + 2 + 3 ≤ (T.size : Nat) := by omega
        have hA3 : decide ((i : Int) + 2 + 3 ≤ (T.size : Nat)) = false := decide_eq_false hA1
        have HNX := Lib.hid (show namesP T i L (names4.drop 3) = R by
          rw [← HJ.out.rest]
          show _ = namesP T i L (([116, 97, 98], 9) :: names4.drop 3)
          rw [namesP, if_neg (by rw [fits_no (x := ([116, 97, 98], 9)) (fun h => by have h2 := congrArg List.length h; rw [← HLL.out, List.length_take, List.length_drop] at h2; have : T.data.toList.length = T.size := (by simp); simp at h2; omega)]; decide)])
        go_wp2_with fail
        go_quiet (fail)
        all_goals go_wp2_with fail
        all_goals go_roundg (4 - 3)
        all_goals first | (show 4 - 3 < 4 - 2; omega) | exact ⟨3, rfl, rfl, Lib.hid ⟨(HJ2.out _).1, (HJ2.out _).2.1, (HJ2.out _).2.2.1, (HJ2.out _).2.2.2, HNX.out, by omega⟩⟩
    by_cases h3 : j = 3
    · subst h3
      have m0 : wr.cell? ⟨w.heap.size + 1 + 1 + 1 + 1, 3, none⟩ = some (.string ⟨#[110, 117, 108]⟩) := blk_cell HJ.out.nam 3
      have HJ2 := Lib.hid (fun m => show Blks w 11 0 ⟨#[]⟩ tl tc nx0 (wr.drewN m) ∧ FltAt (w.heap.size + 1 + 1 + 1) 6 tl tc (wr.drewN m) ∧ (wr.drewN m).heap[w.heap.size + 1 + 1 + 1 + 1]? = some (.cells #[.string ⟨#[115, 112, 97, 99, 101]⟩, .string ⟨#[110, 101, 119, 108, 105, 110, 101]⟩, .string ⟨#[116, 97, 98]⟩, .string ⟨#[110, 117, 108]⟩] 9 (0, 0)) ∧ (wr.drewN m).heap[w.heap.size + 1 + 1 + 1 + 1 + 1]? = some (.cells #[.int .i64 32, .int .i64 10, .int .i64 9, .int .i64 0] 3 (0, 0)) from
        ⟨⟨HJ.out.blks.tok, HJ.out.blks.res, HJ.out.blks.flt, ⟨HJ.out.blks.below.os, HJ.out.blks.below.tape, HJ.out.blks.below.output, HJ.out.blks.below.size, HJ.out.blks.below.block⟩⟩, HJ.out.bad, HJ.out.nam, HJ.out.cod⟩)
      by_cases hA : i + 2 + 3 ≤ T.size
      · have hA1 : (i : Int) + 2 + 3 ≤ (T.size : Nat) := by omega
        obtain ⟨S, hS⟩ : ∃ S, T.extract (i + 2) (i + 2 + 3) = S := ⟨_, rfl⟩
        have hsl : ∀ W : World, (Instr.slice 9 (.string T) (some (.int .i64 ((i : Int) + 2))) (some (.int .i64 ((i : Int) + 2 + 3))) none).run Tryd.prog W = .ok (.string S) W := fun W => by
          have e1 : ((i : Int) + 2).toNat = i + 2 := by omega
          have e2 : ((i : Int) + 2 + 3).toNat = i + 2 + 3 := by omega
          have := run_slice_string (P := Tryd.prog) (w := W) 9 T .i64 .i64 ((i : Int) + 2) ((i : Int) + 2 + 3) Tryd.underlying9 (by omega) (by omega) hA1
          rw [this, e1, e2, hS]
        have hA5 : i + 2 + 3 ≤ T.size := hA
        have hA6 : i + 5 ≤ T.size := hA
        have hA7 : (i : Int) + 5 ≤ (T.size : Nat) := by omega
        have hSL : S.data.toList = L.take 3 := by
          rw [← hS, extract_list, HLL.out, show i + 2 + 3 - (i + 2) = 3 by omega]
        by_cases hB : L.take 3 = [110, 117, 108]
        · obtain rfl : S = ⟨#[110, 117, 108]⟩ := by apply ByteArray.ext; apply Array.ext'; rw [hSL, hB]
          have hq : endAt T (i + 2 + 3) = true ∨ endAt T (i + 2 + 3) = false := by cases endAt T (i + 2 + 3) <;> simp
          have hen := Lib.hid (fun w => refends_any T (i + 2 + 3) w)
          rcases hq with hq | hq
          · rw [hq] at hen
            have HE := Lib.hid (show R = (0, 11, 0, i + 2 + 3) by
              rw [← HJ.out.rest]
              show namesP T i L (([110, 117, 108], 0) :: names4.drop 4) = _
              rw [namesP, if_pos (by show (Lib.hasPrefix L [110, 117, 108] && endAt T (i + 2 + 3)) = true; rw [prefix_take, hq, Bool.and_true]; exact decide_eq_true hB)]
              rfl)
            clear hSL hB hq
            go_wp2_with fail
            go_quiet (((go_at_call 91; exact Calls.quiet_of_same (hen.out _))))
            have HQ := Lib.hid (HJ2.out nq)
            clear HJ HJ2 m0
            generalize wr.drewN nq = w5 at HQ ⊢
            have o0 : w5.cell? ⟨w.heap.size + 1 + 1 + 1 + 1 + 1, 3, none⟩ = some (.int .i64 0) := blk_cell HQ.out.2.2.2 3
            have t0 : w5.cell? ⟨w.heap.size, 0, none⟩ = some (.int .i64 11) := blk_cell HQ.out.1.tok 0
            have f0 := blk_frozen HQ.out.1.tok 0
            have t1 : w5.cell? ⟨w.heap.size, 1, none⟩ = some (.int .i64 0) := blk_cell HQ.out.1.tok 1
            have f1 := blk_frozen HQ.out.1.tok 1
            have t2 : w5.cell? ⟨w.heap.size, 2, none⟩ = some (.string ⟨#[]⟩) := blk_cell HQ.out.1.tok 2
            have f2 := blk_frozen HQ.out.1.tok 2
            have t3 : w5.cell? ⟨w.heap.size, 3, none⟩ = some (.int .i64 tl) := blk_cell HQ.out.1.tok 3
            have f3 := blk_frozen HQ.out.1.tok 3
            have t4 : w5.cell? ⟨w.heap.size, 4, none⟩ = some (.int .i64 tc) := blk_cell HQ.out.1.tok 4
            have f4 := blk_frozen HQ.out.1.tok 4
            have t5 : w5.cell? ⟨w.heap.size, 5, none⟩ = some (.int .i64 nx0) := blk_cell HQ.out.1.tok 5
            have f5 := blk_frozen HQ.out.1.tok 5
            have r0 : w5.cell? ⟨w.heap.size + 1, 0, none⟩ = some (.int .i64 0) := blk_cell HQ.out.1.res 0
            have s0 := blk_frozen HQ.out.1.res 0
            have r1 : w5.cell? ⟨w.heap.size + 1, 1, none⟩ = some (.int .i64 0) := blk_cell HQ.out.1.res 1
            have s1 := blk_frozen HQ.out.1.res 1
            have r2 : w5.cell? ⟨w.heap.size + 1, 2, none⟩ = some (.string ⟨#[]⟩) := blk_cell HQ.out.1.res 2
            have s2 := blk_frozen HQ.out.1.res 2
            have r3 : w5.cell? ⟨w.heap.size + 1, 3, none⟩ = some (.int .i64 0) := blk_cell HQ.out.1.res 3
            have s3 := blk_frozen HQ.out.1.res 3
            have r4 : w5.cell? ⟨w.heap.size + 1, 4, none⟩ = some (.int .i64 0) := blk_cell HQ.out.1.res 4
            have s4 := blk_frozen HQ.out.1.res 4
            have r5 : w5.cell? ⟨w.heap.size + 1, 5, none⟩ = some (.int .i64 0) := blk_cell HQ.out.1.res 5
            have s5 := blk_frozen HQ.out.1.res 5
            have z0 : w5.cell? ⟨w.heap.size + 1 + 1, 0, none⟩ = some (.int .i64 0) := blk_cell HQ.out.1.flt 0
            have y0 := blk_frozen HQ.out.1.flt 0
            have z1 : w5.cell? ⟨w.heap.size + 1 + 1, 1, none⟩ = some (.int .i64 0) := blk_cell HQ.out.1.flt 1
            have y1 := blk_frozen HQ.out.1.flt 1
            have z2 : w5.cell? ⟨w.heap.size + 1 + 1, 2, none⟩ = some (.int .i64 0) := blk_cell HQ.out.1.flt 2
            have y2 := blk_frozen HQ.out.1.flt 2
            go_wp2_with fail
            clear t0 t1 t2 t3 t4 t5 f0 f1 f2 f3 f4 f5 r0 s0 r1 s1 r2 s2 r3 s3 r4 s4 r5 s5 z0 y0 z1 y1 z2 y2 o0
            obtain ⟨WF, hWF, hX, hY, hZ⟩ := ret_put (w := w) (blk_far (blk_far HQ.out.1.res (by simp) _) (by simp) _) (blk_far (blk_far HQ.out.1.flt (by simp <;> omega) _) (by simp <;> omega) _) (below_set (below_set HQ.out.1.below (Nat.le_refl _)) (Nat.le_refl _)) (11) (0) (⟨#[]⟩) (tl) (tc) ((i : Int) + 2 + 3) (0) (0) (0)
            rw [hWF]
            clear hWF
            have q0 := blk_cell hX 0
            have q1 := blk_cell hX 1
            have q2 := blk_cell hX 2
            have q3 := blk_cell hX 3
            have q4 := blk_cell hX 4
            have q5 := blk_cell hX 5
            have u0 := blk_cell hY 0
            have u1 := blk_cell hY 1
            have u2 := blk_cell hY 2
            (try simp only [Exit.inBlock, Exit.then])
            refine bodyPost_ret (by simp [results, Tryd.results67, go_sem, q0, q1, q2, q3, q4, q5, u0, u1, u2]; rfl) rfl ?_
            exact ⟨by rw [HE.out]; rfl, hZ⟩
          · rw [hq] at hen
            have HNX := Lib.hid (show namesP T i L (names4.drop 4) = R by
              rw [← HJ.out.rest]
              show _ = namesP T i L (([110, 117, 108], 0) :: names4.drop 4)
              rw [namesP, if_neg (by show ¬ (Lib.hasPrefix L [110, 117, 108] && endAt T (i + 2 + 3)) = true; rw [hq]; simp)])
            clear hSL hB hq
            go_wp2_with fail
            go_quiet (((go_at_call 91; exact Calls.quiet_of_same (hen.out _))))
            all_goals go_wp2_with fail
            all_goals go_roundg (4 - 4)
            all_goals first | (show 4 - 4 < 4 - 3; omega) | exact ⟨4, rfl, rfl, Lib.hid ⟨(HJ2.out _).1, (HJ2.out _).2.1, (HJ2.out _).2.2.1, (HJ2.out _).2.2.2, HNX.out, by omega⟩⟩
        · have hSne : ¬ S.toList = [110, 117, 108] := by rw [ByteArray.toList_eq, hSL]; exact hB
          have hSnb : (S.toList == [110, 117, 108]) = false := by simpa using hSne
          have HNX := Lib.hid (show namesP T i L (names4.drop 4) = R by
            rw [← HJ.out.rest]
            show _ = namesP T i L (([110, 117, 108], 0) :: names4.drop 4)
            rw [namesP, if_neg (by rw [fits_no (x := ([110, 117, 108], 0)) hB]; decide)])
          clear hSL hB
          go_wp2_with fail
          go_quiet (fail)
          all_goals go_wp2_with fail
          all_goals go_roundg (4 - 4)
          all_goals first | (show 4 - 4 < 4 - 3; omega) | exact ⟨4, rfl, rfl, Lib.hid ⟨(HJ2.out _).1, (HJ2.out _).2.1, (HJ2.out _).2.2.1, (HJ2.out _).2.2.2, HNX.out, by omega⟩⟩
      · have hA1 : ¬ (i : Int) + 2 + 3 ≤ (T.size : Nat) := by omega
        have hA3 : decide ((i : Int) + 2 + 3 ≤ (T.size : Nat)) = false := decide_eq_false hA1
        have HNX := Lib.hid (show namesP T i L (names4.drop 4) = R by
          rw [← HJ.out.rest]
          show _ = namesP T i L (([110, 117, 108], 0) :: names4.drop 4)
          rw [namesP, if_neg (by rw [fits_no (x := ([110, 117, 108], 0)) (fun h => by have h2 := congrArg List.length h; rw [← HLL.out, List.length_take, List.length_drop] at h2; have : T.data.toList.length = T.size := (by simp); simp at h2; omega)]; decide)])
        go_wp2_with fail
        go_quiet (fail)
        all_goals go_wp2_with fail
        all_goals go_roundg (4 - 4)
        all_goals first | (show 4 - 4 < 4 - 3; omega) | exact ⟨4, rfl, rfl, Lib.hid ⟨(HJ2.out _).1, (HJ2.out _).2.1, (HJ2.out _).2.2.1, (HJ2.out _).2.2.2, HNX.out, by omega⟩⟩
    obtain rfl : j = 4 := by omega
    have HE := Lib.hid (show R = (6, 0, 0, 0) by rw [← HJ.out.rest]; rfl)
    have HB0 := Lib.hid HJ.out.blks
    have HBD := Lib.hid HJ.out.bad
    clear HJ
    go_wp2_with fail
    have g0 : wr.cell? ⟨w.heap.size + 1 + 1 + 1, 0, none⟩ = some (.int .i64 6) := blk_cell HBD.out 0
    have g1 : wr.cell? ⟨w.heap.size + 1 + 1 + 1, 1, none⟩ = some (.int .i64 tl) := blk_cell HBD.out 1
    have g2 : wr.cell? ⟨w.heap.size + 1 + 1 + 1, 2, none⟩ = some (.int .i64 tc) := blk_cell HBD.out 2
    have r0 : wr.cell? ⟨w.heap.size + 1, 0, none⟩ = some (.int .i64 0) := blk_cell HB0.out.res 0
    have s0 := blk_frozen HB0.out.res 0
    have r1 : wr.cell? ⟨w.heap.size + 1, 1, none⟩ = some (.int .i64 0) := blk_cell HB0.out.res 1
    have s1 := blk_frozen HB0.out.res 1
    have r2 : wr.cell? ⟨w.heap.size + 1, 2, none⟩ = some (.string ⟨#[]⟩) := blk_cell HB0.out.res 2
    have s2 := blk_frozen HB0.out.res 2
    have r3 : wr.cell? ⟨w.heap.size + 1, 3, none⟩ = some (.int .i64 0) := blk_cell HB0.out.res 3
    have s3 := blk_frozen HB0.out.res 3
    have r4 : wr.cell? ⟨w.heap.size + 1, 4, none⟩ = some (.int .i64 0) := blk_cell HB0.out.res 4
    have s4 := blk_frozen HB0.out.res 4
    have r5 : wr.cell? ⟨w.heap.size + 1, 5, none⟩ = some (.int .i64 0) := blk_cell HB0.out.res 5
    have s5 := blk_frozen HB0.out.res 5
    have z0 : wr.cell? ⟨w.heap.size + 1 + 1, 0, none⟩ = some (.int .i64 0) := blk_cell HB0.out.flt 0
    have y0 := blk_frozen HB0.out.flt 0
    have z1 : wr.cell? ⟨w.heap.size + 1 + 1, 1, none⟩ = some (.int .i64 0) := blk_cell HB0.out.flt 1
    have y1 := blk_frozen HB0.out.flt 1
    have z2 : wr.cell? ⟨w.heap.size + 1 + 1, 2, none⟩ = some (.int .i64 0) := blk_cell HB0.out.flt 2
    have y2 := blk_frozen HB0.out.flt 2
    go_region
    clear r0 s0 r1 s1 r2 s2 r3 s3 r4 s4 r5 s5 z0 y0 z1 y1 z2 y2 g0 g1 g2
    obtain ⟨WF, hWF, hX, hY, hZ⟩ := ret_put (w := w) (HB0.out.res) (HB0.out.flt) (HB0.out.below) 0 0 ⟨#[]⟩ 0 0 0 (6) (tl) (tc)
    rw [hWF]
    clear hWF
    have hX2 := blk_drew hX
    have hY2 := blk_drew hY
    have hZ2 := below_drew hZ
    clear hX hY hZ
    generalize WF.drew = w8 at hX2 hY2 hZ2 ⊢
    go_wp2_with fail
    have q0 := blk_cell hX2 0
    have q1 := blk_cell hX2 1
    have q2 := blk_cell hX2 2
    have q3 := blk_cell hX2 3
    have q4 := blk_cell hX2 4
    have q5 := blk_cell hX2 5
    have u0 := blk_cell hY2 0
    have u1 := blk_cell hY2 1
    have u2 := blk_cell hY2 2
    (try simp only [Exit.inBlock, Exit.then])
    refine bodyPost_ret (by simp [results, Tryd.results67, go_sem, q0, q1, q2, q3, q4, q5, u0, u1, u2]; rfl) rfl ?_
    exact ⟨by rw [HE.out]; rfl, hZ2⟩

end Go.Proofs.YthighbbikpnpgaaDoor
