/-
  The reference's sharp: the names, another way into the loop.
-/
import Derived.Test.YthighbbikpnpgaaDoorLrG
namespace Go.Proofs.YthighbbikpnpgaaDoor
open Go.RowKit Go.Proofs.YthighbbikpnpgaaDoorW.PrintWords

set_option maxRecDepth 400000 in
set_option maxHeartbeats 8000000 in
theorem refsharp_n2 (T : ByteArray) (i : Nat) (tl tc nx0 : Int) (w : World) (_hi : i < T.size) (hT : T.size ≤ 1000000000) (hS : i + 2 < T.size) (hx : ∀ h, T[i + 1]'h = 92) (y : UInt8) (hy : ∀ h, T[i + 2]'h = y) (h32 : y.toNat ≤ 32) :
    Calls Tryd.prog 67 #[.string T, .int .i64 (i : Nat), .agg #[.int .i64 0, .int .i64 0, .string ⟨#[]⟩, .int .i64 tl, .int .i64 tc, .int .i64 nx0]] w (NextTo (refRet ((namesP T i (T.data.toList.drop (i + 2)) names4).1, ⟨(namesP T i (T.data.toList.drop (i + 2)) names4).2.1, (namesP T i (T.data.toList.drop (i + 2)) names4).2.2.1, [], tl, tc, (namesP T i (T.data.toList.drop (i + 2)) names4).2.2.2⟩)) w) := by
  obtain ⟨L, hL⟩ : ∃ L, T.data.toList.drop (i + 2) = L := ⟨_, rfl⟩
  have HLL := Lib.hid hL
  rw [hL]
  obtain ⟨R, hR⟩ : ∃ R, namesP T i L names4 = R := ⟨_, rfl⟩
  have HR := Lib.hid hR
  rw [hR]
  have HYL := Lib.hid (show L.take 1 = [y] by
    rw [← hL, List.drop_eq_getElem_cons (by simpa using hS), List.take_succ_cons, List.take_zero]
    exact congrArg (fun c => [c]) (hy hS))
  clear hL hR
  have hi1 : (i : Int) + 1 < (T.size : Nat) := by omega
  have hi2 : ¬ (T.size : Int) ≤ (i : Nat) + 1 := by omega
  have hbx : ∀ h, T[i + 1]'h = 92 := hx
  have hi3 : (i : Int) + 2 < (T.size : Nat) := by omega
  have hby : ∀ h, T[i + 2]'h = y := hy
  have y256 : y.toNat < 256 := y.toNat_lt
  have y32 : decide ((32 : Int) < y.toNat) = false := decide_eq_false (by omega)
  have y33 : ¬ (32 : Int) < y.toNat := by omega
  go_enter Tryd.func67, Tryd.ntmps67
  go_wp2_with fail
  have HI := Lib.hid (rn_start T i w tl tc nx0 L R HR.out)
  generalize (((((w.alloc (.cells #[.int .i64 11, .int .i64 0, .string ⟨#[]⟩, .int .i64 tl, .int .i64 tc, .int .i64 nx0] TT)).alloc (.cells #[.int .i64 0, .int .i64 0, .string ⟨#[]⟩, .int .i64 0, .int .i64 0, .int .i64 0] TT)).alloc (.cells #[.int .i64 0, .int .i64 0, .int .i64 0] 64)).alloc (.cells #[.int .i64 6, .int .i64 tl, .int .i64 tc] 64)).alloc (.cells #[.string ⟨#[115, 112, 97, 99, 101]⟩, .string ⟨#[110, 101, 119, 108, 105, 110, 101]⟩, .string ⟨#[116, 97, 98]⟩, .string ⟨#[110, 117, 108]⟩] 9)).alloc (.cells #[.int .i64 32, .int .i64 10, .int .i64 9, .int .i64 0] 3) = w0 at HI ⊢
  go_loopg [11] 4 (fun gk v w' => ∃ (j : Nat), v = .int .i64 (j : Nat) ∧ gk = 4 - j ∧ Hid (RnI T i w tl tc nx0 L R j w'))
  case atStart => exact ⟨0, rfl, rfl, HI⟩
  case round =>
    clear HI HR
    obtain ⟨j, rfl, rfl, HJ⟩ := hrel
    have hj := HJ.out.le
    by_cases h0 : j = 0
    · subst h0
      have m0 : wr.cell? ⟨w.heap.size + 1 + 1 + 1 + 1, 0, none⟩ = some (.string ⟨#[115, 112, 97, 99, 101]⟩) := blk_cell HJ.out.nam 0
      have HJ2 := Lib.hid (fun m => show Blks w 11 0 ⟨#[]⟩ tl tc nx0 (wr.drewN m) ∧ FltAt (w.heap.size + 1 + 1 + 1) 6 tl tc (wr.drewN m) ∧ (wr.drewN m).heap[w.heap.size + 1 + 1 + 1 + 1]? = some (.cells #[.string ⟨#[115, 112, 97, 99, 101]⟩, .string ⟨#[110, 101, 119, 108, 105, 110, 101]⟩, .string ⟨#[116, 97, 98]⟩, .string ⟨#[110, 117, 108]⟩] 9 (0, 0)) ∧ (wr.drewN m).heap[w.heap.size + 1 + 1 + 1 + 1 + 1]? = some (.cells #[.int .i64 32, .int .i64 10, .int .i64 9, .int .i64 0] 3 (0, 0)) from
        ⟨⟨HJ.out.blks.tok, HJ.out.blks.res, HJ.out.blks.flt, ⟨HJ.out.blks.below.os, HJ.out.blks.below.tape, HJ.out.blks.below.output, HJ.out.blks.below.size, HJ.out.blks.below.block⟩⟩, HJ.out.bad, HJ.out.nam, HJ.out.cod⟩)
      by_cases hA : i + 2 + 5 ≤ T.size
      · have hA1 : (i : Int) + 2 + 5 ≤ (T.size : Nat) := by omega
        obtain ⟨S, hS⟩ : ∃ S, T.extract (i + 2) (i + 2 + 5) = S := ⟨_, rfl⟩
        have hsl : ∀ W : World, (Instr.slice 9 (.string T) (some (.int .i64 ((i : Int) + 2))) (some (.int .i64 ((i : Int) + 2 + 5))) none).run Tryd.prog W = .ok (.string S) W := fun W => by
          have e1 : ((i : Int) + 2).toNat = i + 2 := by omega
          have e2 : ((i : Int) + 2 + 5).toNat = i + 2 + 5 := by omega
          have := run_slice_string (P := Tryd.prog) (w := W) 9 T .i64 .i64 ((i : Int) + 2) ((i : Int) + 2 + 5) Tryd.underlying9 (by omega) (by omega) hA1
          rw [this, e1, e2, hS]
        have hA5 : i + 2 + 5 ≤ T.size := hA
        have hA6 : i + 7 ≤ T.size := hA
        have hA7 : (i : Int) + 7 ≤ (T.size : Nat) := by omega
        have hSL : S.data.toList = L.take 5 := by
          rw [← hS, extract_list, HLL.out, show i + 2 + 5 - (i + 2) = 5 by omega]
        have hB : ¬ L.take 5 = [115, 112, 97, 99, 101] := fun h => by
          have h2 := congrArg (List.take 1) h
          rw [List.take_take, show min 1 5 = 1 from rfl, HYL.out] at h2
          have h3 : y = 115 := by simpa using h2
          rw [h3] at h32
          exact absurd h32 (by decide)
        have hSne : ¬ S.toList = [115, 112, 97, 99, 101] := by rw [ByteArray.toList_eq, hSL]; exact hB
        have hSnb : (S.toList == [115, 112, 97, 99, 101]) = false := by simpa using hSne
        have HNX := Lib.hid (show namesP T i L (names4.drop 1) = R by
          rw [← HJ.out.rest]
          show _ = namesP T i L (([115, 112, 97, 99, 101], 32) :: names4.drop 1)
          rw [namesP, if_neg (by rw [fits_no (x := ([115, 112, 97, 99, 101], 32)) hB]; decide)])
        clear hSL hB
        go_wp2_with fail
        go_quiet (fail)
        all_goals go_wp2_with fail
        all_goals go_roundg (4 - 1)
        all_goals first | (show 4 - 1 < 4 - 0; omega) | exact ⟨1, rfl, rfl, Lib.hid ⟨(HJ2.out _).1, (HJ2.out _).2.1, (HJ2.out _).2.2.1, (HJ2.out _).2.2.2, HNX.out, by omega⟩⟩
      · have hA1 : ¬ (i : Int) + 2 + 5 ≤ (T.size : Nat) := by omega
        have hA3 : decide ((i : Int) + 2 + 5 ≤ (T.size : Nat)) = false := decide_eq_false hA1
        have HNX := Lib.hid (show namesP T i L (names4.drop 1) = R by
          rw [← HJ.out.rest]
          show _ = namesP T i L (([115, 112, 97, 99, 101], 32) :: names4.drop 1)
          rw [namesP, if_neg (by rw [fits_no (x := ([115, 112, 97, 99, 101], 32)) (fun h => by have h2 := congrArg List.length h; rw [← HLL.out, List.length_take, List.length_drop] at h2; have : T.data.toList.length = T.size := (by simp); simp at h2; omega)]; decide)])
        go_wp2_with fail
        go_quiet (fail)
        all_goals go_wp2_with fail
        all_goals go_roundg (4 - 1)
        all_goals first | (show 4 - 1 < 4 - 0; omega) | exact ⟨1, rfl, rfl, Lib.hid ⟨(HJ2.out _).1, (HJ2.out _).2.1, (HJ2.out _).2.2.1, (HJ2.out _).2.2.2, HNX.out, by omega⟩⟩
    by_cases h1 : j = 1
    · subst h1
      have m0 : wr.cell? ⟨w.heap.size + 1 + 1 + 1 + 1, 1, none⟩ = some (.string ⟨#[110, 101, 119, 108, 105, 110, 101]⟩) := blk_cell HJ.out.nam 1
      have HJ2 := Lib.hid (fun m => show Blks w 11 0 ⟨#[]⟩ tl tc nx0 (wr.drewN m) ∧ FltAt (w.heap.size + 1 + 1 + 1) 6 tl tc (wr.drewN m) ∧ (wr.drewN m).heap[w.heap.size + 1 + 1 + 1 + 1]? = some (.cells #[.string ⟨#[115, 112, 97, 99, 101]⟩, .string ⟨#[110, 101, 119, 108, 105, 110, 101]⟩, .string ⟨#[116, 97, 98]⟩, .string ⟨#[110, 117, 108]⟩] 9 (0, 0)) ∧ (wr.drewN m).heap[w.heap.size + 1 + 1 + 1 + 1 + 1]? = some (.cells #[.int .i64 32, .int .i64 10, .int .i64 9, .int .i64 0] 3 (0, 0)) from
        ⟨⟨HJ.out.blks.tok, HJ.out.blks.res, HJ.out.blks.flt, ⟨HJ.out.blks.below.os, HJ.out.blks.below.tape, HJ.out.blks.below.output, HJ.out.blks.below.size, HJ.out.blks.below.block⟩⟩, HJ.out.bad, HJ.out.nam, HJ.out.cod⟩)
      by_cases hA : i + 2 + 7 ≤ T.size
      · have hA1 : (i : Int) + 2 + 7 ≤ (T.size : Nat) := by omega
        obtain ⟨S, hS⟩ : ∃ S, T.extract (i + 2) (i + 2 + 7) = S := ⟨_, rfl⟩
        have hsl : ∀ W : World, (Instr.slice 9 (.string T) (some (.int .i64 ((i : Int) + 2))) (some (.int .i64 ((i : Int) + 2 + 7))) none).run Tryd.prog W = .ok (.string S) W := fun W => by
          have e1 : ((i : Int) + 2).toNat = i + 2 := by omega
          have e2 : ((i : Int) + 2 + 7).toNat = i + 2 + 7 := by omega
          have := run_slice_string (P := Tryd.prog) (w := W) 9 T .i64 .i64 ((i : Int) + 2) ((i : Int) + 2 + 7) Tryd.underlying9 (by omega) (by omega) hA1
          rw [this, e1, e2, hS]
        have hA5 : i + 2 + 7 ≤ T.size := hA
        have hA6 : i + 9 ≤ T.size := hA
        have hA7 : (i : Int) + 9 ≤ (T.size : Nat) := by omega
        have hSL : S.data.toList = L.take 7 := by
          rw [← hS, extract_list, HLL.out, show i + 2 + 7 - (i + 2) = 7 by omega]
        have hB : ¬ L.take 7 = [110, 101, 119, 108, 105, 110, 101] := fun h => by
          have h2 := congrArg (List.take 1) h
          rw [List.take_take, show min 1 7 = 1 from rfl, HYL.out] at h2
          have h3 : y = 110 := by simpa using h2
          rw [h3] at h32
          exact absurd h32 (by decide)
        have hSne : ¬ S.toList = [110, 101, 119, 108, 105, 110, 101] := by rw [ByteArray.toList_eq, hSL]; exact hB
        have hSnb : (S.toList == [110, 101, 119, 108, 105, 110, 101]) = false := by simpa using hSne
        have HNX := Lib.hid (show namesP T i L (names4.drop 2) = R by
          rw [← HJ.out.rest]
          show _ = namesP T i L (([110, 101, 119, 108, 105, 110, 101], 10) :: names4.drop 2)
          rw [namesP, if_neg (by rw [fits_no (x := ([110, 101, 119, 108, 105, 110, 101], 10)) hB]; decide)])
        clear hSL hB
        go_wp2_with fail
        go_quiet (fail)
        all_goals go_wp2_with fail
        all_goals go_roundg (4 - 2)
        all_goals first | (show 4 - 2 < 4 - 1; omega) | exact ⟨2, rfl, rfl, Lib.hid ⟨(HJ2.out _).1, (HJ2.out _).2.1, (HJ2.out _).2.2.1, (HJ2.out _).2.2.2, HNX.out, by omega⟩⟩
      · have hA1 : ¬ (i : Int) + 2 + 7 ≤ (T.size : Nat) := by omega
        have hA3 : decide ((i : Int) + 2 + 7 ≤ (T.size : Nat)) = false := decide_eq_false hA1
        have HNX := Lib.hid (show namesP T i L (names4.drop 2) = R by
          rw [← HJ.out.rest]
          show _ = namesP T i L (([110, 101, 119, 108, 105, 110, 101], 10) :: names4.drop 2)
          rw [namesP, if_neg (by rw [fits_no (x := ([110, 101, 119, 108, 105, 110, 101], 10)) (fun h => by have h2 := congrArg List.length h; rw [← HLL.out, List.length_take, List.length_drop] at h2; have : T.data.toList.length = T.size := (by simp); simp at h2; omega)]; decide)])
        go_wp2_with fail
        go_quiet (fail)
        all_goals go_wp2_with fail
        all_goals go_roundg (4 - 2)
        all_goals first | (show 4 - 2 < 4 - 1; omega) | exact ⟨2, rfl, rfl, Lib.hid ⟨(HJ2.out _).1, (HJ2.out _).2.1, (HJ2.out _).2.2.1, (HJ2.out _).2.2.2, HNX.out, by omega⟩⟩
    by_cases h2 : j = 2
    · subst h2
      have m0 : wr.cell? ⟨w.heap.size + 1 + 1 + 1 + 1, 2, none⟩ = some (.string ⟨#[116, 97, 98]⟩) := blk_cell HJ.out.nam 2
      have HJ2 := Lib.hid (fun m => show Blks w 11 0 ⟨#[]⟩ tl tc nx0 (wr.drewN m) ∧ FltAt (w.heap.size + 1 + 1 + 1) 6 tl tc (wr.drewN m) ∧ (wr.drewN m).heap[w.heap.size + 1 + 1 + 1 + 1]? = some (.cells #[.string ⟨#[115, 112, 97, 99, 101]⟩, .string ⟨#[110, 101, 119, 108, 105, 110, 101]⟩, .string ⟨#[116, 97, 98]⟩, .string ⟨#[110, 117, 108]⟩] 9 (0, 0)) ∧ (wr.drewN m).heap[w.heap.size + 1 + 1 + 1 + 1 + 1]? = some (.cells #[.int .i64 32, .int .i64 10, .int .i64 9, .int .i64 0] 3 (0, 0)) from
        ⟨⟨HJ.out.blks.tok, HJ.out.blks.res, HJ.out.blks.flt, ⟨HJ.out.blks.below.os, HJ.out.blks.below.tape, HJ.out.blks.below.output, HJ.out.blks.below.size, HJ.out.blks.below.block⟩⟩, HJ.out.bad, HJ.out.nam, HJ.out.cod⟩)
      by_cases hA : i + 2 + 3 ≤ T.size
      · have hA1 : (i : Int) + 2 + 3 ≤ (T.size : Nat) := by omega
        obtain ⟨S, hS⟩ : ∃ S, T.extract (i + 2) (i + 2 + 3) = S := ⟨_, rfl⟩
        have hsl : ∀ W : World, (Instr.slice 9 (.string T) (some (.int .i64 ((i : Int) + 2))) (some (.int .i64 ((i : Int) + 2 + 3))) none).run Tryd.prog W = .ok (.string S) W := fun W => by
          have e1 : ((i : Int) + 2).toNat = i + 2 := by omega
          have e2 : ((i : Int) + 2 + 3).toNat = i + 2 + 3 := by omega
          have := run_slice_string (P := Tryd.prog) (w := W) 9 T .i64 .i64 ((i : Int) + 2) ((i : Int) + 2 + 3) Tryd.underlying9 (by omega) (by omega) hA1
          rw [this, e1, e2, hS]
        have hA5 : i + 2 + 3 ≤ T.size := hA
        have hA6 : i + 5 ≤ T.size := hA
        have hA7 : (i : Int) + 5 ≤ (T.size : Nat) := by omega
        have hSL : S.data.toList = L.take 3 := by
          rw [← hS, extract_list, HLL.out, show i + 2 + 3 - (i + 2) = 3 by omega]
        have hB : ¬ L.take 3 = [116, 97, 98] := fun h => by
          have h2 := congrArg (List.take 1) h
          rw [List.take_take, show min 1 3 = 1 from rfl, HYL.out] at h2
          have h3 : y = 116 := by simpa using h2
          rw [h3] at h32
          exact absurd h32 (by decide)
        have hSne : ¬ S.toList = [116, 97, 98] := by rw [ByteArray.toList_eq, hSL]; exact hB
        have hSnb : (S.toList == [116, 97, 98]) = false := by simpa using hSne
        have HNX := Lib.hid (show namesP T i L (names4.drop 3) = R by
          rw [← HJ.out.rest]
          show _ = namesP T i L (([116, 97, 98], 9) :: names4.drop 3)
          rw [namesP, if_neg (by rw [fits_no (x := ([116, 97, 98], 9)) hB]; decide)])
        clear hSL hB
        go_wp2_with fail
        go_quiet (fail)
        all_goals go_wp2_with fail
        all_goals go_roundg (4 - 3)
        all_goals first | (show 4 - 3 < 4 - 2; omega) | exact ⟨3, rfl, rfl, Lib.hid ⟨(HJ2.out _).1, (HJ2.out _).2.1, (HJ2.out _).2.2.1, (HJ2.out _).2.2.2, HNX.out, by omega⟩⟩
      · have hA1 : ¬ (i : Int) + 2 + 3 ≤ (T.size : Nat) := by omega
        have hA3 : decide ((i : Int) + 2 + 3 ≤ (T.size : Nat)) = false := decide_eq_false hA1
        have HNX := Lib.hid (show namesP T i L (names4.drop 3) = R by
          rw [← HJ.out.rest]
          show _ = namesP T i L (([116, 97, 98], 9) :: names4.drop 3)
          rw [namesP, if_neg (by rw [fits_no (x := ([116, 97, 98], 9)) (fun h => by have h2 := congrArg List.length h; rw [← HLL.out, List.length_take, List.length_drop] at h2; have : T.data.toList.length = T.size := (by simp); simp at h2; omega)]; decide)])
        go_wp2_with fail
        go_quiet (fail)
        all_goals go_wp2_with fail
        all_goals go_roundg (4 - 3)
        all_goals first | (show 4 - 3 < 4 - 2; omega) | exact ⟨3, rfl, rfl, Lib.hid ⟨(HJ2.out _).1, (HJ2.out _).2.1, (HJ2.out _).2.2.1, (HJ2.out _).2.2.2, HNX.out, by omega⟩⟩
    by_cases h3 : j = 3
    · subst h3
      have m0 : wr.cell? ⟨w.heap.size + 1 + 1 + 1 + 1, 3, none⟩ = some (.string ⟨#[110, 117, 108]⟩) := blk_cell HJ.out.nam 3
      have HJ2 := Lib.hid (fun m => show Blks w 11 0 ⟨#[]⟩ tl tc nx0 (wr.drewN m) ∧ FltAt (w.heap.size + 1 + 1 + 1) 6 tl tc (wr.drewN m) ∧ (wr.drewN m).heap[w.heap.size + 1 + 1 + 1 + 1]? = some (.cells #[.string ⟨#[115, 112, 97, 99, 101]⟩, .string ⟨#[110, 101, 119, 108, 105, 110, 101]⟩, .string ⟨#[116, 97, 98]⟩, .string ⟨#[110, 117, 108]⟩] 9 (0, 0)) ∧ (wr.drewN m).heap[w.heap.size + 1 + 1 + 1 + 1 + 1]? = some (.cells #[.int .i64 32, .int .i64 10, .int .i64 9, .int .i64 0] 3 (0, 0)) from
        ⟨⟨HJ.out.blks.tok, HJ.out.blks.res, HJ.out.blks.flt, ⟨HJ.out.blks.below.os, HJ.out.blks.below.tape, HJ.out.blks.below.output, HJ.out.blks.below.size, HJ.out.blks.below.block⟩⟩, HJ.out.bad, HJ.out.nam, HJ.out.cod⟩)
      by_cases hA : i + 2 + 3 ≤ T.size
      · have hA1 : (i : Int) + 2 + 3 ≤ (T.size : Nat) := by omega
        obtain ⟨S, hS⟩ : ∃ S, T.extract (i + 2) (i + 2 + 3) = S := ⟨_, rfl⟩
        have hsl : ∀ W : World, (Instr.slice 9 (.string T) (some (.int .i64 ((i : Int) + 2))) (some (.int .i64 ((i : Int) + 2 + 3))) none).run Tryd.prog W = .ok (.string S) W := fun W => by
          have e1 : ((i : Int) + 2).toNat = i + 2 := by omega
          have e2 : ((i : Int) + 2 + 3).toNat = i + 2 + 3 := by omega
          have := run_slice_string (P := Tryd.prog) (w := W) 9 T .i64 .i64 ((i : Int) + 2) ((i : Int) + 2 + 3) Tryd.underlying9 (by omega) (by omega) hA1
          rw [this, e1, e2, hS]
        have hA5 : i + 2 + 3 ≤ T.size := hA
        have hA6 : i + 5 ≤ T.size := hA
        have hA7 : (i : Int) + 5 ≤ (T.size : Nat) := by omega
        have hSL : S.data.toList = L.take 3 := by
          rw [← hS, extract_list, HLL.out, show i + 2 + 3 - (i + 2) = 3 by omega]
        have hB : ¬ L.take 3 = [110, 117, 108] := fun h => by
          have h2 := congrArg (List.take 1) h
          rw [List.take_take, show min 1 3 = 1 from rfl, HYL.out] at h2
          have h3 : y = 110 := by simpa using h2
          rw [h3] at h32
          exact absurd h32 (by decide)
        have hSne : ¬ S.toList = [110, 117, 108] := by rw [ByteArray.toList_eq, hSL]; exact hB
        have hSnb : (S.toList == [110, 117, 108]) = false := by simpa using hSne
        have HNX := Lib.hid (show namesP T i L (names4.drop 4) = R by
          rw [← HJ.out.rest]
          show _ = namesP T i L (([110, 117, 108], 0) :: names4.drop 4)
          rw [namesP, if_neg (by rw [fits_no (x := ([110, 117, 108], 0)) hB]; decide)])
        clear hSL hB
        go_wp2_with fail
        go_quiet (fail)
        all_goals go_wp2_with fail
        all_goals go_roundg (4 - 4)
        all_goals first | (show 4 - 4 < 4 - 3; omega) | exact ⟨4, rfl, rfl, Lib.hid ⟨(HJ2.out _).1, (HJ2.out _).2.1, (HJ2.out _).2.2.1, (HJ2.out _).2.2.2, HNX.out, by omega⟩⟩
      · have hA1 : ¬ (i : Int) + 2 + 3 ≤ (T.size : Nat) := by omega
        have hA3 : decide ((i : Int) + 2 + 3 ≤ (T.size : Nat)) = false := decide_eq_false hA1
        have HNX := Lib.hid (show namesP T i L (names4.drop 4) = R by
          rw [← HJ.out.rest]
          show _ = namesP T i L (([110, 117, 108], 0) :: names4.drop 4)
          rw [namesP, if_neg (by rw [fits_no (x := ([110, 117, 108], 0)) (fun h => by have h2 := congrArg List.length h; rw [← HLL.out, List.length_take, List.length_drop] at h2; have : T.data.toList.length = T.size := (by simp); simp at h2; omega)]; decide)])
        go_wp2_with fail
        go_quiet (fail)
        all_goals go_wp2_with fail
        all_goals go_roundg (4 - 4)
        all_goals first | (show 4 - 4 < 4 - 3; omega) | exact ⟨4, rfl, rfl, Lib.hid ⟨(HJ2.out _).1, (HJ2.out _).2.1, (HJ2.out _).2.2.1, (HJ2.out _).2.2.2, HNX.out, by omega⟩⟩
    obtain rfl : j = 4 := by omega
    have HE := Lib.hid (show R = (6, 0, 0, 0) by rw [← HJ.out.rest]; rfl)
    have HB0 := Lib.hid HJ.out.blks
    have HBD := Lib.hid HJ.out.bad
    clear HJ
    go_wp2_with fail
    have g0 : wr.cell? ⟨w.heap.size + 1 + 1 + 1, 0, none⟩ = some (.int .i64 6) := blk_cell HBD.out 0
    have g1 : wr.cell? ⟨w.heap.size + 1 + 1 + 1, 1, none⟩ = some (.int .i64 tl) := blk_cell HBD.out 1
    have g2 : wr.cell? ⟨w.heap.size + 1 + 1 + 1, 2, none⟩ = some (.int .i64 tc) := blk_cell HBD.out 2
    have r0 : wr.cell? ⟨w.heap.size + 1, 0, none⟩ = some (.int .i64 0) := blk_cell HB0.out.res 0
    have s0 := blk_frozen HB0.out.res 0
    have r1 : wr.cell? ⟨w.heap.size + 1, 1, none⟩ = some (.int .i64 0) := blk_cell HB0.out.res 1
    have s1 := blk_frozen HB0.out.res 1
    have r2 : wr.cell? ⟨w.heap.size + 1, 2, none⟩ = some (.string ⟨#[]⟩) := blk_cell HB0.out.res 2
    have s2 := blk_frozen HB0.out.res 2
    have r3 : wr.cell? ⟨w.heap.size + 1, 3, none⟩ = some (.int .i64 0) := blk_cell HB0.out.res 3
    have s3 := blk_frozen HB0.out.res 3
    have r4 : wr.cell? ⟨w.heap.size + 1, 4, none⟩ = some (.int .i64 0) := blk_cell HB0.out.res 4
    have s4 := blk_frozen HB0.out.res 4
    have r5 : wr.cell? ⟨w.heap.size + 1, 5, none⟩ = some (.int .i64 0) := blk_cell HB0.out.res 5
    have s5 := blk_frozen HB0.out.res 5
    have z0 : wr.cell? ⟨w.heap.size + 1 + 1, 0, none⟩ = some (.int .i64 0) := blk_cell HB0.out.flt 0
    have y0 := blk_frozen HB0.out.flt 0
    have z1 : wr.cell? ⟨w.heap.size + 1 + 1, 1, none⟩ = some (.int .i64 0) := blk_cell HB0.out.flt 1
    have y1 := blk_frozen HB0.out.flt 1
    have z2 : wr.cell? ⟨w.heap.size + 1 + 1, 2, none⟩ = some (.int .i64 0) := blk_cell HB0.out.flt 2
    have y2 := blk_frozen HB0.out.flt 2
    go_region
    clear r0 s0 r1 s1 r2 s2 r3 s3 r4 s4 r5 s5 z0 y0 z1 y1 z2 y2 g0 g1 g2
    obtain ⟨WF, hWF, hX, hY, hZ⟩ := ret_put (w := w) (HB0.out.res) (HB0.out.flt) (HB0.out.below) 0 0 ⟨#[]⟩ 0 0 0 (6) (tl) (tc)
    rw [hWF]
    clear hWF
    have hX2 := blk_drew hX
    have hY2 := blk_drew hY
    have hZ2 := below_drew hZ
    clear hX hY hZ
    generalize WF.drew = w8 at hX2 hY2 hZ2 ⊢
    go_wp2_with fail
    have q0 := blk_cell hX2 0
    have q1 := blk_cell hX2 1
    have q2 := blk_cell hX2 2
    have q3 := blk_cell hX2 3
    have q4 := blk_cell hX2 4
    have q5 := blk_cell hX2 5
    have u0 := blk_cell hY2 0
    have u1 := blk_cell hY2 1
    have u2 := blk_cell hY2 2
    (try simp only [Exit.inBlock, Exit.then])
    refine bodyPost_ret (by simp [results, Tryd.results67, go_sem, q0, q1, q2, q3, q4, q5, u0, u1, u2]; rfl) rfl ?_
    exact ⟨by rw [HE.out]; rfl, hZ2⟩

end Go.Proofs.YthighbbikpnpgaaDoor
