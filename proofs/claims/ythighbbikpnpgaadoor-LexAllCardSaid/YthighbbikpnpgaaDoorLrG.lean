/-
  The reference's sharp: the names.
-/
import Derived.Test.YthighbbikpnpgaaDoorLrF
import Derived.Deep.LoopGhost
import Derived.Deep.QuietTactic
import Derived.BigQuiet
namespace Go.Proofs.YthighbbikpnpgaaDoor
open Go.RowKit Go.Proofs.YthighbbikpnpgaaDoorW.PrintWords

theorem prefix_take (L n : List UInt8) : Lib.hasPrefix L n = decide (L.take n.length = n) := by
  show n.isPrefixOf L = _
  by_cases h : L.take n.length = n
  · rw [decide_eq_true h]
    exact List.isPrefixOf_iff_prefix.2 (by rw [← h]; exact List.take_prefix _ _)
  · rw [decide_eq_false h]
    cases hp : n.isPrefixOf L with
    | false => rfl
    | true => exact absurd (List.prefix_iff_eq_take.1 (List.isPrefixOf_iff_prefix.1 hp)).symm h
theorem fits_no {T : ByteArray} {i : Nat} {L : List UInt8} {x : List UInt8 × Int} (h : L.take x.1.length ≠ x.1) : nameFits T i L x = false := by
  rw [nameFits, prefix_take, decide_eq_false h]; rfl

structure RnI (T : ByteArray) (i : Nat) (w : World) (tl tc nx0 : Int) (L : List UInt8) (R : Int × Int × Int × Nat) (j : Nat) (w' : World) : Prop where
  blks : Blks w 11 0 ⟨#[]⟩ tl tc nx0 w'
  bad : FltAt (w.heap.size + 1 + 1 + 1) 6 tl tc w'
  nam : w'.heap[w.heap.size + 1 + 1 + 1 + 1]? = some (.cells #[.string ⟨#[115, 112, 97, 99, 101]⟩, .string ⟨#[110, 101, 119, 108, 105, 110, 101]⟩, .string ⟨#[116, 97, 98]⟩, .string ⟨#[110, 117, 108]⟩] 9 (0, 0))
  cod : w'.heap[w.heap.size + 1 + 1 + 1 + 1 + 1]? = some (.cells #[.int .i64 32, .int .i64 10, .int .i64 9, .int .i64 0] 3 (0, 0))
  rest : namesP T i L (names4.drop j) = R
  le : j ≤ 4

theorem rn_start (T : ByteArray) (i : Nat) (w : World) (tl tc nx0 : Int) (L : List UInt8) (R : Int × Int × Int × Nat) (h : namesP T i L names4 = R) : RnI T i w tl tc nx0 L R 0 ((((((w.alloc (.cells #[.int .i64 11, .int .i64 0, .string ⟨#[]⟩, .int .i64 tl, .int .i64 tc, .int .i64 nx0] TT)).alloc (.cells #[.int .i64 0, .int .i64 0, .string ⟨#[]⟩, .int .i64 0, .int .i64 0, .int .i64 0] TT)).alloc (.cells #[.int .i64 0, .int .i64 0, .int .i64 0] 64)).alloc (.cells #[.int .i64 6, .int .i64 tl, .int .i64 tc] 64)).alloc (.cells #[.string ⟨#[115, 112, 97, 99, 101]⟩, .string ⟨#[110, 101, 119, 108, 105, 110, 101]⟩, .string ⟨#[116, 97, 98]⟩, .string ⟨#[110, 117, 108]⟩] 9)).alloc (.cells #[.int .i64 32, .int .i64 10, .int .i64 9, .int .i64 0] 3)) := by
  have hb : Below (((((w.alloc (.cells #[.int .i64 11, .int .i64 0, .string ⟨#[]⟩, .int .i64 tl, .int .i64 tc, .int .i64 nx0] TT)).alloc (.cells #[.int .i64 0, .int .i64 0, .string ⟨#[]⟩, .int .i64 0, .int .i64 0, .int .i64 0] TT)).alloc (.cells #[.int .i64 0, .int .i64 0, .int .i64 0] 64)).alloc (.cells #[.int .i64 6, .int .i64 tl, .int .i64 tc] 64))).heap.size ((((w.alloc (.cells #[.int .i64 11, .int .i64 0, .string ⟨#[]⟩, .int .i64 tl, .int .i64 tc, .int .i64 nx0] TT)).alloc (.cells #[.int .i64 0, .int .i64 0, .string ⟨#[]⟩, .int .i64 0, .int .i64 0, .int .i64 0] TT)).alloc (.cells #[.int .i64 0, .int .i64 0, .int .i64 0] 64)).alloc (.cells #[.int .i64 6, .int .i64 tl, .int .i64 tc] 64)) ((((((w.alloc (.cells #[.int .i64 11, .int .i64 0, .string ⟨#[]⟩, .int .i64 tl, .int .i64 tc, .int .i64 nx0] TT)).alloc (.cells #[.int .i64 0, .int .i64 0, .string ⟨#[]⟩, .int .i64 0, .int .i64 0, .int .i64 0] TT)).alloc (.cells #[.int .i64 0, .int .i64 0, .int .i64 0] 64)).alloc (.cells #[.int .i64 6, .int .i64 tl, .int .i64 tc] 64)).alloc (.cells #[.string ⟨#[115, 112, 97, 99, 101]⟩, .string ⟨#[110, 101, 119, 108, 105, 110, 101]⟩, .string ⟨#[116, 97, 98]⟩, .string ⟨#[110, 117, 108]⟩] 9)).alloc (.cells #[.int .i64 32, .int .i64 10, .int .i64 9, .int .i64 0] 3)) := below_alloc (below_alloc (Below.refl _ _) _) _
  have hsz : ((((w.alloc (.cells #[.int .i64 11, .int .i64 0, .string ⟨#[]⟩, .int .i64 tl, .int .i64 tc, .int .i64 nx0] TT)).alloc (.cells #[.int .i64 0, .int .i64 0, .string ⟨#[]⟩, .int .i64 0, .int .i64 0, .int .i64 0] TT)).alloc (.cells #[.int .i64 0, .int .i64 0, .int .i64 0] 64)).alloc (.cells #[.int .i64 6, .int .i64 tl, .int .i64 tc] 64)).heap.size = w.heap.size + 1 + 1 + 1 + 1 := by simp
  refine ⟨((blks_start w 11 0 ⟨#[]⟩ tl tc nx0).step (below_alloc (Below.refl _ _) _)).step hb, blk_below (bad_start2 w tl tc nx0) hb, ?_, ?_, h, by omega⟩
  · refine blk_alloc ?_ _
    have := blk_new ((((w.alloc (.cells #[.int .i64 11, .int .i64 0, .string ⟨#[]⟩, .int .i64 tl, .int .i64 tc, .int .i64 nx0] TT)).alloc (.cells #[.int .i64 0, .int .i64 0, .string ⟨#[]⟩, .int .i64 0, .int .i64 0, .int .i64 0] TT)).alloc (.cells #[.int .i64 0, .int .i64 0, .int .i64 0] 64)).alloc (.cells #[.int .i64 6, .int .i64 tl, .int .i64 tc] 64)) (.cells #[.string ⟨#[115, 112, 97, 99, 101]⟩, .string ⟨#[110, 101, 119, 108, 105, 110, 101]⟩, .string ⟨#[116, 97, 98]⟩, .string ⟨#[110, 117, 108]⟩] 9 (0, 0))
    rw [hsz] at this
    exact this
  · have := blk_new (((((w.alloc (.cells #[.int .i64 11, .int .i64 0, .string ⟨#[]⟩, .int .i64 tl, .int .i64 tc, .int .i64 nx0] TT)).alloc (.cells #[.int .i64 0, .int .i64 0, .string ⟨#[]⟩, .int .i64 0, .int .i64 0, .int .i64 0] TT)).alloc (.cells #[.int .i64 0, .int .i64 0, .int .i64 0] 64)).alloc (.cells #[.int .i64 6, .int .i64 tl, .int .i64 tc] 64)).alloc (.cells #[.string ⟨#[115, 112, 97, 99, 101]⟩, .string ⟨#[110, 101, 119, 108, 105, 110, 101]⟩, .string ⟨#[116, 97, 98]⟩, .string ⟨#[110, 117, 108]⟩] 9)) (.cells #[.int .i64 32, .int .i64 10, .int .i64 9, .int .i64 0] 3 (0, 0))
    rw [show (((((w.alloc (.cells #[.int .i64 11, .int .i64 0, .string ⟨#[]⟩, .int .i64 tl, .int .i64 tc, .int .i64 nx0] TT)).alloc (.cells #[.int .i64 0, .int .i64 0, .string ⟨#[]⟩, .int .i64 0, .int .i64 0, .int .i64 0] TT)).alloc (.cells #[.int .i64 0, .int .i64 0, .int .i64 0] 64)).alloc (.cells #[.int .i64 6, .int .i64 tl, .int .i64 tc] 64)).alloc (.cells #[.string ⟨#[115, 112, 97, 99, 101]⟩, .string ⟨#[110, 101, 119, 108, 105, 110, 101]⟩, .string ⟨#[116, 97, 98]⟩, .string ⟨#[110, 117, 108]⟩] 9)).heap.size = w.heap.size + 1 + 1 + 1 + 1 + 1 by simp] at this
    exact this

set_option maxRecDepth 400000 in
set_option maxHeartbeats 8000000 in
theorem refsharp_n1 (T : ByteArray) (i : Nat) (tl tc nx0 : Int) (w : World) (_hi : i < T.size) (hT : T.size ≤ 1000000000) (hS : i + 2 = T.size) (hx : ∀ h, T[i + 1]'h = 92) :
    Calls Tryd.prog 67 #[.string T, .int .i64 (i : Nat), .agg #[.int .i64 0, .int .i64 0, .string ⟨#[]⟩, .int .i64 tl, .int .i64 tc, .int .i64 nx0]] w (NextTo (refRet ((namesP T i (T.data.toList.drop (i + 2)) names4).1, ⟨(namesP T i (T.data.toList.drop (i + 2)) names4).2.1, (namesP T i (T.data.toList.drop (i + 2)) names4).2.2.1, [], tl, tc, (namesP T i (T.data.toList.drop (i + 2)) names4).2.2.2⟩)) w) := by
  obtain ⟨L, hL⟩ : ∃ L, T.data.toList.drop (i + 2) = L := ⟨_, rfl⟩
  have HLL := Lib.hid hL
  rw [hL]
  obtain ⟨R, hR⟩ : ∃ R, namesP T i L names4 = R := ⟨_, rfl⟩
  have HR := Lib.hid hR
  rw [hR]
  clear hL hR
  have hi1 : (i : Int) + 1 < (T.size : Nat) := by omega
  have hi2 : ¬ (T.size : Int) ≤ (i : Nat) + 1 := by omega
  have hbx : ∀ h, T[i + 1]'h = 92 := hx
  have hi3 : ¬ (i : Int) + 2 < (T.size : Nat) := by omega
  go_enter Tryd.func67, Tryd.ntmps67
  go_wp2_with fail
  have HI := Lib.hid (rn_start T i w tl tc nx0 L R HR.out)
  generalize (((((w.alloc (.cells #[.int .i64 11, .int .i64 0, .string ⟨#[]⟩, .int .i64 tl, .int .i64 tc, .int .i64 nx0] TT)).alloc (.cells #[.int .i64 0, .int .i64 0, .string ⟨#[]⟩, .int .i64 0, .int .i64 0, .int .i64 0] TT)).alloc (.cells #[.int .i64 0, .int .i64 0, .int .i64 0] 64)).alloc (.cells #[.int .i64 6, .int .i64 tl, .int .i64 tc] 64)).alloc (.cells #[.string ⟨#[115, 112, 97, 99, 101]⟩, .string ⟨#[110, 101, 119, 108, 105, 110, 101]⟩, .string ⟨#[116, 97, 98]⟩, .string ⟨#[110, 117, 108]⟩] 9)).alloc (.cells #[.int .i64 32, .int .i64 10, .int .i64 9, .int .i64 0] 3) = w0 at HI ⊢
  go_loopg [11] 4 (fun gk v w' => ∃ (j : Nat), v = .int .i64 (j : Nat) ∧ gk = 4 - j ∧ Hid (RnI T i w tl tc nx0 L R j w'))
  case atStart => exact ⟨0, rfl, rfl, HI⟩
  case round =>
    clear HI HR
    obtain ⟨j, rfl, rfl, HJ⟩ := hrel
    have hj := HJ.out.le
    by_cases h0 : j = 0
    · subst h0
      have m0 : wr.cell? ⟨w.heap.size + 1 + 1 + 1 + 1, 0, none⟩ = some (.string ⟨#[115, 112, 97, 99, 101]⟩) := blk_cell HJ.out.nam 0
      have HJ2 := Lib.hid (fun m => show Blks w 11 0 ⟨#[]⟩ tl tc nx0 (wr.drewN m) ∧ FltAt (w.heap.size + 1 + 1 + 1) 6 tl tc (wr.drewN m) ∧ (wr.drewN m).heap[w.heap.size + 1 + 1 + 1 + 1]? = some (.cells #[.string ⟨#[115, 112, 97, 99, 101]⟩, .string ⟨#[110, 101, 119, 108, 105, 110, 101]⟩, .string ⟨#[116, 97, 98]⟩, .string ⟨#[110, 117, 108]⟩] 9 (0, 0)) ∧ (wr.drewN m).heap[w.heap.size + 1 + 1 + 1 + 1 + 1]? = some (.cells #[.int .i64 32, .int .i64 10, .int .i64 9, .int .i64 0] 3 (0, 0)) from
        ⟨⟨HJ.out.blks.tok, HJ.out.blks.res, HJ.out.blks.flt, ⟨HJ.out.blks.below.os, HJ.out.blks.below.tape, HJ.out.blks.below.output, HJ.out.blks.below.size, HJ.out.blks.below.block⟩⟩, HJ.out.bad, HJ.out.nam, HJ.out.cod⟩)
      have hA1 : ¬ (i : Int) + 2 + 5 ≤ (T.size : Nat) := by omega
      have hA3 : decide ((i : Int) + 2 + 5 ≤ (T.size : Nat)) = false := decide_eq_false hA1
      have HNX := Lib.hid (show namesP T i L (names4.drop 1) = R by
        rw [← HJ.out.rest]
        show _ = namesP T i L (([115, 112, 97, 99, 101], 32) :: names4.drop 1)
        rw [namesP, if_neg (by rw [fits_no (x := ([115, 112, 97, 99, 101], 32)) (fun h => by have h2 := congrArg List.length h; rw [← HLL.out, List.length_take, List.length_drop] at h2; have : T.data.toList.length = T.size := (by simp); simp at h2; omega)]; decide)])
      go_wp2_with fail
      go_quiet (fail)
      all_goals go_wp2_with fail
      all_goals go_roundg (4 - 1)
      all_goals first | (show 4 - 1 < 4 - 0; omega) | exact ⟨1, rfl, rfl, Lib.hid ⟨(HJ2.out _).1, (HJ2.out _).2.1, (HJ2.out _).2.2.1, (HJ2.out _).2.2.2, HNX.out, by omega⟩⟩
    by_cases h1 : j = 1
    · subst h1
      have m0 : wr.cell? ⟨w.heap.size + 1 + 1 + 1 + 1, 1, none⟩ = some (.string ⟨#[110, 101, 119, 108, 105, 110, 101]⟩) := blk_cell HJ.out.nam 1
      have HJ2 := Lib.hid (fun m => show Blks w 11 0 ⟨#[]⟩ tl tc nx0 (wr.drewN m) ∧ FltAt (w.heap.size + 1 + 1 + 1) 6 tl tc (wr.drewN m) ∧ (wr.drewN m).heap[w.heap.size + 1 + 1 + 1 + 1]? = some (.cells #[.string ⟨#[115, 112, 97, 99, 101]⟩, .string ⟨#[110, 101, 119, 108, 105, 110, 101]⟩, .string ⟨#[116, 97, 98]⟩, .string ⟨#[110, 117, 108]⟩] 9 (0, 0)) ∧ (wr.drewN m).heap[w.heap.size + 1 + 1 + 1 + 1 + 1]? = some (.cells #[.int .i64 32, .int .i64 10, .int .i64 9, .int .i64 0] 3 (0, 0)) from
        ⟨⟨HJ.out.blks.tok, HJ.out.blks.res, HJ.out.blks.flt, ⟨HJ.out.blks.below.os, HJ.out.blks.below.tape, HJ.out.blks.below.output, HJ.out.blks.below.size, HJ.out.blks.below.block⟩⟩, HJ.out.bad, HJ.out.nam, HJ.out.cod⟩)
      have hA1 : ¬ (i : Int) + 2 + 7 ≤ (T.size : Nat) := by omega
      have hA3 : decide ((i : Int) + 2 + 7 ≤ (T.size : Nat)) = false := decide_eq_false hA1
      have HNX := Lib.hid (show namesP T i L (names4.drop 2) = R by
        rw [← HJ.out.rest]
        show _ = namesP T i L (([110, 101, 119, 108, 105, 110, 101], 10) :: names4.drop 2)
        rw [namesP, if_neg (by rw [fits_no (x := ([110, 101, 119, 108, 105, 110, 101], 10)) (fun h => by have h2 := congrArg List.length h; rw [← HLL.out, List.length_take, List.length_drop] at h2; have : T.data.toList.length = T.size := (by simp); simp at h2; omega)]; decide)])
      go_wp2_with fail
      go_quiet (fail)
      all_goals go_wp2_with fail
      all_goals go_roundg (4 - 2)
      all_goals first | (show 4 - 2 < 4 - 1; omega) | exact ⟨2, rfl, rfl, Lib.hid ⟨(HJ2.out _).1, (HJ2.out _).2.1, (HJ2.out _).2.2.1, (HJ2.out _).2.2.2, HNX.out, by omega⟩⟩
    by_cases h2 : j = 2
    · subst h2
      have m0 : wr.cell? ⟨w.heap.size + 1 + 1 + 1 + 1, 2, none⟩ = some (.string ⟨#[116, 97, 98]⟩) := blk_cell HJ.out.nam 2
      have HJ2 := Lib.hid (fun m => show Blks w 11 0 ⟨#[]⟩ tl tc nx0 (wr.drewN m) ∧ FltAt (w.heap.size + 1 + 1 + 1) 6 tl tc (wr.drewN m) ∧ (wr.drewN m).heap[w.heap.size + 1 + 1 + 1 + 1]? = some (.cells #[.string ⟨#[115, 112, 97, 99, 101]⟩, .string ⟨#[110, 101, 119, 108, 105, 110, 101]⟩, .string ⟨#[116, 97, 98]⟩, .string ⟨#[110, 117, 108]⟩] 9 (0, 0)) ∧ (wr.drewN m).heap[w.heap.size + 1 + 1 + 1 + 1 + 1]? = some (.cells #[.int .i64 32, .int .i64 10, .int .i64 9, .int .i64 0] 3 (0, 0)) from
        ⟨⟨HJ.out.blks.tok, HJ.out.blks.res, HJ.out.blks.flt, ⟨HJ.out.blks.below.os, HJ.out.blks.below.tape, HJ.out.blks.below.output, HJ.out.blks.below.size, HJ.out.blks.below.block⟩⟩, HJ.out.bad, HJ.out.nam, HJ.out.cod⟩)
      have hA1 : ¬ (i : Int) + 2 + 3 ≤ (T.size : Nat) := by omega
      have hA3 : decide ((i : Int) + 2 + 3 ≤ (T.size : Nat)) = false := decide_eq_false hA1
      have HNX := Lib.hid (show namesP T i L (names4.drop 3) = R by
        rw [← HJ.out.rest]
        show _ = namesP T i L (([116, 97, 98], 9) :: names4.drop 3)
        rw [namesP, if_neg (by rw [fits_no (x := ([116, 97, 98], 9)) (fun h => by have h2 := congrArg List.length h; rw [← HLL.out, List.length_take, List.length_drop] at h2; have : T.data.toList.length = T.size := (by simp); simp at h2; omega)]; decide)])
      go_wp2_with fail
      go_quiet (fail)
      all_goals go_wp2_with fail
      all_goals go_roundg (4 - 3)
      all_goals first | (show 4 - 3 < 4 - 2; omega) | exact ⟨3, rfl, rfl, Lib.hid ⟨(HJ2.out _).1, (HJ2.out _).2.1, (HJ2.out _).2.2.1, (HJ2.out _).2.2.2, HNX.out, by omega⟩⟩
    by_cases h3 : j = 3
    · subst h3
      have m0 : wr.cell? ⟨w.heap.size + 1 + 1 + 1 + 1, 3, none⟩ = some (.string ⟨#[110, 117, 108]⟩) := blk_cell HJ.out.nam 3
      have HJ2 := Lib.hid (fun m => show Blks w 11 0 ⟨#[]⟩ tl tc nx0 (wr.drewN m) ∧ FltAt (w.heap.size + 1 + 1 + 1) 6 tl tc (wr.drewN m) ∧ (wr.drewN m).heap[w.heap.size + 1 + 1 + 1 + 1]? = some (.cells #[.string ⟨#[115, 112, 97, 99, 101]⟩, .string ⟨#[110, 101, 119, 108, 105, 110, 101]⟩, .string ⟨#[116, 97, 98]⟩, .string ⟨#[110, 117, 108]⟩] 9 (0, 0)) ∧ (wr.drewN m).heap[w.heap.size + 1 + 1 + 1 + 1 + 1]? = some (.cells #[.int .i64 32, .int .i64 10, .int .i64 9, .int .i64 0] 3 (0, 0)) from
        ⟨⟨HJ.out.blks.tok, HJ.out.blks.res, HJ.out.blks.flt, ⟨HJ.out.blks.below.os, HJ.out.blks.below.tape, HJ.out.blks.below.output, HJ.out.blks.below.size, HJ.out.blks.below.block⟩⟩, HJ.out.bad, HJ.out.nam, HJ.out.cod⟩)
      have hA1 : ¬ (i : Int) + 2 + 3 ≤ (T.size : Nat) := by omega
      have hA3 : decide ((i : Int) + 2 + 3 ≤ (T.size : Nat)) = false := decide_eq_false hA1
      have HNX := Lib.hid (show namesP T i L (names4.drop 4) = R by
        rw [← HJ.out.rest]
        show _ = namesP T i L (([110, 117, 108], 0) :: names4.drop 4)
        rw [namesP, if_neg (by rw [fits_no (x := ([110, 117, 108], 0)) (fun h => by have h2 := congrArg List.length h; rw [← HLL.out, List.length_take, List.length_drop] at h2; have : T.data.toList.length = T.size := (by simp); simp at h2; omega)]; decide)])
      go_wp2_with fail
      go_quiet (fail)
      all_goals go_wp2_with fail
      all_goals go_roundg (4 - 4)
      all_goals first | (show 4 - 4 < 4 - 3; omega) | exact ⟨4, rfl, rfl, Lib.hid ⟨(HJ2.out _).1, (HJ2.out _).2.1, (HJ2.out _).2.2.1, (HJ2.out _).2.2.2, HNX.out, by omega⟩⟩
    obtain rfl : j = 4 := by omega
    have HE := Lib.hid (show R = (6, 0, 0, 0) by rw [← HJ.out.rest]; rfl)
    have HB0 := Lib.hid HJ.out.blks
    have HBD := Lib.hid HJ.out.bad
    clear HJ
    go_wp2_with fail
    have g0 : wr.cell? ⟨w.heap.size + 1 + 1 + 1, 0, none⟩ = some (.int .i64 6) := blk_cell HBD.out 0
    have g1 : wr.cell? ⟨w.heap.size + 1 + 1 + 1, 1, none⟩ = some (.int .i64 tl) := blk_cell HBD.out 1
    have g2 : wr.cell? ⟨w.heap.size + 1 + 1 + 1, 2, none⟩ = some (.int .i64 tc) := blk_cell HBD.out 2
    have r0 : wr.cell? ⟨w.heap.size + 1, 0, none⟩ = some (.int .i64 0) := blk_cell HB0.out.res 0
    have s0 := blk_frozen HB0.out.res 0
    have r1 : wr.cell? ⟨w.heap.size + 1, 1, none⟩ = some (.int .i64 0) := blk_cell HB0.out.res 1
    have s1 := blk_frozen HB0.out.res 1
    have r2 : wr.cell? ⟨w.heap.size + 1, 2, none⟩ = some (.string ⟨#[]⟩) := blk_cell HB0.out.res 2
    have s2 := blk_frozen HB0.out.res 2
    have r3 : wr.cell? ⟨w.heap.size + 1, 3, none⟩ = some (.int .i64 0) := blk_cell HB0.out.res 3
    have s3 := blk_frozen HB0.out.res 3
    have r4 : wr.cell? ⟨w.heap.size + 1, 4, none⟩ = some (.int .i64 0) := blk_cell HB0.out.res 4
    have s4 := blk_frozen HB0.out.res 4
    have r5 : wr.cell? ⟨w.heap.size + 1, 5, none⟩ = some (.int .i64 0) := blk_cell HB0.out.res 5
    have s5 := blk_frozen HB0.out.res 5
    have z0 : wr.cell? ⟨w.heap.size + 1 + 1, 0, none⟩ = some (.int .i64 0) := blk_cell HB0.out.flt 0
    have y0 := blk_frozen HB0.out.flt 0
    have z1 : wr.cell? ⟨w.heap.size + 1 + 1, 1, none⟩ = some (.int .i64 0) := blk_cell HB0.out.flt 1
    have y1 := blk_frozen HB0.out.flt 1
    have z2 : wr.cell? ⟨w.heap.size + 1 + 1, 2, none⟩ = some (.int .i64 0) := blk_cell HB0.out.flt 2
    have y2 := blk_frozen HB0.out.flt 2
    go_region
    clear r0 s0 r1 s1 r2 s2 r3 s3 r4 s4 r5 s5 z0 y0 z1 y1 z2 y2 g0 g1 g2
    obtain ⟨WF, hWF, hX, hY, hZ⟩ := ret_put (w := w) (HB0.out.res) (HB0.out.flt) (HB0.out.below) 0 0 ⟨#[]⟩ 0 0 0 (6) (tl) (tc)
    rw [hWF]
    clear hWF
    have hX2 := blk_drew hX
    have hY2 := blk_drew hY
    have hZ2 := below_drew hZ
    clear hX hY hZ
    generalize WF.drew = w8 at hX2 hY2 hZ2 ⊢
    go_wp2_with fail
    have q0 := blk_cell hX2 0
    have q1 := blk_cell hX2 1
    have q2 := blk_cell hX2 2
    have q3 := blk_cell hX2 3
    have q4 := blk_cell hX2 4
    have q5 := blk_cell hX2 5
    have u0 := blk_cell hY2 0
    have u1 := blk_cell hY2 1
    have u2 := blk_cell hY2 2
    (try simp only [Exit.inBlock, Exit.then])
    refine bodyPost_ret (by simp [results, Tryd.results67, go_sem, q0, q1, q2, q3, q4, q5, u0, u1, u2]; rfl) rfl ?_
    exact ⟨by rw [HE.out]; rfl, hZ2⟩

end Go.Proofs.YthighbbikpnpgaaDoor
