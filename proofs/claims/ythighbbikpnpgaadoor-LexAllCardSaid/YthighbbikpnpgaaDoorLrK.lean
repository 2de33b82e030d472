/-
  The reference's string.
-/
import Derived.Test.YthighbbikpnpgaaDoorLrC
import Derived.Deep.AppendLies
import Derived.ProofKit
import Derived.OpenShut
import Derived.Deep.RegionHeld
namespace Go.Proofs.YthighbbikpnpgaaDoor
open Go.RowKit Go.Proofs.YthighbbikpnpgaaDoorW.PrintWords Go.ChangeShapes Go.WideShapes Go.ChangeAt

/-- A row of bytes that grows, in a block of its own. -/
structure OutJ (w : World) (M : List UInt8) (v : Value) (w' : World) : Prop where
  own : ∃ g n cap, v = .slice (some ⟨g, 0, none⟩) n cap ∧ n = M.length ∧ w.heap.size ≤ g ∧ g < w'.heap.size ∧ w'.ownsRow w.heap.size 5 1 v n (Lib.byteCells M)
  below : Below w.heap.size w w'

theorem OutJ.grow {w : World} {M : List UInt8} {g n cap : Nat} {w1 : World} (h : OutJ w M (.slice (some ⟨g, 0, none⟩) n cap) w1) (c : UInt8) (o : Obj) {g' cap' : Nat} {w2 : World}
    (hown : w2.ownsRow w.heap.size 5 1 (.slice (some ⟨g', 0, none⟩) (n + 1) cap') (n + 1) (Lib.byteCells M ++ [.int .u8 (c.toNat : Int)])) (hgrow : (w1.alloc o).grownBy w2 (Value.slice (some ⟨g, 0, none⟩) n cap).ownBlock)
    (hat : (Value.slice (some ⟨g, 0, none⟩) n cap).ownBlock = some g' ∨ g' = w1.heap.size + 1) (hlt : g' < w2.heap.size) : OutJ w (M ++ [c]) (.slice (some ⟨g', 0, none⟩) (n + 1) cap') w2 := by
  obtain ⟨g1, n1, cap1, e1, hn, hge, hl, ho⟩ := h.own
  injection e1 with ea en ec
  injection ea with ea
  injection ea with ea
  subst ea en ec
  have hs := h.below.size
  refine ⟨⟨g', n + 1, cap', rfl, by simp [hn], ?_, hlt, ?_⟩, ?_⟩
  · rcases hat with e | e
    · simp [Value.ownBlock] at e
      rw [← e]; exact hge
    · omega
  · rw [Lib.byteCells_append]
    exact hown
  · refine (below_alloc h.below o).grown hgrow (by simp; omega) (fun k hk => ?_)
    exact (ho.lt k hk).1

theorem own_bytesJ {w : World} {B g n cap : Nat} {M : List UInt8} (h : w.ownsRow B 5 1 (.slice (some ⟨g, 0, none⟩) n cap) n (Lib.byteCells M)) : ∀ j (hj : j < M.length), w.cell? ((⟨g, 0, none⟩ : Addr).add j) = some (.int .u8 (M[j].toNat : Int)) := by
  intro j hj
  rcases h.2 with ⟨h1, _⟩ | ⟨g', cap', cur, hv, hb, hg, hc, hm, hs, ht⟩
  · cases h1
  · injection hv with ha _ _
    injection ha with ha
    injection ha with ha
    subst ha
    rw [add_zero_off, cell_of_row w g j _ _ (0, 0) hg]
    have hx : (Lib.byteCells M)[j]? = some (.int .u8 (M[j].toNat : Int)) := by
      rw [Lib.byteCells, List.getElem?_map, List.getElem?_eq_getElem hj]; rfl
    rw [← ht, List.getElem?_take] at hx
    split at hx
    · simpa using hx
    · cases hx

theorem outJ_start (w : World) : OutJ w [] (.slice (some ⟨w.heap.size, 0, none⟩) 0 0) (w.alloc (.cells #[] 5)) := by
  refine ⟨⟨w.heap.size, 0, 0, rfl, rfl, Nat.le_refl _, by simp, ⟨rfl, .inr ⟨w.heap.size, 0, #[], rfl, Nat.le_refl _, blk_new w _, by omega, by decide, rfl, rfl⟩⟩⟩, below_alloc (Below.refl _ _) _⟩

structure RtI (T : ByteArray) (w3 : World) (R : Int × List UInt8 × Nat) (p : Nat) (acc : List UInt8) (v : Value) (w' : World) : Prop where
  out : OutJ w3 acc v w'
  rest : strP (T.data.toList.drop p) acc p = R
  le : p ≤ T.size
  few : acc.length ≤ p

set_option maxRecDepth 400000 in
set_option maxHeartbeats 8000000 in
theorem refstr_any (T : ByteArray) (i : Nat) (tl tc nx0 : Int) (w : World) (_hi : i < T.size) (hT : T.size ≤ 1000000000)  :
    Calls Tryd.prog 68 #[.string T, .int .i64 (i : Nat), .agg #[.int .i64 0, .int .i64 0, .string ⟨#[]⟩, .int .i64 tl, .int .i64 tc, .int .i64 nx0]] w (NextTo (refRet (strE (strP (T.data.toList.drop (i + 1)) [] (i + 1)), ⟨12, 0, (strP (T.data.toList.drop (i + 1)) [] (i + 1)).2.1, tl, tc, (strP (T.data.toList.drop (i + 1)) [] (i + 1)).2.2 + 1⟩)) w) := by
  obtain ⟨R, hR⟩ : ∃ R, strP (T.data.toList.drop (i + 1)) [] (i + 1) = R := ⟨_, rfl⟩
  rw [hR]
  have HR := Lib.hid hR
  have HTT := Lib.hid hT
  have HII := Lib.hid _hi
  clear hR
  obtain ⟨i0, hi, hz0, hz1, hz2⟩ := info_parts info_byte
  go_enter Tryd.func68, Tryd.ntmps68
  go_wp2_with fail
  have H3 := Lib.hid (blks_start w 0 0 ⟨#[]⟩ tl tc nx0)
  have h3s : (((w.alloc (.cells #[.int .i64 0, .int .i64 0, .string ⟨#[]⟩, .int .i64 tl, .int .i64 tc, .int .i64 nx0] TT)).alloc (.cells #[.int .i64 0, .int .i64 0, .string ⟨#[]⟩, .int .i64 0, .int .i64 0, .int .i64 0] TT)).alloc (.cells #[.int .i64 0, .int .i64 0, .int .i64 0] 64)).heap.size = w.heap.size + 1 + 1 + 1 := by simp
  generalize ((w.alloc (.cells #[.int .i64 0, .int .i64 0, .string ⟨#[]⟩, .int .i64 tl, .int .i64 tc, .int .i64 nx0] TT)).alloc (.cells #[.int .i64 0, .int .i64 0, .string ⟨#[]⟩, .int .i64 0, .int .i64 0, .int .i64 0] TT)).alloc (.cells #[.int .i64 0, .int .i64 0, .int .i64 0] 64) = w3 at H3 h3s ⊢
  have H3S := Lib.hid h3s
  clear h3s
  have HI := Lib.hid (show RtI T w3 R (i + 1) [] (.slice (some ⟨w.heap.size + 1 + 1 + 1, 0, none⟩) 0 0) (w3.alloc (.cells #[] 5)) from by rw [← H3S.out]; exact ⟨outJ_start w3, HR.out, HII.out, Nat.zero_le _⟩)
  go_loopg [8, 9] (T.size - (i + 1)) (fun gk v8 v9 w' => ∃ (p : Nat) (acc : List UInt8), v9 = .int .i64 (p : Nat) ∧ gk = T.size - p ∧ Hid (RtI T w3 R p acc v8 w'))
  case atStart => exact ⟨i + 1, [], rfl, rfl, HI⟩
  case round =>
    clear HI HR
    obtain ⟨p, acc, rfl, rfl, HJ⟩ := hrel
    obtain ⟨g0, n, cap0, rfl, hn, hge, -, ho0⟩ := HJ.out.out.own
    have HO0 := Lib.hid ho0
    have HN := Lib.hid hn
    have HGE := Lib.hid hge
    have hp := HJ.out.le
    have hTT := HTT.out
    have hnl : n ≤ 1000000000 := by have := HJ.out.few; omega
    clear ho0 hn hge
    have hsz0 := HJ.out.out.below.size
    have HB := Lib.hid (H3.out.step HJ.out.out.below)
    by_cases hlt : p < T.size
    · have hlt' : ¬ (T.size : Int) ≤ (p : Nat) := by omega
      have hlt1 : (p : Int) < (T.size : Nat) := by omega
      obtain ⟨x, hx⟩ : ∃ x, T[p]'hlt = x := ⟨_, rfl⟩
      have hbx : ∀ h, T[p]'h = x := fun _ => hx
      have HX := Lib.hid hbx
      have HLT := Lib.hid hlt
      clear hx
      have x256 : x.toNat < 256 := x.toNat_lt
      by_cases h34 : x = 34
      · subst h34
        have HE := Lib.hid (show R = (0, acc, p) by rw [← HJ.out.rest, drop_cons HLT.out, HX.out, strP_mark])
        by_cases h500 : 500 < acc.length
        · have b500 : decide ((500 : Int) < (n : Nat)) = true := decide_eq_true (by have := HN.out; omega)
          have p500 : (500 : Int) < (n : Nat) := by have := HN.out; omega
          have hE14 := Lib.hid (show strE R = 14 by rw [HE.out, strE, if_pos rfl, if_pos h500])
          clear h500
          have t0 : wr.cell? ⟨w.heap.size, 0, none⟩ = some (.int .i64 0) := blk_cell HB.out.tok 0
          have t1 : wr.cell? ⟨w.heap.size, 1, none⟩ = some (.int .i64 0) := blk_cell HB.out.tok 1
          have t2 : wr.cell? ⟨w.heap.size, 2, none⟩ = some (.string ⟨#[]⟩) := blk_cell HB.out.tok 2
          have t3 : wr.cell? ⟨w.heap.size, 3, none⟩ = some (.int .i64 tl) := blk_cell HB.out.tok 3
          have t4 : wr.cell? ⟨w.heap.size, 4, none⟩ = some (.int .i64 tc) := blk_cell HB.out.tok 4
          have t5 : wr.cell? ⟨w.heap.size, 5, none⟩ = some (.int .i64 nx0) := blk_cell HB.out.tok 5
          have r0 : wr.cell? ⟨w.heap.size + 1, 0, none⟩ = some (.int .i64 0) := blk_cell HB.out.res 0
          have s0 := blk_frozen HB.out.res 0
          have r1 : wr.cell? ⟨w.heap.size + 1, 1, none⟩ = some (.int .i64 0) := blk_cell HB.out.res 1
          have s1 := blk_frozen HB.out.res 1
          have r2 : wr.cell? ⟨w.heap.size + 1, 2, none⟩ = some (.string ⟨#[]⟩) := blk_cell HB.out.res 2
          have s2 := blk_frozen HB.out.res 2
          have r3 : wr.cell? ⟨w.heap.size + 1, 3, none⟩ = some (.int .i64 0) := blk_cell HB.out.res 3
          have s3 := blk_frozen HB.out.res 3
          have r4 : wr.cell? ⟨w.heap.size + 1, 4, none⟩ = some (.int .i64 0) := blk_cell HB.out.res 4
          have s4 := blk_frozen HB.out.res 4
          have r5 : wr.cell? ⟨w.heap.size + 1, 5, none⟩ = some (.int .i64 0) := blk_cell HB.out.res 5
          have s5 := blk_frozen HB.out.res 5
          have z0 : wr.cell? ⟨w.heap.size + 1 + 1, 0, none⟩ = some (.int .i64 0) := blk_cell HB.out.flt 0
          have y0 := blk_frozen HB.out.flt 0
          have z1 : wr.cell? ⟨w.heap.size + 1 + 1, 1, none⟩ = some (.int .i64 0) := blk_cell HB.out.flt 1
          have y1 := blk_frozen HB.out.flt 1
          have z2 : wr.cell? ⟨w.heap.size + 1 + 1, 2, none⟩ = some (.int .i64 0) := blk_cell HB.out.flt 2
          have y2 := blk_frozen HB.out.flt 2
          go_wp2_with fail
          go_region
          clear t0 t1 t2 t3 t4 t5 r0 s0 r1 s1 r2 s2 r3 s3 r4 s4 r5 s5 z0 y0 z1 y1 z2 y2
          obtain ⟨WF, hWF, hX, hY, hZ⟩ := ret_put (w := w) (HB.out.res) (HB.out.flt) (HB.out.below) 0 0 ⟨#[]⟩ 0 0 0 (14) (tl) (tc)
          rw [hWF]
          clear hWF
          have hX2 := blk_drew hX
          have hY2 := blk_drew hY
          have hZ2 := below_drew hZ
          clear hX hY hZ
          generalize WF.drew = w8 at hX2 hY2 hZ2 ⊢
          go_wp2_with fail
          have q0 := blk_cell hX2 0
          have q1 := blk_cell hX2 1
          have q2 := blk_cell hX2 2
          have q3 := blk_cell hX2 3
          have q4 := blk_cell hX2 4
          have q5 := blk_cell hX2 5
          have u0 := blk_cell hY2 0
          have u1 := blk_cell hY2 1
          have u2 := blk_cell hY2 2
          (try simp only [Exit.inBlock, Exit.then])
          refine bodyPost_ret (by simp [results, Tryd.results68, go_sem, q0, q1, q2, q3, q4, q5, u0, u1, u2]; rfl) rfl ?_
          exact ⟨by rw [hE14.out]; rfl, hZ2⟩
        · have b500 : decide ((500 : Int) < (n : Nat)) = false := decide_eq_false (by have := HN.out; omega)
          have p500 : ¬ (500 : Int) < (n : Nat) := by have := HN.out; omega
          have hE0 := Lib.hid (show strE R = 0 by rw [HE.out, strE, if_pos rfl, if_neg h500])
          clear h500
          have cl0 : wr.heap.size = wr.heap.size := rfl
          have hcb := run_convert_bytes_back (wr.setCell ⟨w.heap.size, 0, none⟩ (.int .i64 12)) 76 9 5 ⟨g0, 0, none⟩ cap0 acc Tryd.underlying76 Tryd.underlying5 Tryd.underlying9 (fun j hj => (World.cell?_setCell_far wr _ _ _ (by rw [add_zero_off]; show w.heap.size ≠ g0; have := HGE.out; have := H3.out.below.size; have := H3S.out; omega)).trans (own_bytesJ HO0.out j hj))
          rw [← HN.out] at hcb
          clear cl0
          have t0 : wr.cell? ⟨w.heap.size, 0, none⟩ = some (.int .i64 0) := blk_cell HB.out.tok 0
          have f0 := blk_frozen HB.out.tok 0
          have t1 : wr.cell? ⟨w.heap.size, 1, none⟩ = some (.int .i64 0) := blk_cell HB.out.tok 1
          have f1 := blk_frozen HB.out.tok 1
          have t2 : wr.cell? ⟨w.heap.size, 2, none⟩ = some (.string ⟨#[]⟩) := blk_cell HB.out.tok 2
          have f2 := blk_frozen HB.out.tok 2
          have t3 : wr.cell? ⟨w.heap.size, 3, none⟩ = some (.int .i64 tl) := blk_cell HB.out.tok 3
          have f3 := blk_frozen HB.out.tok 3
          have t4 : wr.cell? ⟨w.heap.size, 4, none⟩ = some (.int .i64 tc) := blk_cell HB.out.tok 4
          have f4 := blk_frozen HB.out.tok 4
          have t5 : wr.cell? ⟨w.heap.size, 5, none⟩ = some (.int .i64 nx0) := blk_cell HB.out.tok 5
          have f5 := blk_frozen HB.out.tok 5
          have r0 : wr.cell? ⟨w.heap.size + 1, 0, none⟩ = some (.int .i64 0) := blk_cell HB.out.res 0
          have s0 := blk_frozen HB.out.res 0
          have r1 : wr.cell? ⟨w.heap.size + 1, 1, none⟩ = some (.int .i64 0) := blk_cell HB.out.res 1
          have s1 := blk_frozen HB.out.res 1
          have r2 : wr.cell? ⟨w.heap.size + 1, 2, none⟩ = some (.string ⟨#[]⟩) := blk_cell HB.out.res 2
          have s2 := blk_frozen HB.out.res 2
          have r3 : wr.cell? ⟨w.heap.size + 1, 3, none⟩ = some (.int .i64 0) := blk_cell HB.out.res 3
          have s3 := blk_frozen HB.out.res 3
          have r4 : wr.cell? ⟨w.heap.size + 1, 4, none⟩ = some (.int .i64 0) := blk_cell HB.out.res 4
          have s4 := blk_frozen HB.out.res 4
          have r5 : wr.cell? ⟨w.heap.size + 1, 5, none⟩ = some (.int .i64 0) := blk_cell HB.out.res 5
          have s5 := blk_frozen HB.out.res 5
          have z0 : wr.cell? ⟨w.heap.size + 1 + 1, 0, none⟩ = some (.int .i64 0) := blk_cell HB.out.flt 0
          have y0 := blk_frozen HB.out.flt 0
          have z1 : wr.cell? ⟨w.heap.size + 1 + 1, 1, none⟩ = some (.int .i64 0) := blk_cell HB.out.flt 1
          have y1 := blk_frozen HB.out.flt 1
          have z2 : wr.cell? ⟨w.heap.size + 1 + 1, 2, none⟩ = some (.int .i64 0) := blk_cell HB.out.flt 2
          have y2 := blk_frozen HB.out.flt 2
          go_wp2_with fail
          clear hcb
          clear t0 t1 t2 t3 t4 t5 f0 f1 f2 f3 f4 f5 r0 s0 r1 s1 r2 s2 r3 s3 r4 s4 r5 s5 z0 y0 z1 y1 z2 y2
          obtain ⟨WF, hWF, hX, hY, hZ⟩ := ret_put (w := w) (blk_far (blk_far (blk_far HB.out.res (by simp) _) (by simp) _) (by simp) _) (blk_far (blk_far (blk_far HB.out.flt (by simp <;> omega) _) (by simp <;> omega) _) (by simp <;> omega) _) (below_set (below_set (below_set HB.out.below (Nat.le_refl _)) (Nat.le_refl _)) (Nat.le_refl _)) (12) (0) (⟨acc.toArray⟩) (tl) (tc) ((p : Int) + 1) (0) (0) (0)
          rw [hWF]
          clear hWF
          have q0 := blk_cell hX 0
          have q1 := blk_cell hX 1
          have q2 := blk_cell hX 2
          have q3 := blk_cell hX 3
          have q4 := blk_cell hX 4
          have q5 := blk_cell hX 5
          have u0 := blk_cell hY 0
          have u1 := blk_cell hY 1
          have u2 := blk_cell hY 2
          (try simp only [Exit.inBlock, Exit.then])
          refine bodyPost_ret (by simp [results, Tryd.results68, go_sem, q0, q1, q2, q3, q4, q5, u0, u1, u2]; rfl) rfl ?_
          exact ⟨by rw [hE0.out, HE.out]; rfl, hZ⟩
      · have b34 : ((x.toNat : Int) == 34) = false := u8ne (n := 34) (by omega) h34
        have p34 : ¬ (x.toNat : Int) = 34 := fun e => h34 ((byte_int x 34 (by omega)).1 e)
        by_cases h92 : x = 92
        · subst h92
          by_cases hlt2 : p + 1 < T.size
          · have hlt3 : ¬ (T.size : Int) ≤ (p : Nat) + 1 := by omega
            have hlt4 : (p : Int) + 1 < (T.size : Nat) := by omega
            obtain ⟨y, hy⟩ : ∃ y, T[p + 1]'hlt2 = y := ⟨_, rfl⟩
            have hby : ∀ h, T[p + 1]'h = y := fun _ => hy
            have HY := Lib.hid hby
            have HLT2 := Lib.hid hlt2
            clear hy
            have y256 : y.toNat < 256 := y.toNat_lt
            by_cases hy110 : y = 110
            · subst hy110
              have HE := Lib.hid (show strP (T.data.toList.drop (p + 2)) (acc ++ [10]) (p + 2) = R by rw [← HJ.out.rest, drop_cons HLT.out, HX.out, drop_cons HLT2.out, HY.out, strP_esc (y := 110) (d := 10) rfl])
              go_wp2_with (at_builtin; refine wpList_append_lies _ rfl _ _ 76 rfl w3.heap.size 5 i0 (.int .u8 0) 1 1 Tryd.underlying76 hi hz0 hz1 hz2 rfl (by decide) (.slice (some ⟨g0, 0, none⟩) n cap0) (n) (Lib.byteCells acc) rfl (HO0.out.alloc _) ⟨wr.heap.size, 0, none⟩ 1 1 [.int .u8 10] rfl rfl ?y110c1 ?y110c2 (by decide) ?y110c3 ?y110c4 ?y110c5 _ rfl ?_)
              case y110c2 => first | rfl | (intro u hu; simp at hu; subst hu; rfl)
              case y110c3 => unfold maxLen; omega
              case y110c4 => omega
              case y110c5 => have := hsz0; simp; omega
              intro g1 cap1 ww1 hown1 hgrow1 hat1 hlt1
              have H1 := Lib.hid (HJ.out.out.grow 10 _ hown1 hgrow1 hat1 hlt1)
              have HNX := Lib.hid (show RtI T w3 R (p + 2) (acc ++ [10]) (.slice (some ⟨g1, 0, none⟩) (n + 1) cap1) ww1 from ⟨H1.out, HE.out, by omega, by have := HJ.out.few; simp; omega⟩)
              clear hown1 hgrow1 hat1 hlt1
              go_wp2_with fail
              go_roundg (T.size - (p + 2))
              case measure => omega
              case rel => exact ⟨p + 2, _, by first | rfl | go_num, rfl, HNX⟩
            have n110 : ((y.toNat : Int) == 110) = false := u8ne (n := 110) (by omega) hy110
            have m110 : ¬ (y.toNat : Int) = 110 := fun e => hy110 ((byte_int y 110 (by omega)).1 e)
            by_cases hy116 : y = 116
            · subst hy116
              have HE := Lib.hid (show strP (T.data.toList.drop (p + 2)) (acc ++ [9]) (p + 2) = R by rw [← HJ.out.rest, drop_cons HLT.out, HX.out, drop_cons HLT2.out, HY.out, strP_esc (y := 116) (d := 9) rfl])
              go_wp2_with (at_builtin; refine wpList_append_lies _ rfl _ _ 76 rfl w3.heap.size 5 i0 (.int .u8 0) 1 1 Tryd.underlying76 hi hz0 hz1 hz2 rfl (by decide) (.slice (some ⟨g0, 0, none⟩) n cap0) (n) (Lib.byteCells acc) rfl (HO0.out.alloc _) ⟨wr.heap.size, 0, none⟩ 1 1 [.int .u8 9] rfl rfl ?y116c1 ?y116c2 (by decide) ?y116c3 ?y116c4 ?y116c5 _ rfl ?_)
              case y116c2 => first | rfl | (intro u hu; simp at hu; subst hu; rfl)
              case y116c3 => unfold maxLen; omega
              case y116c4 => omega
              case y116c5 => have := hsz0; simp; omega
              intro g1 cap1 ww1 hown1 hgrow1 hat1 hlt1
              have H1 := Lib.hid (HJ.out.out.grow 9 _ hown1 hgrow1 hat1 hlt1)
              have HNX := Lib.hid (show RtI T w3 R (p + 2) (acc ++ [9]) (.slice (some ⟨g1, 0, none⟩) (n + 1) cap1) ww1 from ⟨H1.out, HE.out, by omega, by have := HJ.out.few; simp; omega⟩)
              clear hown1 hgrow1 hat1 hlt1
              go_wp2_with fail
              go_roundg (T.size - (p + 2))
              case measure => omega
              case rel => exact ⟨p + 2, _, by first | rfl | go_num, rfl, HNX⟩
            have n116 : ((y.toNat : Int) == 116) = false := u8ne (n := 116) (by omega) hy116
            have m116 : ¬ (y.toNat : Int) = 116 := fun e => hy116 ((byte_int y 116 (by omega)).1 e)
            by_cases hy92 : y = 92
            · subst hy92
              have HE := Lib.hid (show strP (T.data.toList.drop (p + 2)) (acc ++ [92]) (p + 2) = R by rw [← HJ.out.rest, drop_cons HLT.out, HX.out, drop_cons HLT2.out, HY.out, strP_esc (y := 92) (d := 92) rfl])
              go_wp2_with (at_builtin; refine wpList_append_lies _ rfl _ _ 76 rfl w3.heap.size 5 i0 (.int .u8 0) 1 1 Tryd.underlying76 hi hz0 hz1 hz2 rfl (by decide) (.slice (some ⟨g0, 0, none⟩) n cap0) (n) (Lib.byteCells acc) rfl (HO0.out.alloc _) ⟨wr.heap.size, 0, none⟩ 1 1 [.int .u8 92] rfl rfl ?y92c1 ?y92c2 (by decide) ?y92c3 ?y92c4 ?y92c5 _ rfl ?_)
              case y92c2 => first | rfl | (intro u hu; simp at hu; subst hu; rfl)
              case y92c3 => unfold maxLen; omega
              case y92c4 => omega
              case y92c5 => have := hsz0; simp; omega
              intro g1 cap1 ww1 hown1 hgrow1 hat1 hlt1
              have H1 := Lib.hid (HJ.out.out.grow 92 _ hown1 hgrow1 hat1 hlt1)
              have HNX := Lib.hid (show RtI T w3 R (p + 2) (acc ++ [92]) (.slice (some ⟨g1, 0, none⟩) (n + 1) cap1) ww1 from ⟨H1.out, HE.out, by omega, by have := HJ.out.few; simp; omega⟩)
              clear hown1 hgrow1 hat1 hlt1
              go_wp2_with fail
              go_roundg (T.size - (p + 2))
              case measure => omega
              case rel => exact ⟨p + 2, _, by first | rfl | go_num, rfl, HNX⟩
            have n92 : ((y.toNat : Int) == 92) = false := u8ne (n := 92) (by omega) hy92
            have m92 : ¬ (y.toNat : Int) = 92 := fun e => hy92 ((byte_int y 92 (by omega)).1 e)
            by_cases hy34 : y = 34
            · subst hy34
              have HE := Lib.hid (show strP (T.data.toList.drop (p + 2)) (acc ++ [34]) (p + 2) = R by rw [← HJ.out.rest, drop_cons HLT.out, HX.out, drop_cons HLT2.out, HY.out, strP_esc (y := 34) (d := 34) rfl])
              go_wp2_with (at_builtin; refine wpList_append_lies _ rfl _ _ 76 rfl w3.heap.size 5 i0 (.int .u8 0) 1 1 Tryd.underlying76 hi hz0 hz1 hz2 rfl (by decide) (.slice (some ⟨g0, 0, none⟩) n cap0) (n) (Lib.byteCells acc) rfl (HO0.out.alloc _) ⟨wr.heap.size, 0, none⟩ 1 1 [.int .u8 34] rfl rfl ?y34c1 ?y34c2 (by decide) ?y34c3 ?y34c4 ?y34c5 _ rfl ?_)
              case y34c2 => first | rfl | (intro u hu; simp at hu; subst hu; rfl)
              case y34c3 => unfold maxLen; omega
              case y34c4 => omega
              case y34c5 => have := hsz0; simp; omega
              intro g1 cap1 ww1 hown1 hgrow1 hat1 hlt1
              have H1 := Lib.hid (HJ.out.out.grow 34 _ hown1 hgrow1 hat1 hlt1)
              have HNX := Lib.hid (show RtI T w3 R (p + 2) (acc ++ [34]) (.slice (some ⟨g1, 0, none⟩) (n + 1) cap1) ww1 from ⟨H1.out, HE.out, by omega, by have := HJ.out.few; simp; omega⟩)
              clear hown1 hgrow1 hat1 hlt1
              go_wp2_with fail
              go_roundg (T.size - (p + 2))
              case measure => omega
              case rel => exact ⟨p + 2, _, by first | rfl | go_num, rfl, HNX⟩
            have n34 : ((y.toNat : Int) == 34) = false := u8ne (n := 34) (by omega) hy34
            have m34 : ¬ (y.toNat : Int) = 34 := fun e => hy34 ((byte_int y 34 (by omega)).1 e)
            have HE := Lib.hid (show strE R = 6 by rw [← HJ.out.rest, drop_cons HLT.out, HX.out, drop_cons HLT2.out, HY.out, strP_bad (by unfold escD; rw [if_neg hy110, if_neg hy116, if_neg hy34, if_neg hy92])]; rfl)
            clear hy110 hy116 hy92 hy34
            have t0 : wr.cell? ⟨w.heap.size, 0, none⟩ = some (.int .i64 0) := blk_cell HB.out.tok 0
            have t1 : wr.cell? ⟨w.heap.size, 1, none⟩ = some (.int .i64 0) := blk_cell HB.out.tok 1
            have t2 : wr.cell? ⟨w.heap.size, 2, none⟩ = some (.string ⟨#[]⟩) := blk_cell HB.out.tok 2
            have t3 : wr.cell? ⟨w.heap.size, 3, none⟩ = some (.int .i64 tl) := blk_cell HB.out.tok 3
            have t4 : wr.cell? ⟨w.heap.size, 4, none⟩ = some (.int .i64 tc) := blk_cell HB.out.tok 4
            have t5 : wr.cell? ⟨w.heap.size, 5, none⟩ = some (.int .i64 nx0) := blk_cell HB.out.tok 5
            have r0 : wr.cell? ⟨w.heap.size + 1, 0, none⟩ = some (.int .i64 0) := blk_cell HB.out.res 0
            have s0 := blk_frozen HB.out.res 0
            have r1 : wr.cell? ⟨w.heap.size + 1, 1, none⟩ = some (.int .i64 0) := blk_cell HB.out.res 1
            have s1 := blk_frozen HB.out.res 1
            have r2 : wr.cell? ⟨w.heap.size + 1, 2, none⟩ = some (.string ⟨#[]⟩) := blk_cell HB.out.res 2
            have s2 := blk_frozen HB.out.res 2
            have r3 : wr.cell? ⟨w.heap.size + 1, 3, none⟩ = some (.int .i64 0) := blk_cell HB.out.res 3
            have s3 := blk_frozen HB.out.res 3
            have r4 : wr.cell? ⟨w.heap.size + 1, 4, none⟩ = some (.int .i64 0) := blk_cell HB.out.res 4
            have s4 := blk_frozen HB.out.res 4
            have r5 : wr.cell? ⟨w.heap.size + 1, 5, none⟩ = some (.int .i64 0) := blk_cell HB.out.res 5
            have s5 := blk_frozen HB.out.res 5
            have z0 : wr.cell? ⟨w.heap.size + 1 + 1, 0, none⟩ = some (.int .i64 0) := blk_cell HB.out.flt 0
            have y0 := blk_frozen HB.out.flt 0
            have z1 : wr.cell? ⟨w.heap.size + 1 + 1, 1, none⟩ = some (.int .i64 0) := blk_cell HB.out.flt 1
            have y1 := blk_frozen HB.out.flt 1
            have z2 : wr.cell? ⟨w.heap.size + 1 + 1, 2, none⟩ = some (.int .i64 0) := blk_cell HB.out.flt 2
            have y2 := blk_frozen HB.out.flt 2
            go_wp2_with fail
            go_region
            clear t0 t1 t2 t3 t4 t5 r0 s0 r1 s1 r2 s2 r3 s3 r4 s4 r5 s5 z0 y0 z1 y1 z2 y2
            obtain ⟨WF, hWF, hX, hY, hZ⟩ := ret_put (w := w) (HB.out.res) (HB.out.flt) (HB.out.below) 0 0 ⟨#[]⟩ 0 0 0 (6) (tl) (tc)
            rw [hWF]
            clear hWF
            have hX2 := blk_drew hX
            have hY2 := blk_drew hY
            have hZ2 := below_drew hZ
            clear hX hY hZ
            generalize WF.drew = w8 at hX2 hY2 hZ2 ⊢
            go_wp2_with fail
            have q0 := blk_cell hX2 0
            have q1 := blk_cell hX2 1
            have q2 := blk_cell hX2 2
            have q3 := blk_cell hX2 3
            have q4 := blk_cell hX2 4
            have q5 := blk_cell hX2 5
            have u0 := blk_cell hY2 0
            have u1 := blk_cell hY2 1
            have u2 := blk_cell hY2 2
            (try simp only [Exit.inBlock, Exit.then])
            refine bodyPost_ret (by simp [results, Tryd.results68, go_sem, q0, q1, q2, q3, q4, q5, u0, u1, u2]; rfl) rfl ?_
            exact ⟨by rw [HE.out]; rfl, hZ2⟩
          · have hlt3 : (T.size : Int) ≤ (p : Nat) + 1 := by omega
            have HE := Lib.hid (show strE R = 5 by rw [← HJ.out.rest, drop_cons HLT.out, HX.out, drop_end hlt2, strP_last]; rfl)
            have t0 : wr.cell? ⟨w.heap.size, 0, none⟩ = some (.int .i64 0) := blk_cell HB.out.tok 0
            have t1 : wr.cell? ⟨w.heap.size, 1, none⟩ = some (.int .i64 0) := blk_cell HB.out.tok 1
            have t2 : wr.cell? ⟨w.heap.size, 2, none⟩ = some (.string ⟨#[]⟩) := blk_cell HB.out.tok 2
            have t3 : wr.cell? ⟨w.heap.size, 3, none⟩ = some (.int .i64 tl) := blk_cell HB.out.tok 3
            have t4 : wr.cell? ⟨w.heap.size, 4, none⟩ = some (.int .i64 tc) := blk_cell HB.out.tok 4
            have t5 : wr.cell? ⟨w.heap.size, 5, none⟩ = some (.int .i64 nx0) := blk_cell HB.out.tok 5
            have r0 : wr.cell? ⟨w.heap.size + 1, 0, none⟩ = some (.int .i64 0) := blk_cell HB.out.res 0
            have s0 := blk_frozen HB.out.res 0
            have r1 : wr.cell? ⟨w.heap.size + 1, 1, none⟩ = some (.int .i64 0) := blk_cell HB.out.res 1
            have s1 := blk_frozen HB.out.res 1
            have r2 : wr.cell? ⟨w.heap.size + 1, 2, none⟩ = some (.string ⟨#[]⟩) := blk_cell HB.out.res 2
            have s2 := blk_frozen HB.out.res 2
            have r3 : wr.cell? ⟨w.heap.size + 1, 3, none⟩ = some (.int .i64 0) := blk_cell HB.out.res 3
            have s3 := blk_frozen HB.out.res 3
            have r4 : wr.cell? ⟨w.heap.size + 1, 4, none⟩ = some (.int .i64 0) := blk_cell HB.out.res 4
            have s4 := blk_frozen HB.out.res 4
            have r5 : wr.cell? ⟨w.heap.size + 1, 5, none⟩ = some (.int .i64 0) := blk_cell HB.out.res 5
            have s5 := blk_frozen HB.out.res 5
            have z0 : wr.cell? ⟨w.heap.size + 1 + 1, 0, none⟩ = some (.int .i64 0) := blk_cell HB.out.flt 0
            have y0 := blk_frozen HB.out.flt 0
            have z1 : wr.cell? ⟨w.heap.size + 1 + 1, 1, none⟩ = some (.int .i64 0) := blk_cell HB.out.flt 1
            have y1 := blk_frozen HB.out.flt 1
            have z2 : wr.cell? ⟨w.heap.size + 1 + 1, 2, none⟩ = some (.int .i64 0) := blk_cell HB.out.flt 2
            have y2 := blk_frozen HB.out.flt 2
            go_wp2_with fail
            go_region
            clear t0 t1 t2 t3 t4 t5 r0 s0 r1 s1 r2 s2 r3 s3 r4 s4 r5 s5 z0 y0 z1 y1 z2 y2
            obtain ⟨WF, hWF, hX, hY, hZ⟩ := ret_put (w := w) (HB.out.res) (HB.out.flt) (HB.out.below) 0 0 ⟨#[]⟩ 0 0 0 (5) (tl) (tc)
            rw [hWF]
            clear hWF
            have hX2 := blk_drew hX
            have hY2 := blk_drew hY
            have hZ2 := below_drew hZ
            clear hX hY hZ
            generalize WF.drew = w8 at hX2 hY2 hZ2 ⊢
            go_wp2_with fail
            have q0 := blk_cell hX2 0
            have q1 := blk_cell hX2 1
            have q2 := blk_cell hX2 2
            have q3 := blk_cell hX2 3
            have q4 := blk_cell hX2 4
            have q5 := blk_cell hX2 5
            have u0 := blk_cell hY2 0
            have u1 := blk_cell hY2 1
            have u2 := blk_cell hY2 2
            (try simp only [Exit.inBlock, Exit.then])
            refine bodyPost_ret (by simp [results, Tryd.results68, go_sem, q0, q1, q2, q3, q4, q5, u0, u1, u2]; rfl) rfl ?_
            exact ⟨by rw [HE.out]; rfl, hZ2⟩
        · have b92 : ((x.toNat : Int) == 92) = false := u8ne (n := 92) (by omega) h92
          have p92 : ¬ (x.toNat : Int) = 92 := fun e => h92 ((byte_int x 92 (by omega)).1 e)
          have HE := Lib.hid (show strP (T.data.toList.drop (p + 1)) (acc ++ [x]) (p + 1) = R by rw [← HJ.out.rest, drop_cons HLT.out, HX.out, strP_on h34 h92])
          clear h34 h92
          go_wp2_with (at_builtin; refine wpList_append_lies _ rfl _ _ 76 rfl w3.heap.size 5 i0 (.int .u8 0) 1 1 Tryd.underlying76 hi hz0 hz1 hz2 rfl (by decide) (.slice (some ⟨g0, 0, none⟩) n cap0) (n) (Lib.byteCells acc) rfl (HO0.out.alloc _) ⟨wr.heap.size, 0, none⟩ 1 1 [.int .u8 (x.toNat : Int)] rfl rfl ?xc1 ?xc2 (by decide) ?xc3 ?xc4 ?xc5 _ rfl ?_)
          case xc2 => first | rfl | (intro u hu; simp at hu; subst hu; rfl)
          case xc3 => unfold maxLen; omega
          case xc4 => omega
          case xc5 => have := hsz0; simp; omega
          intro g1 cap1 ww1 hown1 hgrow1 hat1 hlt1
          have H1 := Lib.hid (HJ.out.out.grow x _ hown1 hgrow1 hat1 hlt1)
          have HNX := Lib.hid (show RtI T w3 R (p + 1) (acc ++ [x]) (.slice (some ⟨g1, 0, none⟩) (n + 1) cap1) ww1 from ⟨H1.out, HE.out, by omega, by have := HJ.out.few; simp; omega⟩)
          clear hown1 hgrow1 hat1 hlt1
          go_wp2_with fail
          go_roundg (T.size - (p + 1))
          case measure => omega
          case rel => exact ⟨p + 1, _, by first | rfl | go_num, rfl, HNX⟩
    · have hlt' : (T.size : Int) ≤ (p : Nat) := by omega
      have HE := Lib.hid (show strE R = 5 by rw [← HJ.out.rest, drop_end hlt]; rfl)
      have t0 : wr.cell? ⟨w.heap.size, 0, none⟩ = some (.int .i64 0) := blk_cell HB.out.tok 0
      have t1 : wr.cell? ⟨w.heap.size, 1, none⟩ = some (.int .i64 0) := blk_cell HB.out.tok 1
      have t2 : wr.cell? ⟨w.heap.size, 2, none⟩ = some (.string ⟨#[]⟩) := blk_cell HB.out.tok 2
      have t3 : wr.cell? ⟨w.heap.size, 3, none⟩ = some (.int .i64 tl) := blk_cell HB.out.tok 3
      have t4 : wr.cell? ⟨w.heap.size, 4, none⟩ = some (.int .i64 tc) := blk_cell HB.out.tok 4
      have t5 : wr.cell? ⟨w.heap.size, 5, none⟩ = some (.int .i64 nx0) := blk_cell HB.out.tok 5
      have r0 : wr.cell? ⟨w.heap.size + 1, 0, none⟩ = some (.int .i64 0) := blk_cell HB.out.res 0
      have s0 := blk_frozen HB.out.res 0
      have r1 : wr.cell? ⟨w.heap.size + 1, 1, none⟩ = some (.int .i64 0) := blk_cell HB.out.res 1
      have s1 := blk_frozen HB.out.res 1
      have r2 : wr.cell? ⟨w.heap.size + 1, 2, none⟩ = some (.string ⟨#[]⟩) := blk_cell HB.out.res 2
      have s2 := blk_frozen HB.out.res 2
      have r3 : wr.cell? ⟨w.heap.size + 1, 3, none⟩ = some (.int .i64 0) := blk_cell HB.out.res 3
      have s3 := blk_frozen HB.out.res 3
      have r4 : wr.cell? ⟨w.heap.size + 1, 4, none⟩ = some (.int .i64 0) := blk_cell HB.out.res 4
      have s4 := blk_frozen HB.out.res 4
      have r5 : wr.cell? ⟨w.heap.size + 1, 5, none⟩ = some (.int .i64 0) := blk_cell HB.out.res 5
      have s5 := blk_frozen HB.out.res 5
      have z0 : wr.cell? ⟨w.heap.size + 1 + 1, 0, none⟩ = some (.int .i64 0) := blk_cell HB.out.flt 0
      have y0 := blk_frozen HB.out.flt 0
      have z1 : wr.cell? ⟨w.heap.size + 1 + 1, 1, none⟩ = some (.int .i64 0) := blk_cell HB.out.flt 1
      have y1 := blk_frozen HB.out.flt 1
      have z2 : wr.cell? ⟨w.heap.size + 1 + 1, 2, none⟩ = some (.int .i64 0) := blk_cell HB.out.flt 2
      have y2 := blk_frozen HB.out.flt 2
      go_wp2_with fail
      go_region
      clear t0 t1 t2 t3 t4 t5 r0 s0 r1 s1 r2 s2 r3 s3 r4 s4 r5 s5 z0 y0 z1 y1 z2 y2
      obtain ⟨WF, hWF, hX, hY, hZ⟩ := ret_put (w := w) (HB.out.res) (HB.out.flt) (HB.out.below) 0 0 ⟨#[]⟩ 0 0 0 (5) (tl) (tc)
      rw [hWF]
      clear hWF
      have hX2 := blk_drew hX
      have hY2 := blk_drew hY
      have hZ2 := below_drew hZ
      clear hX hY hZ
      generalize WF.drew = w8 at hX2 hY2 hZ2 ⊢
      go_wp2_with fail
      have q0 := blk_cell hX2 0
      have q1 := blk_cell hX2 1
      have q2 := blk_cell hX2 2
      have q3 := blk_cell hX2 3
      have q4 := blk_cell hX2 4
      have q5 := blk_cell hX2 5
      have u0 := blk_cell hY2 0
      have u1 := blk_cell hY2 1
      have u2 := blk_cell hY2 2
      (try simp only [Exit.inBlock, Exit.then])
      refine bodyPost_ret (by simp [results, Tryd.results68, go_sem, q0, q1, q2, q3, q4, q5, u0, u1, u2]; rfl) rfl ?_
      exact ⟨by rw [HE.out]; rfl, hZ2⟩

end Go.Proofs.YthighbbikpnpgaaDoor
