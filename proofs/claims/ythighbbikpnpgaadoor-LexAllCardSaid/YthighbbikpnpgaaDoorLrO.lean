/-
  The reference's All.
-/
import Derived.Test.YthighbbikpnpgaaDoorLrL
import Derived.Test.YthighbbikpnpgaaDoorLrW
import Derived.Test.YthighbbikpnpgaaDoorLrR
import Derived.Test.YthighbbikpnpgaaDoorLB5
import Derived.Handy
namespace Go.Proofs.YthighbbikpnpgaaDoor
open Go.RowKit Go.Proofs.YthighbbikpnpgaaDoorW.PrintWords

def refErr (R : Int × Int × Int) : Value := if R.1 = 0 then faultV 0 0 0 else faultV R.1 R.2.1 R.2.2

structure RaI (T : ByteArray) (w : World) (R : (Int × Int × Int) × List TokR) (f i : Nat) (l c : Int) (L : List TokR) (v : Value) (w' : World) : Prop where
  flt : FltAt w.heap.size 0 0 0 w'
  own : w'.ownsRow (w.heap.size + 1) TT 6 v L.length (L.flatMap tokCells)
  below : Below w.heap.size w w'
  rest : R = ((allP T f i l c).1, L ++ (allP T f i l c).2)
  fuel : T.size < f + i
  le : i ≤ T.size
  few : L.length ≤ i
  l0 : 1 ≤ l
  l1 : l ≤ 1 + i
  c0 : 1 ≤ c
  c1 : c ≤ 1 + i

structure RefAllTo (R : (Int × Int × Int) × List TokR) (w : World) (e : Ending) (w' : World) : Prop where
  ret : ∃ v, e = .returned (.tuple #[v, refErr R.1]) ∧ (R.1.1 ≠ 0 → v = .slice none 0 0) ∧ (R.1.1 = 0 → w'.ownsRow w.heap.size TT 6 v R.2.length (R.2.flatMap tokCells))
  below : Below w.heap.size w w'

/-- The two blocks of a round. -/
structure Rnd (w1 : World) (t : TokR) (k l c : Int) (w' : World) : Prop where
  tok : TokAt w1.heap.size t.k t.n ⟨t.x.toArray⟩ t.ln t.cl (t.nx : Nat) w'
  flt : FltAt (w1.heap.size + 1) k l c w'
  below : Below w1.heap.size w1 w'
theorem rnd_start (w1 : World) (t : TokR) (k l c : Int) : Rnd w1 t k l c ((w1.alloc (.cells #[.int .i64 t.k, .int .i64 t.n, .string ⟨t.x.toArray⟩, .int .i64 t.ln, .int .i64 t.cl, .int .i64 (t.nx : Nat)] TT)).alloc (.cells #[.int .i64 k, .int .i64 l, .int .i64 c] 64)) := by
  refine ⟨blk_alloc (blk_new w1 _) _, ?_, below_alloc (below_alloc (Below.refl _ _) _) _⟩
  have := blk_new (w1.alloc (.cells #[.int .i64 t.k, .int .i64 t.n, .string ⟨t.x.toArray⟩, .int .i64 t.ln, .int .i64 t.cl, .int .i64 (t.nx : Nat)] TT)) (.cells #[.int .i64 k, .int .i64 l, .int .i64 c] 64 (0, 0))
  rw [show (w1.alloc (.cells #[.int .i64 t.k, .int .i64 t.n, .string ⟨t.x.toArray⟩, .int .i64 t.ln, .int .i64 t.cl, .int .i64 (t.nx : Nat)] TT)).heap.size = w1.heap.size + 1 by simp] at this
  exact this

theorem own_setF {W : World} {b : Nat} {v u : Value} {n : Nat} {xs : List Value} {j : Nat} (h : W.ownsRow (b + 1) TT 6 v n xs) : (W.setCell ⟨b, j, none⟩ u).ownsRow (b + 1) TT 6 v n xs :=
  own_setCell h (own_far h).symm u

theorem ret_putF {w W : World} (hf : FltAt w.heap.size 0 0 0 W) (hb : Below w.heap.size w W) (fk fl fc : Int) :
    ∃ WF, (((W.setCell ⟨w.heap.size, 0, none⟩ (.int .i64 fk)).setCell ⟨w.heap.size, 1, none⟩ (.int .i64 fl)).setCell ⟨w.heap.size, 2, none⟩ (.int .i64 fc)) = WF ∧
      FltAt w.heap.size fk fl fc WF ∧ Below w.heap.size w WF ∧ ∀ v n xs, W.ownsRow (w.heap.size + 1) TT 6 v n xs → WF.drew.ownsRow (w.heap.size + 1) TT 6 v n xs := by
  refine ⟨_, rfl, ?_, ?_, fun v n xs h => ?_⟩
  · exact blk_put (blk_put (blk_put hf 0 _ rfl) 1 _ rfl) 2 _ rfl
  · exact below_set (below_set (below_set hb (by omega)) (by omega)) (by omega)
  · exact own_setF (own_setF (own_setF h))

set_option maxRecDepth 400000 in
set_option maxHeartbeats 8000000 in
theorem refall_any (T : ByteArray) (w : World) (hT : T.size ≤ 16384) :
    Calls Tryd.prog 36 #[.string T] w (RefAllTo (allP T (T.size + 1) 0 1 1) w) := by
  have hb : decide ((16384 : Int) < (T.size : Nat)) = false := decide_eq_false (by omega)
  have hb' : ¬ (16384 : Int) < (T.size : Nat) := by omega
  obtain ⟨i0, hi, hz0, hz1, hz2⟩ := info_parts info_tok
  obtain ⟨R, hR⟩ : ∃ R, allP T (T.size + 1) 0 1 1 = R := ⟨_, rfl⟩
  rw [hR]
  have HI := Lib.hid (show RaI T w R (T.size + 1) 0 1 1 [] (.slice none 0 0) (w.alloc (.cells #[.int .i64 0, .int .i64 0, .int .i64 0] 64)) from
    ⟨blk_new w _, ⟨rfl, .inl ⟨rfl, rfl⟩⟩, below_alloc (Below.refl _ _) _, by rw [hR]; rfl, by omega, Nat.zero_le _, Nat.zero_le _, by omega, by simp, by omega, by simp⟩)
  have HT := Lib.hid hT
  clear hR hT
  go_enter Tryd.func36, Tryd.ntmps36
  (go_wp2_with fail; repeat (go_region; go_wp2_with fail))
  go_loopg [4, 5, 6, 7] (T.size + 1) (fun gk v4 v5 v6 v7 w' => ∃ (i : Nat) (l c : Int) (L : List TokR), v5 = .int .i64 (i : Nat) ∧ v6 = .int .i64 l ∧ v7 = .int .i64 c ∧ Hid (RaI T w R gk i l c L v4 w'))
  case atStart => exact ⟨0, 1, 1, [], rfl, rfl, rfl, HI⟩
  case round =>
    clear HI
    obtain ⟨i, l, c, L, rfl, rfl, rfl, HJ⟩ := hrel
    obtain ⟨f, rfl⟩ : ∃ f, gk = f + 1 := ⟨gk - 1, by have := HJ.out.fuel; have := HJ.out.le; omega⟩
    have hTT := HT.out
    have hjl := HJ.out.le
    have hl1 := HJ.out.l1
    have hc1 := HJ.out.c1
    have cN := Lib.hid (fun w => refnext_ok T i l c w hjl (by omega) HJ.out.l0 (by omega) HJ.out.c0 (by omega))
    obtain ⟨⟨er, t⟩, ht⟩ : ∃ t, tokP T i l c = t := ⟨_, rfl⟩
    rw [ht] at cN
    have HTP := Lib.hid ht
    clear ht
    by_cases he : er = 0
    · subst he
      rw [show refRet (0, t) = .tuple #[.agg #[.int .i64 t.k, .int .i64 t.n, .string ⟨t.x.toArray⟩, .int .i64 t.ln, .int .i64 t.cl, .int .i64 (t.nx : Nat)], .agg #[.int .i64 0, .int .i64 0, .int .i64 0]] from rfl] at cN
      go_wp2_with fail
      refine (cN.out _).mono ?_
      rintro e w1 hw1
      obtain rfl := hw1.ret
      have HB1 := Lib.hid (below_step HJ.out.below hw1.below)
      have HF1 := Lib.hid (blk_below HJ.out.flt hw1.below)
      have HO1 := Lib.hid ((KeepBut.of_below hw1.below w.heap.size none).own HJ.out.own (own_far HJ.out.own) (Classical.em _))
      clear hw1 cN
      go_upto_region 6 with (fail)
      have hs1 : w.heap.size < w1.heap.size := blk_lt HF1.out
      have hrd : Rnd w1 t 0 0 0 ((w1.alloc (.cells #[.int .i64 t.k, .int .i64 t.n, .string ⟨t.x.toArray⟩, .int .i64 t.ln, .int .i64 t.cl, .int .i64 (t.nx : Nat)] TT)).alloc (.cells #[.int .i64 0, .int .i64 0, .int .i64 0] 64)) := rnd_start w1 t 0 0 0
      have HRD := Lib.hid hrd
      have HB5 := Lib.hid (below_step HB1.out hrd.below)
      have HF5 := Lib.hid (blk_below HF1.out hrd.below)
      have HO5 := Lib.hid ((HO1.out.alloc (.cells #[.int .i64 t.k, .int .i64 t.n, .string ⟨t.x.toArray⟩, .int .i64 t.ln, .int .i64 t.cl, .int .i64 (t.nx : Nat)] TT)).alloc (.cells #[.int .i64 0, .int .i64 0, .int .i64 0] 64))
      clear hrd
      generalize (w1.alloc (.cells #[.int .i64 t.k, .int .i64 t.n, .string ⟨t.x.toArray⟩, .int .i64 t.ln, .int .i64 t.cl, .int .i64 (t.nx : Nat)] TT)).alloc (.cells #[.int .i64 0, .int .i64 0, .int .i64 0] 64) = w5 at HRD HB5 HF5 HO5 ⊢
      have t0 : w5.cell? ⟨w1.heap.size, 0, none⟩ = some (.int .i64 t.k) := blk_cell HRD.out.tok 0
      have t1 : w5.cell? ⟨w1.heap.size, 1, none⟩ = some (.int .i64 t.n) := blk_cell HRD.out.tok 1
      have t2 : w5.cell? ⟨w1.heap.size, 2, none⟩ = some (.string ⟨t.x.toArray⟩) := blk_cell HRD.out.tok 2
      have t3 : w5.cell? ⟨w1.heap.size, 3, none⟩ = some (.int .i64 t.ln) := blk_cell HRD.out.tok 3
      have t4 : w5.cell? ⟨w1.heap.size, 4, none⟩ = some (.int .i64 t.cl) := blk_cell HRD.out.tok 4
      have t5 : w5.cell? ⟨w1.heap.size, 5, none⟩ = some (.int .i64 (t.nx : Nat)) := blk_cell HRD.out.tok 5
      have z0 : w5.cell? ⟨w1.heap.size + 1, 0, none⟩ = some (.int .i64 0) := blk_cell HRD.out.flt 0
      have z1 : w5.cell? ⟨w1.heap.size + 1, 1, none⟩ = some (.int .i64 0) := blk_cell HRD.out.flt 1
      have z2 : w5.cell? ⟨w1.heap.size + 1, 2, none⟩ = some (.int .i64 0) := blk_cell HRD.out.flt 2
      by_cases hk : t.k = 14
      · have hkb : (t.k == 14) = true := by simp [hk]
        have HK := Lib.hid hk
        clear hk
        have HE := Lib.hid (show R = ((0, 0, 0), L) by
          have := HJ.out.rest
          rw [allP, HTP.out, if_neg (by simp), if_pos HK.out] at this
          simpa using this)
        have r0 : w5.cell? ⟨w.heap.size, 0, none⟩ = some (.int .i64 0) := blk_cell HF5.out 0
        have y0 := blk_frozen HF5.out 0
        have r1 : w5.cell? ⟨w.heap.size, 1, none⟩ = some (.int .i64 0) := blk_cell HF5.out 1
        have y1 := blk_frozen HF5.out 1
        have r2 : w5.cell? ⟨w.heap.size, 2, none⟩ = some (.int .i64 0) := blk_cell HF5.out 2
        have y2 := blk_frozen HF5.out 2
        go_wp2_with fail
        go_region
        clear r0 r1 r2 y0 y1 y2 z0 z1 z2 t0 t1 t2 t3 t4 t5
        obtain ⟨WF, hWF, hX, hZ, hQ⟩ := ret_putF HF5.out HB5.out (0) (0) (0)
        rw [hWF]
        clear hWF
        have hX2 := blk_drew hX
        have hZ2 := below_drew hZ
        have hO2 := hQ _ _ _ HO5.out
        clear hX hZ hQ
        generalize WF.drew = w8 at hX2 hZ2 hO2 ⊢
        go_wp2_with fail
        have u0 := blk_cell hX2 0
        have u1 := blk_cell hX2 1
        have u2 := blk_cell hX2 2
        (try simp only [Exit.inBlock, Exit.then])
        refine bodyPost_ret (by simp [results, Tryd.results36, go_sem, u0, u1, u2]; rfl) rfl ?_
        exact ⟨⟨_, by rw [HE.out]; rfl, fun h => absurd (by rw [HE.out]) h, fun _ => by rw [HE.out]; exact own_weaken hO2 (Nat.le_succ w.heap.size)⟩, hZ2⟩
      · have hkb : (t.k == 14) = false := beq_eq_false_iff_ne.2 hk
        have HK := Lib.hid hk
        have HPL := Lib.hid (show t.nx ≤ T.size ∧ i < t.nx from by
          have := tokP_place (ln := l) (cl := c) HJ.out.le (by rw [HTP.out])
          rw [HTP.out] at this
          exact ⟨this.2.1, this.2.2 hk⟩)
        have hlen : L.length + 1 ≤ 16385 := by have := HJ.out.few; have := HPL.out; omega
        have hs5 : w1.heap.size < w5.heap.size := blk_lt HRD.out.tok
        go_wp2_with (at_builtin; refine wpList_append_own _ rfl _ _ 69 rfl (w.heap.size + 1) TT i0 (tokV tok0) 6 56 Tryd.underlying69 hi hz0 hz1 hz2 rfl (by decide) _ _ _ rfl (HO5.out.alloc _) ⟨w5.heap.size, 0, none⟩ 1 1 (tokCells t) rfl rfl ?c1 ?c2 ?c3 ?c4 ?c5 ?_)
        case c1 => exact World.news_of_block (blk_new w5 _)
        case c2 => first | rfl | simp [Value.oneCell', tokCells]
        case c3 => unfold maxLen; omega
        case c4 => omega
        case c5 => have := HB5.out.size; simp; omega
        intro v' w2 hown' hgrow _
        have HT2 := Lib.hid (show TokAt w1.heap.size t.k t.n ⟨t.x.toArray⟩ t.ln t.cl (t.nx : Nat) w2 from (hgrow.block _ (by simp; omega) (fun e => absurd (HO1.out.lt _ e.symm).2 (Nat.lt_irrefl _))).trans (blk_alloc HRD.out.tok _))
        have HF2 := Lib.hid (show FltAt w.heap.size 0 0 0 w2 from (hgrow.block _ (by simp; omega) (own_far HO5.out).symm).trans (blk_alloc HF5.out _))
        have HB2 := Lib.hid (show Below w.heap.size w w2 from (below_alloc HB5.out _).grown hgrow (by simp; omega) (fun k hk => by have := (HO5.out.lt k hk).1; omega))
        have HO2 := Lib.hid hown'
        clear hown' hgrow t0 t1 t2 t3 t4 t5 z0 z1 z2 HO5 HO1 HF5 HF1 HB5 HB1 HRD
        have t5 : w2.cell? ⟨w1.heap.size, 5, none⟩ = some (.int .i64 (t.nx : Nat)) := blk_cell HT2.out 5
        have hl2 : w1.heap.size < w2.heap.size := blk_lt HT2.out
        have hp1 := HPL.out.1
        have hp2 := HPL.out.2
        have hj1 := HJ.out.l0
        have hj2 := HJ.out.c0
        go_wp2_with fail
        refine (where_any T i t.nx l c _ (Nat.le_of_lt hp2) hp1 (by omega) (by omega) (by omega) (by omega) (by omega)).mono ?_
        rintro e w6 ⟨rfl, hb6⟩
        have t6 := (hb6.cell (p := ⟨w1.heap.size, 5, none⟩) hl2).trans t5
        have m1 := whereL_line ((T.data.toList.drop i).take (t.nx - i)) l c
        have m2 := whereL_col ((T.data.toList.drop i).take (t.nx - i)) l c (by omega)
        have m3 := whereL_one ((T.data.toList.drop i).take (t.nx - i)) l c hj2
        have m4 : ((T.data.toList.drop i).take (t.nx - i)).length ≤ t.nx - i := List.length_take_le _ _
        have HN := Lib.hid (show RaI T w R f t.nx (whereL ((T.data.toList.drop i).take (t.nx - i)) l c).1 (whereL ((T.data.toList.drop i).take (t.nx - i)) l c).2 (L ++ [t]) v' w6 from {
          flt := blk_below HF2.out hb6
          own := by
            have h := (KeepBut.of_below hb6 w.heap.size none).own HO2.out (own_far HO2.out) (Classical.em _)
            rw [List.length_append, List.flatMap_append]
            simpa using h
          below := below_step HB2.out hb6
          rest := by
            have := HJ.out.rest
            rw [allP, HTP.out, if_neg (by simp), if_neg HK.out] at this
            rw [this, List.append_assoc]
            rfl
          fuel := by have := HJ.out.fuel; omega
          le := hp1
          few := by have := HJ.out.few; rw [List.length_append, List.length_singleton]; omega
          l0 := by omega
          l1 := by omega
          c0 := m3
          c1 := by omega })
        clear m1 m2 m3 m4 hb6 HO2 HB2 HF2 HT2
        go_wp2_with fail
        go_roundg f
        case measure => omega
        case rel => exact ⟨t.nx, _, _, L ++ [t], rfl, rfl, rfl, HN⟩
    · have heb : (er == 0) = false := beq_eq_false_iff_ne.2 he
      have HNE := Lib.hid he
      rw [show refRet (er, t) = .tuple #[.agg #[.int .i64 0, .int .i64 0, .string ⟨#[]⟩, .int .i64 0, .int .i64 0, .int .i64 0], .agg #[.int .i64 er, .int .i64 t.ln, .int .i64 t.cl]] by rw [refRet, if_neg he]; rfl] at cN
      go_wp2_with fail
      refine (cN.out _).mono ?_
      rintro e w1 hw1
      obtain rfl := hw1.ret
      have HB1 := Lib.hid (below_step HJ.out.below hw1.below)
      have HF1 := Lib.hid (blk_below HJ.out.flt hw1.below)
      clear hw1 cN
      go_upto_region 6 with (fail)
      have hs1 : w.heap.size < w1.heap.size := blk_lt HF1.out
      have hrd : Rnd w1 tok0 er t.ln t.cl ((w1.alloc (.cells #[.int .i64 0, .int .i64 0, .string ⟨#[]⟩, .int .i64 0, .int .i64 0, .int .i64 0] TT)).alloc (.cells #[.int .i64 er, .int .i64 t.ln, .int .i64 t.cl] 64)) := rnd_start w1 tok0 er t.ln t.cl
      have HRD := Lib.hid hrd
      have HB5 := Lib.hid (below_step HB1.out hrd.below)
      have HF5 := Lib.hid (blk_below HF1.out hrd.below)
      clear hrd
      generalize (w1.alloc (.cells #[.int .i64 0, .int .i64 0, .string ⟨#[]⟩, .int .i64 0, .int .i64 0, .int .i64 0] TT)).alloc (.cells #[.int .i64 er, .int .i64 t.ln, .int .i64 t.cl] 64) = w5 at HRD HB5 HF5 ⊢
      have z0 : w5.cell? ⟨w1.heap.size + 1, 0, none⟩ = some (.int .i64 er) := blk_cell HRD.out.flt 0
      have z1 : w5.cell? ⟨w1.heap.size + 1, 1, none⟩ = some (.int .i64 t.ln) := blk_cell HRD.out.flt 1
      have z2 : w5.cell? ⟨w1.heap.size + 1, 2, none⟩ = some (.int .i64 t.cl) := blk_cell HRD.out.flt 2
      have r0 : w5.cell? ⟨w.heap.size, 0, none⟩ = some (.int .i64 0) := blk_cell HF5.out 0
      have y0 := blk_frozen HF5.out 0
      have r1 : w5.cell? ⟨w.heap.size, 1, none⟩ = some (.int .i64 0) := blk_cell HF5.out 1
      have y1 := blk_frozen HF5.out 1
      have r2 : w5.cell? ⟨w.heap.size, 2, none⟩ = some (.int .i64 0) := blk_cell HF5.out 2
      have y2 := blk_frozen HF5.out 2
      have HE := Lib.hid (show R = ((er, t.ln, t.cl), L) by
        have := HJ.out.rest
        rw [allP, HTP.out, if_pos (by simpa using HNE.out)] at this
        simpa using this)
      go_wp2_with fail
      go_region
      clear r0 r1 r2 y0 y1 y2 z0 z1 z2
      obtain ⟨WF, hWF, hX, hZ, hQ⟩ := ret_putF HF5.out HB5.out (er) (t.ln) (t.cl)
      rw [hWF]
      clear hWF
      have hX2 := blk_drew hX
      have hZ2 := below_drew hZ
      clear hX hZ hQ
      generalize WF.drew = w8 at hX2 hZ2 ⊢
      go_wp2_with fail
      have u0 := blk_cell hX2 0
      have u1 := blk_cell hX2 1
      have u2 := blk_cell hX2 2
      (try simp only [Exit.inBlock, Exit.then])
      refine bodyPost_ret (by simp [results, Tryd.results36, go_sem, u0, u1, u2]; rfl) rfl ?_
      exact ⟨⟨_, by rw [HE.out, refErr, if_neg HNE.out], fun _ => rfl, fun h => absurd (by rw [HE.out] at h; exact h) HNE.out⟩, hZ2⟩
end Go.Proofs.YthighbbikpnpgaaDoor
