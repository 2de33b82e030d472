/-
  The lexer's All.
  Layer 7: awake.
  The lexer's plain laws: a token is its own bytes; blanks change nothing but places.
  Plain: a number's text is read as the number; two numbers' texts differ; no blank stands in one.
-/
import Derived.Test.YthighbbikpnpgaaDoorLB4

/-! LeW -/
namespace Go.Proofs.YthighbbikpnpgaaDoor
open Go.RowKit Go.Proofs.YthighbbikpnpgaaDoorW.PrintWords

def tokCells (t : TokR) : List Value := [.int .i64 t.k, .int .i64 t.n, .string ⟨t.x.toArray⟩, .int .i64 t.ln, .int .i64 t.cl, .int .i64 (t.nx : Nat)]
abbrev TT : TypeId := 60
def allErr (R : Int × Int × Int) : Value := if R.1 = 0 then .nilIface else atV R.2.1 R.2.2 R.1
theorem info_tok : (Tryd.prog.info? TT).map (fun i => (i.zero, i.size, i.bytes)) = some (some (tokV tok0), 6, 56) := by kernel_rfl

structure AllI (T : ByteArray) (w : World) (R : (Int × Int × Int) × List TokR) (f i : Nat) (l c : Int) (L : List TokR) (v : Value) (w' : World) : Prop where
  lex : LexAt w.heap.size T (i : Nat) l c w'
  own : w'.ownsRow (w.heap.size + 1) TT 6 v L.length (L.flatMap tokCells)
  below : Below w.heap.size w w'
  rest : R = ((allP T f i l c).1, L ++ (allP T f i l c).2)
  fuel : T.size < f + i
  le : i ≤ T.size
  few : L.length ≤ i
  l0 : 0 ≤ l
  l1 : l ≤ 1 + i
  c0 : 0 ≤ c
  c1 : c ≤ 1 + i

theorem own_far {w : World} {b : Nat} {v : Value} {n : Nat} {xs : List Value} (h : w.ownsRow (b + 1) TT 6 v n xs) : v.ownBlock ≠ some b := by
  rcases h.2 with ⟨rfl, _⟩ | ⟨g, cap, cur, rfl, hb, _⟩
  · simp [Value.ownBlock]
  · simp [Value.ownBlock]; omega

theorem keep_belowB {W W' : World} {g B : Nat} (h : KeepB W W' g none) (hB : B ≤ g) (hW : B ≤ W.heap.size) : Below B W W' := ⟨h.2.1, h.2.2.1, h.2.2.2, h.1.1, fun i hi => h.1.2 i (by omega) (by omega) (by simp)⟩

structure AllTo (R : (Int × Int × Int) × List TokR) (w : World) (e : Ending) (w' : World) : Prop where
  ret : ∃ v, e = .returned (.tuple #[v, allErr R.1]) ∧ (R.1.1 ≠ 0 → v = .slice none 0 0) ∧ (R.1.1 = 0 → w'.ownsRow w.heap.size TT 6 v R.2.length (R.2.flatMap tokCells))
  below : Below w.heap.size w w'

set_option maxRecDepth 400000 in
set_option maxHeartbeats 4000000 in
theorem all_long (T : ByteArray) (w : World) (hT : 16384 < T.size) :
    Calls Tryd.prog 35 #[.string T] w fun e w' => e = .returned (.tuple #[.slice none 0 0, kindV 14]) ∧ Below w.heap.size w w' := by
  have hb : decide ((16384 : Int) < (T.size : Nat)) = true := decide_eq_true (by omega)
  have hb' : (16384 : Int) < (T.size : Nat) := by omega
  go_enter Tryd.func35, Tryd.ntmps35
  (go_wp2_with fail; repeat (go_region; go_wp2_with fail))
  go_ret2
  exact ⟨rfl, Below.refl _ _⟩

set_option maxRecDepth 400000 in
set_option maxHeartbeats 8000000 in
theorem all_any (T : ByteArray) (w : World) (hT : T.size ≤ 16384) :
    Calls Tryd.prog 35 #[.string T] w (AllTo (allP T (T.size + 1) 0 1 1) w) := by
  have hb : decide ((16384 : Int) < (T.size : Nat)) = false := decide_eq_false (by omega)
  have hb' : ¬ (16384 : Int) < (T.size : Nat) := by omega
  obtain ⟨i0, hi, hz0, hz1, hz2⟩ := info_parts info_tok
  obtain ⟨R, hR⟩ : ∃ R, allP T (T.size + 1) 0 1 1 = R := ⟨_, rfl⟩
  rw [hR]
  have HI := Lib.hid (show AllI T w R (T.size + 1) 0 1 1 [] (.slice none 0 0) (w.alloc (.cells #[.string T, .int .i64 0, .int .i64 1, .int .i64 1] 121)) from
    ⟨blk_new w _, ⟨rfl, .inl ⟨rfl, rfl⟩⟩, below_alloc (Below.refl _ _) _, by rw [hR]; rfl, by omega, Nat.zero_le _, Nat.zero_le _, by omega, by simp, by omega, by simp⟩)
  have HT := Lib.hid hT
  clear hR hT
  go_enter Tryd.func35, Tryd.ntmps35
  (go_wp2_with fail; repeat (go_region; go_wp2_with fail))
  go_loopg [5] (T.size + 1) (fun gk v w' => ∃ (i : Nat) (l c : Int) (L : List TokR), Hid (AllI T w R gk i l c L v w'))
  case atStart => exact ⟨0, 1, 1, [], HI⟩
  case round =>
    clear HI
    obtain ⟨i, l, c, L, HJ⟩ := hrel
    obtain ⟨f, rfl⟩ : ∃ f, gk = f + 1 := ⟨gk - 1, by have := HJ.out.fuel; have := HJ.out.le; omega⟩
    go_wp2_with fail
    refine (token_any w.heap.size T i l c _ HJ.out.lex HJ.out.le (by have := HT.out; omega) HJ.out.l0 (by have := HJ.out.l1; have := HJ.out.le; have := HT.out; omega) HJ.out.c0 (by have := HJ.out.c1; have := HJ.out.le; have := HT.out; omega)).mono ?_
    rintro e w1 hw1
    obtain rfl := hw1.ret
    obtain ⟨⟨er, t⟩, ht⟩ : ∃ t, tokP T i l c = t := ⟨_, rfl⟩
    rw [ht] at hw1 ⊢
    have HW1 := Lib.hid hw1
    have HTP := Lib.hid ht
    clear hw1 ht
    by_cases he : er = 0
    · subst he
      have HR := Lib.hid (show tokRet (0, t) = .tuple #[.agg #[.int .i64 t.k, .int .i64 t.n, .string ⟨t.x.toArray⟩, .int .i64 t.ln, .int .i64 t.cl, .int .i64 (t.nx : Nat)], .nilIface] from rfl)
      rw [HR.out]
      by_cases hk : t.k = 14
      · have hkb : (t.k == 14) = true := by simp [hk]
        have HK := Lib.hid hk
        clear hk
        have HE := Lib.hid (show R = ((0, 0, 0), L) by
          have := HJ.out.rest
          rw [allP, HTP.out, if_neg (by simp), if_pos HK.out] at this
          simpa using this)
        have HO := Lib.hid (own_weaken ((HW1.out.keep.1.own HJ.out.own (own_far HJ.out.own) (Classical.em _)).alloc (.cells #[.int .i64 t.k, .int .i64 t.n, .string ⟨t.x.toArray⟩, .int .i64 t.ln, .int .i64 t.cl, .int .i64 (t.nx : Nat)] TT)) (Nat.le_succ w.heap.size))
        have HBL := Lib.hid (HJ.out.below.trans (keep_belowB HW1.out.keep (Nat.le_refl _) HJ.out.below.size))
        go_wp2_with fail
        go_ret2
        exact ⟨⟨_, by rw [HE.out]; rfl, fun h => absurd (by rw [HE.out]) h, fun _ => by rw [HE.out]; exact HO.out⟩, below_alloc HBL.out _⟩
      · have hkb : (t.k == 14) = false := beq_eq_false_iff_ne.2 hk
        have HK := Lib.hid hk
        have HO := Lib.hid (HW1.out.keep.1.own HJ.out.own (own_far HJ.out.own) (Classical.em _))
        have HBL := Lib.hid (HJ.out.below.trans (keep_belowB HW1.out.keep (Nat.le_refl _) HJ.out.below.size))
        have HPL := Lib.hid (show t.nx ≤ T.size ∧ i < t.nx from by
          have := tokP_place (ln := l) (cl := c) HJ.out.le (by rw [HTP.out])
          rw [HTP.out] at this
          exact ⟨this.2.1, this.2.2 hk⟩)
        have HLX := Lib.hid (HW1.out.lex rfl)
        have HAR := Lib.hid (show ((w1.alloc (.cells #[.int .i64 t.k, .int .i64 t.n, .string ⟨t.x.toArray⟩, .int .i64 t.ln, .int .i64 t.cl, .int .i64 (t.nx : Nat)] TT)).alloc (.cells #[.int .i64 t.k, .int .i64 t.n, .string ⟨t.x.toArray⟩, .int .i64 t.ln, .int .i64 t.cl, .int .i64 (t.nx : Nat)] TT)).heap[w1.heap.size + 1]? = some (.cells #[.int .i64 t.k, .int .i64 t.n, .string ⟨t.x.toArray⟩, .int .i64 t.ln, .int .i64 t.cl, .int .i64 (t.nx : Nat)] TT (0, 0)) from by
          have := blk_new (w1.alloc (.cells #[.int .i64 t.k, .int .i64 t.n, .string ⟨t.x.toArray⟩, .int .i64 t.ln, .int .i64 t.cl, .int .i64 (t.nx : Nat)] TT)) (.cells #[.int .i64 t.k, .int .i64 t.n, .string ⟨t.x.toArray⟩, .int .i64 t.ln, .int .i64 t.cl, .int .i64 (t.nx : Nat)] TT (0, 0))
          rw [show (w1.alloc (.cells #[.int .i64 t.k, .int .i64 t.n, .string ⟨t.x.toArray⟩, .int .i64 t.ln, .int .i64 t.cl, .int .i64 (t.nx : Nat)] TT)).heap.size = w1.heap.size + 1 by simp] at this
          exact this)
        have hlen : L.length + 1 ≤ 16385 := by have := HJ.out.few; have := HPL.out; have := HT.out; omega
        go_wp2_with (at_builtin; refine wpList_append_own _ rfl _ _ 69 rfl (w.heap.size + 1) TT i0 (tokV tok0) 6 56 Tryd.underlying69 hi hz0 hz1 hz2 rfl (by decide) _ _ _ rfl ((HO.out.alloc _).alloc _) ⟨w1.heap.size + 1, 0, none⟩ 1 1 (tokCells t) rfl rfl ?c1 ?c2 ?c3 ?c4 ?c5 ?_)
        case c1 => exact World.news_of_block HAR.out
        case c2 => first | rfl | simp [Value.oneCell', tokCells]
        case c3 => unfold maxLen; omega
        case c4 => omega
        case c5 => have := HBL.out.size; simp; omega
        intro v' w2 hown' hgrow _
        have hlb : w.heap.size < w1.heap.size := blk_lt HLX.out
        have HN := Lib.hid (show AllI T w R f t.nx _ _ (L ++ [t]) v' w2 from {
          lex := (hgrow.block _ (by simp; omega) (own_far HO.out).symm).trans (blk_alloc (blk_alloc HLX.out _) _)
          own := by rw [List.length_append, List.flatMap_append]; simpa using hown'
          below := (below_alloc (below_alloc HBL.out _) _).grown hgrow (by simp; omega) (fun k hk => by have := (HO.out.lt k hk).1; omega)
          rest := by
            have := HJ.out.rest
            rw [allP, HTP.out, if_neg (by simp), if_neg HK.out] at this
            rw [this, List.append_assoc]
            rfl
          fuel := by have := HJ.out.fuel; have := HPL.out; omega
          le := HPL.out.1
          few := by have := HJ.out.few; have := HPL.out; rw [List.length_append, List.length_singleton]; omega
          l0 := by have := whereL_line ((T.data.toList.drop i).take (t.nx - i)) l c; have := HJ.out.l0; omega
          l1 := by
            have h1 := whereL_line ((T.data.toList.drop i).take (t.nx - i)) l c
            have h2 := HJ.out.l1
            have h3 : ((T.data.toList.drop i).take (t.nx - i)).length ≤ t.nx - i := List.length_take_le _ _
            have h4 := HPL.out
            omega
          c0 := (whereL_col _ l c HJ.out.c0).1
          c1 := by
            have h1 := whereL_col ((T.data.toList.drop i).take (t.nx - i)) l c HJ.out.c0
            have h2 := HJ.out.c1
            have h3 : ((T.data.toList.drop i).take (t.nx - i)).length ≤ t.nx - i := List.length_take_le _ _
            have h4 := HPL.out
            omega })
        clear hown' hgrow HAR HO HBL HLX HW1
        go_wp2_with fail
        go_roundg f
        case measure => omega
        case rel => exact ⟨t.nx, _, _, L ++ [t], HN⟩
    · have HNE := Lib.hid he
      have HE := Lib.hid (show R = ((er, t.ln, t.cl), L) by
        have := HJ.out.rest
        rw [allP, HTP.out, if_pos he] at this
        simpa using this)
      have HR := Lib.hid (show tokRet (er, t) = .tuple #[.agg #[.int .i64 0, .int .i64 0, .string ⟨#[]⟩, .int .i64 0, .int .i64 0, .int .i64 0], atV t.ln t.cl er] by unfold tokRet; rw [if_neg he]; rfl)
      rw [HR.out]
      have HBL := Lib.hid (HJ.out.below.trans (keep_belowB HW1.out.keep (Nat.le_refl _) HJ.out.below.size))
      clear he
      go_wp2_with fail
      go_ret2
      exact ⟨⟨.slice none 0 0, by rw [HE.out]; show _ = Ending.returned (.tuple #[.slice none 0 0, if er = 0 then Value.nilIface else atV t.ln t.cl er]); rw [if_neg HNE.out]; rfl, fun _ => rfl, fun h => absurd (by rw [HE.out] at h; exact h) HNE.out⟩, below_alloc HBL.out _⟩
end Go.Proofs.YthighbbikpnpgaaDoor

/-! LeX -/
namespace Go.Proofs.YthighbbikpnpgaaDoor
open Go.RowKit Go.Proofs.YthighbbikpnpgaaDoorW.PrintWords

theorem own_cells {w : World} {B : Nat} {v : Value} {n : Nat} {xs : List Value} (h : w.ownsRow B TT 6 v n xs) (hn : 0 < n) : ∃ g cap, v = .slice (some ⟨g, 0, none⟩) n cap ∧ B ≤ g ∧ n ≤ cap ∧ g < w.heap.size ∧ ∀ k x, xs[k]? = some x → w.cell? ⟨g, k, none⟩ = some x := by
  rcases h.2 with ⟨_, h0⟩ | ⟨g, cap, cur, hv, hb, hg, hc, hm, hs, ht⟩
  · omega
  · refine ⟨g, cap, hv, hb, hc, blk_lt hg, fun k x hx => ?_⟩
    rw [cell_of_row w g k _ TT (0, 0) hg]
    rw [← ht, List.getElem?_take] at hx
    split at hx
    · simpa using hx
    · cases hx

def awT : ByteArray := ⟨#[40, 97, 32, 45, 49, 50, 32, 35, 116, 41]⟩
theorem aw_all : allP awT (awT.size + 1) 0 1 1 = ((0, 0, 0), [⟨1, 0, [], 1, 1, 1⟩, ⟨13, 0, [97], 1, 2, 2⟩, ⟨9, -12, [], 1, 4, 6⟩, ⟨10, 1, [], 1, 8, 9⟩, ⟨2, 0, [], 1, 10, 10⟩]) := by rfl
theorem aw_space : tokP ⟨#[35, 92, 115, 112, 97, 99, 101]⟩ 0 1 1 = (0, ⟨11, 32, [], 1, 1, 7⟩) := by rfl
theorem aw_bad : tokRet (tokP ⟨#[32, 35, 120]⟩ 0 1 1) = .tuple #[.agg #[.int .i64 0, .int .i64 0, .string ⟨#[]⟩, .int .i64 0, .int .i64 0, .int .i64 0], atV 1 2 6] := by rfl
theorem aw_sym : symL [49, 43] = true := by rfl
theorem aw_nosym : symL [49, 50] = false := by rfl

set_option maxRecDepth 400000 in
set_option maxHeartbeats 8000000 in
theorem awake_lex (w : World) (hg : EtIs w) : Calls Tryd.prog 31 #[] w (NextTo (.bool true) w) := by
  have HG := Lib.hid hg
  have cA := Lib.hid (fun w => all_any awT w (by decide))
  rw [aw_all] at cA
  have cN := Lib.hid (fun w => next_ok ⟨#[35, 92, 115, 112, 97, 99, 101]⟩ 0 1 1 w (by decide) (by decide) (by decide) (by decide) (by decide) (by decide))
  rw [aw_space] at cN
  have cB := Lib.hid (fun w => next_ok ⟨#[32, 35, 120]⟩ 0 1 1 w (by decide) (by decide) (by decide) (by decide) (by decide) (by decide))
  rw [aw_bad] at cB
  clear hg
  go_enter Tryd.func31, Tryd.ntmps31
  go_wp2_with fail
  refine (cA.out _).mono ?_
  rintro e w1 hw1
  obtain ⟨v, rfl, -, hown⟩ := hw1.ret
  have hb1 := hw1.below
  obtain ⟨g, cap, rfl, hgB, hgc, hgl, hcell⟩ := own_cells (hown rfl) (by decide)
  have HC := Lib.hid hcell
  clear hw1 hown hcell
  rw [show allErr (((0, 0, 0), [⟨1, 0, [], 1, 1, 1⟩, ⟨13, 0, [97], 1, 2, 2⟩, ⟨9, -12, [], 1, 4, 6⟩, ⟨10, 1, [], 1, 8, 9⟩, ⟨2, 0, [], 1, 10, 10⟩]) : (Int × Int × Int) × List TokR).1 = .nilIface from rfl]
  rw [show (((0, 0, 0), [⟨1, 0, [], 1, 1, 1⟩, ⟨13, 0, [97], 1, 2, 2⟩, ⟨9, -12, [], 1, 4, 6⟩, ⟨10, 1, [], 1, 8, 9⟩, ⟨2, 0, [], 1, 10, 10⟩]) : (Int × Int × Int) × List TokR).2.length = 5 from rfl]
  go_wp2_with fail
  refine (cN.out _).mono ?_
  rintro e w2 hw2
  obtain rfl := hw2.ret
  have hb2 := hw2.below
  clear hw2
  rw [show tokRet (0, ⟨11, 32, [], 1, 1, 7⟩) = .tuple #[.agg #[.int .i64 11, .int .i64 32, .string ⟨#[]⟩, .int .i64 1, .int .i64 1, .int .i64 7], .nilIface] from rfl]
  go_wp2_with fail
  refine (cB.out _).mono ?_
  rintro e w3 hw3
  obtain rfl := hw3.ret
  have hb3 := hw3.below
  clear hw3
  have hs1 := hb1.size
  have hs2 := hb2.size
  have hs3 := hb3.size
  simp only [World.size_alloc] at hs3
  have HB3 := Lib.hid (show Below w1.heap.size w1 w3 from (below_alloc hb2 _).trans (hb3.mono (by simp; omega)))
  have hc : ∀ k x, (List.flatMap tokCells [⟨1, 0, [], 1, 1, 1⟩, ⟨13, 0, [97], 1, 2, 2⟩, ⟨9, -12, [], 1, 4, 6⟩, ⟨10, 1, [], 1, 8, 9⟩, ⟨2, 0, [], 1, 10, 10⟩])[k]? = some x → w3.cell? ⟨g, k, none⟩ = some x := fun k x h => (HB3.out.cell hgl).trans (HC.out k x h)
  have c12 : w3.cell? ⟨g, 12, none⟩ = some (.int .i64 9) := hc 12 _ rfl
  have c13 : w3.cell? ⟨g, 13, none⟩ = some (.int .i64 (-12)) := hc 13 _ rfl
  have c14 : w3.cell? ⟨g, 14, none⟩ = some (.string ⟨#[]⟩) := hc 14 _ rfl
  have c15 : w3.cell? ⟨g, 15, none⟩ = some (.int .i64 1) := hc 15 _ rfl
  have c16 : w3.cell? ⟨g, 16, none⟩ = some (.int .i64 4) := hc 16 _ rfl
  have c17 : w3.cell? ⟨g, 17, none⟩ = some (.int .i64 6) := hc 17 _ rfl
  have c28 : w3.cell? ⟨g, 28, none⟩ = some (.int .i64 10) := hc 28 _ rfl
  have HU := Lib.hid (show w3.heap[w2.heap.size]? = some (.cells #[.int .i64 11, .int .i64 32, .string ⟨#[]⟩, .int .i64 1, .int .i64 1, .int .i64 7] TT (0, 0)) from (hb3.block _ (by simp)).trans (blk_new w2 _))
  have u0 : w3.cell? ⟨w2.heap.size, 0, none⟩ = some (.int .i64 11) := blk_cell HU.out 0
  have u1 : w3.cell? ⟨w2.heap.size, 1, none⟩ = some (.int .i64 32) := blk_cell HU.out 1
  have lg : g < w3.heap.size := by omega
  have lu : w2.heap.size < w3.heap.size := by omega
  have HB := Lib.hid (show Below w.heap.size w w3 from hb1.trans (HB3.out.mono hs1))
  have hq1 : ∀ w, (binOp .eql TT (.agg #[.int .i64 9, .int .i64 (-12), .string ⟨#[]⟩, .int .i64 1, .int .i64 4, .int .i64 6]) (.agg #[.int .i64 9, .int .i64 (-12), .string ⟨#[]⟩, .int .i64 1, .int .i64 4, .int .i64 6])).run Tryd.prog w = .ok (.bool true) w := fun w => by kernel_rfl
  have hq2 : ∀ w, (binOp .eql 64 (faultV 6 1 2) (faultV 6 1 2)).run Tryd.prog w = .ok (.bool true) w := fun w => by kernel_rfl
  clear hc hb2 hb3 hb1 HC hgc
  go_wp2_with fail
  clear c12 c13 c14 c15 c16 c17 c28 u0 u1
  refine (fault_at 1 2 6 (by decide) _ (et_below HG.out (below_alloc HB.out _))).mono ?_
  rintro e w5 hw5
  obtain rfl := hw5.ret
  have HB5 := Lib.hid (show Below w.heap.size w w5 from below_step (below_alloc HB.out _) hw5.below)
  clear hw5
  go_wp2_with fail
  refine (symbol_any _ _).mono ?_
  rintro e w6 ⟨rfl, hb6⟩
  have HB6 := Lib.hid (below_step HB5.out hb6)
  clear hb6
  rw [show symL ((⟨#[49, 43]⟩ : ByteArray).data.toList) = true from rfl]
  go_wp2_with fail
  refine (symbol_any _ _).mono ?_
  rintro e w7 ⟨rfl, hb7⟩
  have HB7 := Lib.hid (below_step HB6.out hb7)
  clear hb7
  rw [show symL ((⟨#[49, 50]⟩ : ByteArray).data.toList) = false from rfl]
  go_wp2_with fail
  go_ret
  exact ⟨rfl, HB7.out⟩
end Go.Proofs.YthighbbikpnpgaaDoor

/-! LeR -/
namespace Go.Proofs.YthighbbikpnpgaaDoor
open Go.RowKit Go.Proofs.YthighbbikpnpgaaDoorW.PrintWords


/-! Blanks: a token is its own bytes. -/
def endH : List UInt8 → Bool
  | [] => true
  | x :: _ => endB x

theorem endAt_drop (T : ByteArray) (k : Nat) : endAt T k = endH (T.data.toList.drop k) := by
  have hl : T.data.toList.length = T.size := by simp
  rw [endAt]
  by_cases h : k < T.size
  · rw [dif_pos h, drop_cons h]; rfl
  · rw [dif_neg h, List.drop_eq_nil_of_le (by omega)]; rfl
theorem twoP_drop (T : ByteArray) (k : Nat) : twoP T k = (T.data.toList.drop k).headD 0 := by
  have hl : T.data.toList.length = T.size := by simp
  rw [twoP]
  by_cases h : k < T.size
  · rw [dif_pos h, drop_cons h]; rfl
  · rw [dif_neg h, List.drop_eq_nil_of_le (by omega)]; rfl

theorem strP_local (z : List UInt8) : ∀ (l acc : List UInt8) (k k' : Nat) (a : List UInt8) (p : Nat), strP l acc k = (0, a, p) → strP (l.take (p + 1 - k) ++ z) acc k' = (0, a, p - k + k') := by
  intro l acc k
  induction l, acc, k using strP.induct with
  | case1 acc k => intro k' a p h; simp [strP] at h
  | case2 acc k => intro k' a p h; rw [strP_mark] at h; injection h with _ h; injection h with h1 h2; subst h1 h2; rw [show k + 1 - k = 1 by omega]; simp [strP_mark]
  | case3 acc k h1 => intro k' a p h; simp [strP] at h
  | case4 acc k x h1 h2 => intro k' a p h; simp [strP, h1, h2] at h
  | case5 y r acc k => intro k' a p h; rw [strP_mark] at h; injection h with _ h; injection h with h1 h2; subst h1 h2; rw [show k + 1 - k = 1 by omega]; simp [strP_mark]
  | case6 y r acc k h1 h2 ih =>
    intro k' a p h
    obtain ⟨d, hd⟩ := Option.isSome_iff_exists.1 h1
    rw [strP_esc hd] at h
    rw [hd] at ih
    simp only [Option.getD_some] at ih
    have hp := strP_place r (acc ++ [d]) (k + 2) (by rw [h])
    rw [h] at hp
    simp only at hp
    rw [show p + 1 - k = (p + 1 - (k + 2)) + 1 + 1 by omega, List.take_succ_cons, List.take_succ_cons, List.cons_append, List.cons_append, strP_esc hd, ih (k' + 2) a p h]
    congr 2
    omega
  | case7 y r acc k h1 h2 => intro k' a p h; simp [strP, h1] at h
  | case8 x y r acc k h1 h2 ih =>
    intro k' a p h
    rw [strP_on h1 h2] at h
    have hp := strP_place (y :: r) (acc ++ [x]) (k + 1) (by rw [h])
    rw [h] at hp
    simp only at hp
    rw [show p + 1 - k = (p + 1 - (k + 1)) + 1 by omega, List.take_succ_cons, List.cons_append, strP_on h1 h2, ih (k' + 1) a p h]
    congr 2
    omega

theorem skipR_local (s : List UInt8) : ∀ (l : List UInt8) (note : Bool) (k k' : Nat) (ln cl ln' cl' : Int) (m : Nat), (skipR l note k ln cl).1 = k + m → m < l.length → (skipR (l.take (m + 1) ++ s) note k' ln' cl').1 = k' + m := by
  intro l
  induction l with
  | nil => intro note k k' ln cl ln' cl' m h hm; simp at hm
  | cons x r ih =>
    intro note k k' ln cl ln' cl' m h hm
    rw [List.take_succ_cons, List.cons_append]
    rw [skipR] at h ⊢
    by_cases hc : (note || x == 59) = false ∧ blankB x = false
    · rw [if_pos hc] at h ⊢
      simp only at h ⊢
      omega
    · rw [if_neg hc] at h ⊢
      obtain ⟨m', h1, h2, h3⟩ := skipR_spec r ((note || x == 59) && !(x == 10)) (k + 1) (lineOf x ln) (colOf x cl)
      have h4 := h
      rw [h2] at h4
      simp only at h4
      obtain ⟨q, rfl⟩ : ∃ q, m = q + 1 := ⟨m - 1, by omega⟩
      rw [ih _ (k + 1) (k' + 1) (lineOf x ln) (colOf x cl) (lineOf x ln') (colOf x cl') q (by omega) (by simpa using hm)]
      omega
theorem skipR_all : ∀ (l : List UInt8) (note : Bool) (k k' : Nat) (ln cl ln' cl' : Int), (skipR l note k ln cl).1 = k + l.length → (skipR l note k' ln' cl').1 = k' + l.length := by
  intro l
  induction l with
  | nil => intro note k k' ln cl ln' cl' h; rfl
  | cons x r ih =>
    intro note k k' ln cl ln' cl' h
    rw [skipR] at h ⊢
    by_cases hc : (note || x == 59) = false ∧ blankB x = false
    · rw [if_pos hc] at h
      simp at h
    · rw [if_neg hc] at h ⊢
      rw [ih _ (k + 1) (k' + 1) (lineOf x ln) (colOf x cl) (lineOf x ln') (colOf x cl') (by simp only [List.length_cons] at h; omega)]
      simp only [List.length_cons]
      omega

def blankL (n : Nat) : List UInt8 := if n = 0 then [32] else if n = 1 then [10] else if n = 2 then [9, 32, 13] else [59, 32, 97, 32, 114, 101, 109, 97, 114, 107, 32, 40, 10]

theorem skipR_over (n : Nat) (s : List UInt8) (k : Nat) (ln cl : Int) : ∃ ln' cl', skipR (blankL n ++ s) false k ln cl = skipR s false (k + (blankL n).length) ln' cl' := by
  unfold blankL
  split
  · exact ⟨_, _, rfl⟩
  · split
    · exact ⟨_, _, rfl⟩
    · split
      · exact ⟨_, _, rfl⟩
      · exact ⟨_, _, rfl⟩

theorem blankL_head (n : Nat) : ∃ z r, blankL n = z :: r ∧ endB z = true ∧ z ≠ 64 ∧ z ≠ 40 := by
  unfold blankL
  split
  · exact ⟨_, _, rfl, rfl, by decide, by decide⟩
  · split
    · exact ⟨_, _, rfl, rfl, by decide, by decide⟩
    · split
      · exact ⟨_, _, rfl, rfl, by decide, by decide⟩
      · exact ⟨_, _, rfl, rfl, by decide, by decide⟩

theorem drop_parts {T : ByteArray} {j : Nat} {L : List UInt8} (h : T.data.toList.drop j = L) (k : Nat) : T.data.toList.drop (j + k) = L.drop k := by
  rw [← h, List.drop_drop]

/-- One of the four names is at the head: it is the one. -/
theorem names_at {T : ByteArray} {i : Nat} {r : List UInt8} (h : (namesP T i r names4).1 = 0) : ∃ x s, x ∈ names4 ∧ r = x.1 ++ s ∧ namesP T i r names4 = (0, 11, x.2, i + 2 + x.1.length) ∧ endAt T (i + 2 + x.1.length) = true := by
  have key : ∀ ns, (namesP T i r ns).1 = 0 → ∃ x s, x ∈ ns ∧ r = x.1 ++ s ∧ namesP T i r ns = (0, 11, x.2, i + 2 + x.1.length) ∧ endAt T (i + 2 + x.1.length) = true := by
    intro ns
    induction ns with
    | nil => intro h; simp [namesP] at h
    | cons x q ih =>
      intro h
      rw [namesP] at h ⊢
      by_cases hf : nameFits T i r x = true
      · rw [if_pos hf]
        rw [nameFits, Bool.and_eq_true] at hf
        have h2 : x.1.isPrefixOf r = true := hf.1
        obtain ⟨s, hs⟩ := List.isPrefixOf_iff_prefix.1 h2
        exact ⟨x, s, by simp, hs.symm, rfl, hf.2⟩
      · rw [if_neg hf] at h ⊢
        obtain ⟨y, s, h1, h2⟩ := ih h
        exact ⟨y, s, by simp [h1], h2⟩
  exact key names4 h

theorem names_same {T : ByteArray} {i : Nat} {x : List UInt8 × Int} (hx : x ∈ names4) (s : List UInt8) (he : endAt T (i + 2 + x.1.length) = true) : namesP T i (x.1 ++ s) names4 = (0, 11, x.2, i + 2 + x.1.length) := by
  simp only [names4, List.mem_cons, List.not_mem_nil, or_false] at hx
  rcases hx with rfl | rfl | rfl | rfl <;> simp_all [names4, namesP, nameFits, Lib.hasPrefix]

theorem sharpL_local {T T' : ByteArray} {i i' : Nat} {z : UInt8} {s : List UInt8} {M : List UInt8} {R : Int × Int × Int × Nat} (hM : T.data.toList.drop (i + 1) = M) (h : sharpL T i M = R) (h0 : R.1 = 0) (hz : endB z = true)
    (hM' : T'.data.toList.drop (i' + 1) = M.take (R.2.2.2 - (i + 1)) ++ z :: s) : sharpL T' i' (M.take (R.2.2.2 - (i + 1)) ++ z :: s) = (0, R.2.1, R.2.2.1, i' + (R.2.2.2 - i)) ∧ 2 ≤ R.2.2.2 - i ∧ M.headD 0 ≠ 40 := by
  match M, hM, h, hM' with
  | [], _, h, _ => subst h; simp [sharpL] at h0
  | x :: r, hM, h, hM' =>
    rw [sharpL] at h
    by_cases h1 : x = 116 ∨ x = 102
    · rw [if_pos h1] at h
      by_cases h2 : endAt T (i + 2) = true
      · rw [if_pos h2] at h
        subst h
        simp only at hM' ⊢
        rw [show i + 2 - (i + 1) = 1 by omega, show i + 2 - i = 2 by omega] at *
        have h3 : endAt T' (i' + 2) = true := by
          rw [endAt_drop, show i' + 2 = i' + 1 + 1 by omega, ← List.drop_drop, hM']
          simpa [endH] using hz
        refine ⟨?_, by omega, by rcases h1 with rfl | rfl <;> simp⟩
        simp only [List.take_succ_cons, List.take_zero, List.cons_append, List.nil_append]
        rw [sharpL, if_pos h1, if_pos h3]
      · rw [if_neg h2] at h; subst h; simp at h0
    · rw [if_neg h1] at h
      by_cases h3 : x = 92
      · rw [if_pos h3] at h
        subst h3
        by_cases h4 : 32 < (r.headD 0).toNat ∧ endAt T (i + 3) = true
        · rw [if_pos h4] at h
          subst h
          simp only at hM' ⊢
          match r, h4, hM, hM' with
          | [], h4, _, _ => simp at h4
          | y :: q, h4, hM, hM' =>
            rw [show i + 3 - (i + 1) = 2 by omega, show i + 3 - i = 3 by omega] at *
            have h5 : endAt T' (i' + 3) = true := by
              rw [endAt_drop, show i' + 3 = i' + 1 + 2 by omega, ← List.drop_drop, hM']
              simpa [endH] using hz
            refine ⟨?_, by omega, by simp⟩
            simp only [List.take_succ_cons, List.take_zero, List.cons_append, List.nil_append]
            rw [sharpL, if_neg (by decide), if_pos rfl, if_pos ⟨h4.1, h5⟩]
            rfl
        · rw [if_neg h4] at h
          obtain ⟨nm, q, n1, n2, n3, n4⟩ := names_at (by rw [h]; exact h0)
          rw [n3] at h
          subst h
          simp only at hM' ⊢
          have hlen : 3 ≤ nm.1.length ∧ 32 < (nm.1.headD 0).toNat ∧ endB (nm.1.getD 1 0) = false := by
            simp only [names4, List.mem_cons, List.not_mem_nil, or_false] at n1
            rcases n1 with rfl | rfl | rfl | rfl <;> decide
          obtain ⟨hlen, hy, hz1⟩ := hlen
          have et : (92 :: r).take (i + 2 + nm.1.length - (i + 1)) = 92 :: nm.1 := by
            rw [show i + 2 + nm.1.length - (i + 1) = nm.1.length + 1 by omega, List.take_succ_cons, n2, List.take_left]
          rw [et] at hM' ⊢
          have h5 : endAt T' (i' + 2 + nm.1.length) = true := by
            rw [endAt_drop, show i' + 2 + nm.1.length = i' + 1 + (nm.1.length + 1) by omega, ← List.drop_drop, hM', List.cons_append, List.drop_succ_cons, List.drop_left]
            exact hz
          have h6 : endAt T' (i' + 3) = false := by
            rw [endAt_drop, show i' + 3 = i' + 1 + 2 by omega, ← List.drop_drop, hM']
            match nm.1, hlen, hz1 with
            | a :: b :: c, _, hz1 => simpa [endH] using hz1
          refine ⟨?_, by omega, by simp⟩
          rw [List.cons_append, sharpL, if_neg (by decide), if_pos rfl, if_neg (by rw [h6]; simp), names_same n1 _ h5]
          simp only [Prod.mk.injEq, true_and]
          omega
      · rw [if_neg h3] at h; subst h; simp at h0

theorem tokX_local {T T' : ByteArray} {j j' : Nat} {x : UInt8} {l c l' c' : Int} {t : TokR} {z : UInt8} {s : List UInt8} (hj : j < T.size) (hx : ∀ h, T[j]'h = x) (hb : blankB x = false) (h59 : x ≠ 59) (h : tokX T j x l c = (0, t)) (hz : endB z = true) (hz1 : z ≠ 64) (hz2 : z ≠ 40)
    (hM' : T'.data.toList.drop j' = (T.data.toList.drop j).take (t.nx - j) ++ z :: s) : tokX T' j' x l' c' = (0, ⟨t.k, t.n, t.x, l', c', j' + (t.nx - j)⟩) := by
  have hp := tokX_place T j x l c hj hx hb h59 (by rw [h])
  rw [h] at hp
  simp only at hp
  have hd := drop_cons hj
  rw [hx] at hd
  obtain ⟨M, hM⟩ : ∃ M, T.data.toList.drop (j + 1) = M := ⟨_, rfl⟩
  rw [hM] at hd
  rw [hd] at hM'
  obtain ⟨d, hdd⟩ : ∃ d, t.nx - j = d + 1 := ⟨t.nx - j - 1, by omega⟩
  rw [hdd, List.take_succ_cons] at hM'
  have hN : T'.data.toList.drop (j' + 1) = M.take d ++ z :: s := by rw [← List.drop_drop, hM']; rfl
  have t1 : twoP T (j + 1) = M.headD 0 := by rw [twoP_drop, hM]
  have t2 : twoP T' (j' + 1) = (M.take d ++ z :: s).headD 0 := by rw [twoP_drop, hN]
  rw [tokX, t1] at h
  rw [tokX, t2]
  by_cases h1 : 0 < (oneP x (M.headD 0)).2
  · rw [if_pos h1] at h
    injection h with _ h
    subst h
    simp only at hdd hp
    have ho : (oneP x (M.headD 0)).2 = 1 ∨ (oneP x (M.headD 0)).2 = 2 ∨ (oneP x (M.headD 0)).2 = 0 := by unfold oneP; (repeat' split) <;> simp
    have he : oneP x ((M.take d ++ z :: s).headD 0) = oneP x (M.headD 0) := by
      rcases ho with ho | ho | ho
      · have : d = 0 := by omega
        subst this
        simp only [List.take_zero, List.nil_append, List.headD_cons]
        revert ho
        unfold oneP
        (repeat' split) <;> simp_all
      · have : d = 1 := by omega
        subst this
        match M, ho with
        | [], ho => exfalso; revert ho; unfold oneP; (repeat' split) <;> simp_all
        | y :: q, _ => rfl
      · omega
    rw [he, if_pos h1]
    rw [hdd]
    simp only [Prod.mk.injEq, TokR.mk.injEq, true_and]
    omega
  · rw [if_neg h1] at h
    by_cases h2 : x = 35
    · rw [if_pos h2] at h
      injection h with h3 h
      rw [hM] at h3 h
      have e1 : t.nx = (sharpL T j M).2.2.2 := by rw [← h]
      obtain ⟨e2, e3, e4⟩ := sharpL_local (T' := T') (i' := j') (z := z) (s := s) hM rfl h3 hz (by rw [← e1, show t.nx - (j + 1) = d by omega]; exact hN)
      rw [← e1] at e2 e3
      have hM0 : ∃ y q, M = y :: q := by
        match M, h3 with
        | [], h3 => simp [sharpL] at h3
        | y :: q, _ => exact ⟨y, q, rfl⟩
      obtain ⟨y, q, rfl⟩ := hM0
      obtain ⟨d', rfl⟩ : ∃ d', d = d' + 1 := ⟨d - 1, by omega⟩
      simp only [List.headD_cons] at e4
      rw [show (List.take (d' + 1) (y :: q) ++ z :: s).headD 0 = y from rfl]
      have hneg : ¬ 0 < (oneP x y).2 := by rw [h2]; simp [oneP, e4]
      rw [if_neg hneg, if_pos h2]
      rw [show t.nx - (j + 1) = d' + 1 by omega, List.take_succ_cons, List.cons_append] at e2
      rw [hN, List.take_succ_cons, List.cons_append, e2, ← h]
    · rw [if_neg h2] at h
      have ho : ∀ u, ¬ 0 < (oneP x u).2 := by
        intro u
        revert h1
        unfold oneP
        (repeat' split) <;> simp_all
      rw [if_neg (ho _), if_neg h2]
      by_cases h3 : x = 34
      · rw [if_pos h3] at h ⊢
        injection h with h4 h
        rw [hM] at h4 h
        obtain ⟨⟨e, a, p⟩, hR⟩ : ∃ R, strP M [] (j + 1) = R := ⟨_, rfl⟩
        rw [hR] at h4 h
        have he : e = 0 := by
          simp only [strE] at h4
          by_cases h5 : e = 0
          · exact h5
          · rw [if_neg h5] at h4; exact h4
        subst he
        subst h
        simp only at hdd hp
        have hpl := strP_place M [] (j + 1) (by rw [hR])
        rw [hR] at hpl
        simp only at hpl
        have := strP_local (z :: s) M [] (j + 1) (j' + 1) a p hR
        rw [show p + 1 - (j + 1) = d by omega] at this
        rw [hN, this]
        simp only [strE] at h4 ⊢
        rw [h4, hdd]
        simp only [Prod.mk.injEq, TokR.mk.injEq, true_and]
        omega
      · rw [if_neg h3] at h ⊢
        injection h with h4 h
        have hw : wordAt T' j' = wordAt T j := by
          have e1 : t.nx - j = (wordAt T j).length := by rw [← h]; simp
          have e2 : (x :: M).take (d + 1) = wordAt T j := by
            have : wordAt T j = (x :: M).takeWhile (fun c => !endB c) := by rw [wordAt, hd]
            rw [← hdd, e1, this]
            have h7 := List.takeWhile_prefix (fun c => !endB c) (l := x :: M)
            exact (List.prefix_iff_eq_take.1 h7).symm
          rw [wordAt, hM', ← List.take_succ_cons, e2]
          have h8 : ∀ a ∈ wordAt T j, (fun c => !endB c) a = true := by
            exact List.all_eq_true.1 List.all_takeWhile
          have h9 : ∀ (q : List UInt8), (∀ a ∈ q, (fun c => !endB c) a = true) → (q ++ z :: s).takeWhile (fun c => !endB c) = q := by
            intro q
            induction q with
            | nil => intro _; rw [List.nil_append, List.takeWhile_cons, if_neg (by simp [hz])]
            | cons y q ih => intro hq; rw [List.cons_append, List.takeWhile_cons, if_pos (hq y (by simp)), ih (fun a ha => hq a (by simp [ha]))]
          exact h9 _ h8
        rw [hw, h4, ← h]
        simp

/-- The text with blanks put ahead of each token and at the end. -/
def outL (T : ByteArray) (B : Nat → Nat) : Nat → Nat → List TokR → List UInt8
  | _, p, [] => blankL (B 0) ++ T.data.toList.drop p
  | i, p, t :: r => blankL (B i) ++ (T.data.toList.drop p).take (t.nx - p) ++ outL T B (i + 1) t.nx r

theorem outL_head (T : ByteArray) (B : Nat → Nat) (i p : Nat) (l : List TokR) : ∃ z s, outL T B i p l = z :: s ∧ endB z = true ∧ z ≠ 64 ∧ z ≠ 40 := by
  cases l with
  | nil => obtain ⟨z, r, h, h1⟩ := blankL_head (B 0); exact ⟨z, r ++ T.data.toList.drop p, by rw [outL, h]; rfl, h1⟩
  | cons t r => obtain ⟨z, q, h, h1⟩ := blankL_head (B i); exact ⟨z, q ++ (T.data.toList.drop p).take (t.nx - p) ++ outL T B (i + 1) t.nx r, by rw [outL, h]; rfl, h1⟩

theorem tokX_kind {T : ByteArray} {j : Nat} {x : UInt8} {l c : Int} (h0 : (tokX T j x l c).1 = 0) : (tokX T j x l c).2.k ≠ 14 := by
  rw [tokX] at h0 ⊢
  by_cases h1 : 0 < (oneP x (twoP T (j + 1))).2
  · rw [if_pos h1]
    unfold oneP
    (repeat' split) <;> simp
  · rw [if_neg h1] at h0 ⊢
    by_cases h2 : x = 35
    · rw [if_pos h2] at h0 ⊢
      simp only at h0 ⊢
      revert h0
      generalize T.data.toList.drop (j + 1) = L
      intro h0
      match L, h0 with
      | [], h0 => simp [sharpL] at h0
      | y :: r, h0 =>
        rw [sharpL] at h0 ⊢
        by_cases h3 : y = 116 ∨ y = 102
        · rw [if_pos h3] at h0 ⊢
          by_cases h4 : endAt T (j + 2) = true
          · rw [if_pos h4]; simp
          · rw [if_neg h4] at h0; simp at h0
        · rw [if_neg h3] at h0 ⊢
          by_cases h5 : y = 92
          · rw [if_pos h5] at h0 ⊢
            by_cases h6 : 32 < (r.headD 0).toNat ∧ endAt T (j + 3) = true
            · rw [if_pos h6]; simp
            · rw [if_neg h6] at h0 ⊢
              obtain ⟨nm, q, _, _, h7, _⟩ := names_at h0
              rw [h7]; simp
          · rw [if_neg h5] at h0; simp at h0
    · rw [if_neg h2] at h0 ⊢
      by_cases h3 : x = 34
      · rw [if_pos h3]; simp
      · rw [if_neg h3]
        simp only
        unfold wordK
        split
        · simp
        · split <;> simp

theorem tokP_same {T T' : ByteArray} {i i' : Nat} {ln cl ln' cl' : Int} {t : TokR} {s : List UInt8} {z : UInt8} {n : Nat} (hi : i ≤ T.size) (h : tokP T i ln cl = (0, t)) (hk : t.k ≠ 14) (hz : endB z = true) (hz1 : z ≠ 64) (hz2 : z ≠ 40)
    (hT : T'.data.toList.drop i' = blankL n ++ (T.data.toList.drop i).take (t.nx - i) ++ z :: s) : ∃ t', tokP T' i' ln' cl' = (0, t') ∧ t'.k = t.k ∧ t'.n = t.n ∧ t'.x = t.x ∧ t'.nx = i' + (blankL n).length + (t.nx - i) := by
  have hl : T.data.toList.length = T.size := by simp
  have hl' : T'.data.toList.length = T'.size := by simp
  obtain ⟨j, l, c, hs⟩ := skip_spec T i ln cl hi
  rw [hs.tok] at h
  have hj : j < T.size := by
    by_cases hh : j < T.size
    · exact hh
    · rw [tokB_end hh] at h
      injection h with _ h
      exact absurd (by rw [← h]) hk
  rw [tokB, dif_pos hj] at h
  obtain ⟨x, hx⟩ : ∃ x, T[j]'hj = x := ⟨_, rfl⟩
  have hst := hs.stop hj
  rw [hx] at h hst
  have hp := tokX_place T j x l c hj (fun _ => hx) hst.1 hst.2 (by rw [h])
  rw [h] at hp
  simp only at hp
  have hge := hs.ge
  -- the skip
  obtain ⟨ln1, cl1, e1⟩ := skipR_over n ((T.data.toList.drop i).take (t.nx - i) ++ z :: s) i' ln' cl'
  have e2 : (T.data.toList.drop i).take (t.nx - i) ++ z :: s = (T.data.toList.drop i).take (j - i + 1) ++ ((T.data.toList.drop (j + 1)).take (t.nx - (j + 1)) ++ z :: s) := by
    rw [← List.append_assoc]
    congr 1
    rw [show t.nx - i = (j - i + 1) + (t.nx - (j + 1)) by omega, List.take_add, List.drop_drop, show i + (j - i + 1) = j + 1 by omega]
  have e3 := skipR_local ((T.data.toList.drop (j + 1)).take (t.nx - (j + 1)) ++ z :: s) (T.data.toList.drop i) false i (i' + (blankL n).length) ln cl ln1 cl1 (j - i) (by rw [hs.eq]; simp only; omega) (by rw [List.length_drop]; omega)
  rw [← e2, ← e1, ← List.append_assoc, ← hT] at e3
  obtain ⟨l1, c1, e4⟩ : ∃ l1 c1, skipR (T'.data.toList.drop i') false i' ln' cl' = (i' + (blankL n).length + (j - i), l1, c1) := ⟨_, _, Prod.ext e3 rfl⟩
  rw [tokP, e4]
  simp only
  -- the byte
  have e5 : T'.data.toList.drop (i' + (blankL n).length + (j - i)) = (T.data.toList.drop j).take (t.nx - j) ++ z :: s := by
    rw [show i' + (blankL n).length + (j - i) = i' + ((blankL n).length + (j - i)) by omega, ← List.drop_drop, hT, List.append_assoc, ← List.drop_drop, List.drop_left,
      show t.nx - i = (j - i) + (t.nx - j) by omega, List.take_add, List.append_assoc, List.drop_drop, show i + (j - i) = j by omega]
    have : ((T.data.toList.drop i).take (j - i)).length = j - i := by rw [List.length_take, List.length_drop, hl]; omega
    rw [List.drop_append_of_le_length (by omega), List.drop_of_length_le (by omega), List.nil_append]
  have e6 : T'.data.toList.drop (i' + (blankL n).length + (j - i)) = x :: ((T.data.toList.drop (j + 1)).take (t.nx - j - 1) ++ z :: s) := by
    rw [e5, drop_cons hj, hx, show t.nx - j = (t.nx - j - 1) + 1 by omega, List.take_succ_cons, List.cons_append, show t.nx - j - 1 + 1 - 1 = t.nx - j - 1 by omega]
  have hj' : i' + (blankL n).length + (j - i) < T'.size := by
    by_cases hh : i' + (blankL n).length + (j - i) < T'.size
    · exact hh
    · rw [List.drop_eq_nil_of_le (by omega)] at e6; cases e6
  have hx' : T'[i' + (blankL n).length + (j - i)]'hj' = x := by
    rw [drop_cons hj'] at e6
    injection e6
  rw [tokB, dif_pos hj', hx', tokX_local hj (fun _ => hx) hst.1 hst.2 h hz hz1 hz2 e5]
  refine ⟨_, rfl, rfl, rfl, rfl, ?_⟩
  simp only
  omega

/-- Blanks change nothing but places. -/
theorem allP_same (T T' : ByteArray) (B : Nat → Nat) : ∀ (f i : Nat) (ln cl : Int) (l : List TokR), i ≤ T.size → allP T f i ln cl = ((0, 0, 0), l) → T.size < f + i → ∀ (q f' i' : Nat) (ln' cl' : Int), i' ≤ T'.size → T'.data.toList.drop i' = outL T B q i l → T'.size < f' + i' →
    ∃ l', allP T' f' i' ln' cl' = ((0, 0, 0), l') ∧ l'.map (fun t => (t.k, t.n, t.x)) = l.map (fun t => (t.k, t.n, t.x)) := by
  have hl : T.data.toList.length = T.size := by simp
  have hl' : T'.data.toList.length = T'.size := by simp
  intro f
  induction f with
  | zero => intro i ln cl l hi h hf; omega
  | succ f ih =>
    intro i ln cl l hi h hf q f' i' ln' cl' hi' hT hf'
    obtain ⟨f', rfl⟩ : ∃ g, f' = g + 1 := ⟨f' - 1, by omega⟩
    rw [allP] at h
    obtain ⟨⟨e, t⟩, ht⟩ : ∃ t, tokP T i ln cl = t := ⟨_, rfl⟩
    rw [ht] at h
    simp only at h
    by_cases he : e ≠ 0
    · rw [if_pos he] at h
      injection h with h
      injection h with h
      exact absurd h he
    · rw [if_neg he] at h
      have he0 : e = 0 := by simpa using he
      subst he0
      by_cases hk : t.k = 14
      · rw [if_pos hk] at h
        injection h with _ h
        subst h
        rw [outL] at hT
        -- the end
        obtain ⟨j, l, c, hs⟩ := skip_spec T i ln cl hi
        rw [hs.tok] at ht
        have hj : j = T.size := by
          by_cases hh : j < T.size
          · rw [tokB, dif_pos hh] at ht
            have := tokX_kind (T := T) (j := j) (x := T[j]'hh) (l := l) (c := c) (by rw [ht])
            rw [ht] at this
            exact absurd hk this
          · have := hs.le; omega
        obtain ⟨ln1, cl1, e1⟩ := skipR_over (B 0) (T.data.toList.drop i) i' ln' cl'
        have e2 := skipR_all (T.data.toList.drop i) false i (i' + (blankL (B 0)).length) ln cl ln1 cl1 (by rw [hs.eq, List.length_drop, hl]; simp only; omega)
        rw [← e1, ← hT] at e2
        have e3 : (T'.data.toList.drop i').length = (blankL (B 0)).length + (T.data.toList.drop i).length := by rw [hT, List.length_append]
        rw [List.length_drop, hl'] at e3
        have e4 : ¬ (skipR (T'.data.toList.drop i') false i' ln' cl').1 < T'.size := by rw [e2]; omega
        refine ⟨[], ?_, rfl⟩
        rw [allP, tokP, tokB_end e4, if_neg (by simp), if_pos rfl]
      · rw [if_neg hk] at h
        obtain ⟨⟨er, lr⟩, hr⟩ : ∃ r, allP T f t.nx (whereL ((T.data.toList.drop i).take (t.nx - i)) ln cl).1 (whereL ((T.data.toList.drop i).take (t.nx - i)) ln cl).2 = r := ⟨_, rfl⟩
        rw [hr] at h
        injection h with h1 h2
        simp only at h1 h2
        subst h1 h2
        rw [outL] at hT
        obtain ⟨z, s, hz, hz0, hz1, hz2⟩ := outL_head T B (q + 1) t.nx lr
        rw [hz] at hT
        obtain ⟨t', g1, g2, g3, g4, g5⟩ := tokP_same (ln' := ln') (cl' := cl') hi ht hk hz0 hz1 hz2 hT
        have hp := tokP_place hi (by rw [ht])
        rw [ht] at hp
        simp only at hp
        have hp2 := hp.2.2 hk
        have hlen : ((T.data.toList.drop i).take (t.nx - i)).length = t.nx - i := by rw [List.length_take, List.length_drop, hl]; omega
        have hT2 : T'.data.toList.drop t'.nx = outL T B (q + 1) t.nx lr := by
          rw [g5, show i' + (blankL (B q)).length + (t.nx - i) = i' + ((blankL (B q)).length + (t.nx - i)) by omega, ← List.drop_drop, hT, hz]
          rw [List.drop_append_of_le_length (by rw [List.length_append, hlen]; omega), List.drop_of_length_le (by rw [List.length_append, hlen]; omega), List.nil_append]
        have hsz : t'.nx ≤ T'.size := by
          have e3 : (T'.data.toList.drop i').length = (blankL (B q)).length + (t.nx - i) + (z :: s).length := by rw [hT, List.length_append, List.length_append, hlen]
          rw [List.length_drop, hl'] at e3
          have := Nat.zero_le (z :: s).length
          omega
        obtain ⟨l', k1, k2⟩ := ih t.nx _ _ lr hp.2.1 hr (by omega) (q + 1) f' t'.nx (whereL ((T'.data.toList.drop i').take (t'.nx - i')) ln' cl').1 (whereL ((T'.data.toList.drop i').take (t'.nx - i')) ln' cl').2 hsz hT2 (by omega)
        refine ⟨t' :: l', ?_, by rw [List.map_cons, List.map_cons, k2, g2, g3, g4]⟩
        rw [allP, g1, if_neg (by simp), if_neg (by rw [g2]; exact hk), k1]
end Go.Proofs.YthighbbikpnpgaaDoor

/-! FI -/
namespace Go.Proofs.YthighbbikpnpgaaDoor
open Go.RowKit

theorem i_dig_ofNat {d : Nat} (h : d < 10) : digB (UInt8.ofNat (48 + d)) = true ∧ digV (UInt8.ofNat (48 + d)) = d := by
  have e : (UInt8.ofNat (48 + d)).toNat = 48 + d := by rw [UInt8.toNat_ofNat']; omega
  rw [digB_iff, digV, e]
  omega

theorem i_dec_facts : ∀ (u : Nat), (Lib.decDigits u).all digB = true ∧ valL (Lib.decDigits u) = u ∧ 1 ≤ (Lib.decDigits u).length := by
  intro u
  induction u using Nat.strongRecOn with
  | _ u ih =>
    by_cases h : u < 10
    · rw [dec_small h]
      obtain ⟨h1, h2⟩ := i_dig_ofNat h
      generalize UInt8.ofNat (48 + u) = c at h1 h2
      refine ⟨by simp [h1], ?_, by simp⟩
      simp [valL, h2]
    · rw [dec_big h]
      obtain ⟨i1, i2, i3⟩ := ih (u / 10) (by omega)
      obtain ⟨h1, h2⟩ := i_dig_ofNat (d := u % 10) (by omega)
      generalize UInt8.ofNat (48 + u % 10) = c at h1 h2
      refine ⟨?_, ?_, by simp⟩
      · rw [List.all_append, i1]; simp [h1]
      · rw [valL_snoc, i2, h2]; omega

theorem i_dec_head (u : Nat) : bodyL (Lib.decDigits u) = Lib.decDigits u ∧ negL (Lib.decDigits u) = false := by
  obtain ⟨h1, _, h3⟩ := i_dec_facts u
  generalize Lib.decDigits u = l at h1 h3
  rcases l with _ | ⟨c, r⟩
  · simp at h3
  · rw [List.all_cons, Bool.and_eq_true, digB_iff] at h1
    obtain ⟨⟨a, b⟩, _⟩ := h1
    have h45 : c ≠ 45 := fun e => by subst e; exact absurd a (by decide)
    have h43 : c ≠ 43 := fun e => by subst e; exact absurd a (by decide)
    simp [bodyL, negL, h45, h43]

theorem i_dec_len (u : Nat) (h : u < 18446744073709551616) : (Lib.decDigits u).length ≤ 20 := by
  rw [Lib.decDigits_length]
  exact Lib.nDigits_le20 u h

/-- A number's text is read as the number. -/
theorem i_parse_itoa (n : Int) (h0 : -9223372036854775808 ≤ n) (h1 : n ≤ 9223372036854775807) : parseL (Lib.itoa n) = fitL n := by
  unfold parseL Lib.itoa
  by_cases hn : n < 0
  · obtain ⟨d1, d2, d3⟩ := i_dec_facts n.natAbs
    have hl := i_dec_len n.natAbs (by omega)
    rw [if_pos hn, show bodyL (45 :: Lib.decDigits n.natAbs) = Lib.decDigits n.natAbs from rfl, show negL (45 :: Lib.decDigits n.natAbs) = true from rfl]
    have hok : okL (Lib.decDigits n.natAbs) = true := by simp [okL, d1, d3]; omega
    rw [if_pos hok, if_pos rfl, d2]
    congr 1
    omega
  · obtain ⟨d1, d2, d3⟩ := i_dec_facts n.toNat
    obtain ⟨e1, e2⟩ := i_dec_head n.toNat
    have hl := i_dec_len n.toNat (by omega)
    rw [if_neg hn, e1, e2]
    have hok : okL (Lib.decDigits n.toNat) = true := by simp [okL, d1, d3]; omega
    rw [if_pos hok, if_neg (by decide), d2]
    congr 1
    omega

theorem i_itoa_nat (u : Nat) : Lib.itoa (u : Int) = Lib.decDigits u := by
  unfold Lib.itoa
  rw [if_neg (by omega), Int.toNat_natCast]
theorem i_itoa_inj {a b : Nat} (h : Lib.itoa (a : Int) = Lib.itoa (b : Int)) : a = b := by
  rw [i_itoa_nat, i_itoa_nat] at h
  have h1 := (i_dec_facts a).2.1
  have h2 := (i_dec_facts b).2.1
  rw [h] at h1
  omega
theorem i_itoa_digits (u : Nat) : ∀ c ∈ Lib.itoa (u : Int), digB c = true := by
  rw [i_itoa_nat]
  intro c hc
  exact List.all_eq_true.1 (i_dec_facts u).1 c hc
end Go.Proofs.YthighbbikpnpgaaDoor
