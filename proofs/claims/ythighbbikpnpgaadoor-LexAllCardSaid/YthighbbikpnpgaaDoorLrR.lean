/-
  The law of places.
-/
import Derived.Test.YthighbbikpnpgaaDoorLrE
import Derived.Test.YthighbbikpnpgaaDoorLrW
import Derived.ProofKit
import Derived.OpenShut
namespace Go.Proofs.YthighbbikpnpgaaDoor
open Go.RowKit Go.Proofs.YthighbbikpnpgaaDoorW.PrintWords Go.ChangeShapes Go.WideShapes Go.ChangeAt

theorem whereL_rise : ∀ (a : List UInt8) (l c : Int), l < (whereL a l c).1 ∨ ((whereL a l c).1 = l ∧ (whereL a l c).2 = c + a.length) := by
  intro a
  induction a with
  | nil => intro l c; right; simp [whereL]
  | cons x r ih =>
    intro l c
    rw [whereL]
    by_cases h : x = 10
    · rw [lineOf, if_pos h]
      have := whereL_line r (l + 1) (colOf x c)
      left; omega
    · rw [lineOf, if_neg h, colOf, if_neg h]
      rcases ih l (c + 1) with h1 | ⟨h1, h2⟩
      · exact .inl h1
      · right
        refine ⟨h1, ?_⟩
        rw [h2, List.length_cons]
        omega
theorem whereL_one : ∀ (a : List UInt8) (l c : Int), 1 ≤ c → 1 ≤ (whereL a l c).2 := by
  intro a
  induction a with
  | nil => intro l c h; exact h
  | cons x r ih =>
    intro l c h
    rw [whereL]
    refine ih _ _ ?_
    unfold colOf
    split <;> omega
theorem tokB_at (T : ByteArray) (j : Nat) (l c : Int) : (tokB T j l c).2.ln = l ∧ (tokB T j l c).2.cl = c := by
  unfold tokB
  split
  · unfold tokX
    (repeat' split) <;> exact ⟨rfl, rfl⟩
  · exact ⟨rfl, rfl⟩

structure Rise (T : ByteArray) (i : Nat) (ln cl : Int) (t : TokR) (q : Int × Int) : Prop where
  tok : tokP T i ln cl = (0, t)
  gt : i < t.nx
  le : t.nx ≤ T.size
  pos : whereL ((T.data.toList.drop i).take (t.nx - i)) ln cl = q
  line : ¬ q.1 < t.ln
  col : ¬ (t.ln = q.1 ∧ q.2 ≤ t.cl)

theorem all_next {T : ByteArray} {f i : Nat} {ln cl : Int} {t : TokR} {rest : List TokR} (h : allP T f i ln cl = ((0, 0, 0), t :: rest)) (hi : i ≤ T.size) : ∃ f' q, f = f' + 1 ∧ Rise T i ln cl t q ∧ allP T f' t.nx q.1 q.2 = ((0, 0, 0), rest) := by
  match f, h with
  | 0, h => simp [allP] at h
  | f + 1, h =>
    rw [allP] at h
    obtain ⟨⟨er, u⟩, hu⟩ : ∃ u, tokP T i ln cl = u := ⟨_, rfl⟩
    rw [hu] at h
    simp only at h
    by_cases he : er ≠ 0
    · rw [if_pos he] at h; simp at h
    · rw [if_neg he] at h
      have he0 : er = 0 := by simpa using he
      subst he0
      by_cases hk : u.k = 14
      · rw [if_pos hk] at h; simp at h
      · rw [if_neg hk] at h
        injection h with h1 h2
        injection h2 with h2 h3
        subst h2
        have hp := tokP_place hi (by rw [hu])
        rw [hu] at hp
        obtain ⟨j, l, c, hs⟩ := skip_spec T i ln cl hi
        have hB := hs.tok.symm.trans hu
        have hat := tokB_at T j l c
        rw [hB] at hat
        have hj : j < u.nx := by
          have := tokB_place hs.le hs.stop (by rw [hB])
          rw [hB] at this
          exact this.2.2 hk
        have haf := hs.after (Nat.le_of_lt hj)
        refine ⟨f, _, rfl, ⟨hu, hp.2.2 hk, hp.2.1, rfl, ?_, ?_⟩, Prod.ext h1 h3⟩
        · rw [haf, hat.1]
          have := whereL_line ((T.data.toList.drop j).take (u.nx - j)) l c
          omega
        · rw [haf, hat.1, hat.2]
          rintro ⟨e1, e2⟩
          rcases whereL_rise ((T.data.toList.drop j).take (u.nx - j)) l c with h5 | ⟨_, h5⟩
          · omega
          · have hlen : ((T.data.toList.drop j).take (u.nx - j)).length = u.nx - j := by
              have hl : T.data.toList.length = T.size := by simp
              rw [List.length_take, List.length_drop, hl]
              have := hp.2.1
              simp only at this
              omega
            rw [hlen] at h5
            omega

set_option maxRecDepth 400000 in
set_option maxHeartbeats 8000000 in
theorem LexRises_long (s : ByteArray) (w : World) (hg : EtIs w) (hs : 4096 < s.size) : Calls Tryd.prog 9 #[.string s] w (NextTo (.bool true) w) := by
  have HG := Lib.hid hg
  have hb : decide ((4096 : Int) < (s.size : Nat)) = true := decide_eq_true (by omega)
  have hb' : (4096 : Int) < (s.size : Nat) := by omega
  clear hg hs
  go_enter Tryd.func9, Tryd.ntmps9
  go_wp2_with fail
  refine (awake_lex _ HG.out).mono ?_
  rintro e w1 hw1
  obtain rfl := hw1.ret
  have HB1 := Lib.hid hw1.below
  clear hw1
  go_wp2_with fail
  refine (awake_lex _ (et_below HG.out HB1.out)).mono ?_
  rintro e w2 hw2
  obtain rfl := hw2.ret
  have HB2 := Lib.hid (below_step HB1.out hw2.below)
  clear hw2
  go_wp2_with fail
  go_ret
  exact ⟨rfl, HB2.out⟩

theorem all_zero {T : ByteArray} : ∀ (f i : Nat) (ln cl : Int), (allP T f i ln cl).1.1 = 0 → (allP T f i ln cl).1 = (0, 0, 0) := by
  intro f
  induction f with
  | zero => intro i ln cl _; rfl
  | succ f ih =>
    intro i ln cl h
    rw [allP] at h ⊢
    by_cases h1 : (tokP T i ln cl).1 ≠ 0
    · rw [if_pos h1] at h
      exact absurd h h1
    · rw [if_neg h1] at h ⊢
      by_cases h2 : (tokP T i ln cl).2.k = 14
      · rw [if_pos h2]
      · rw [if_neg h2] at h ⊢
        exact ih _ _ _ h
theorem flat_at : ∀ (L : List TokR) (k : Nat) (hk : k < L.length) (j : Nat), j < 6 → (L.flatMap tokCells)[k * 6 + j]? = (tokCells L[k])[j]? := by
  intro L
  induction L with
  | nil => intro k hk; simp at hk
  | cons t r ih =>
    intro k hk j hj
    have hl : (tokCells t).length = 6 := rfl
    rw [List.flatMap_cons]
    match k, hk with
    | 0, _ => rw [List.getElem?_append_left (by omega)]; simp
    | k + 1, hk =>
      rw [List.getElem?_append_right (by omega), hl, show (k + 1) * 6 + j - 6 = k * 6 + j by omega, ih k (by simpa using hk) j hj]
      simp

structure RiI (T : ByteArray) (w w2 : World) (L : List TokR) (i k : Nat) (l c : Int) (w' : World) : Prop where
  below : Below w.heap.size w w'
  keep : Below w2.heap.size w2 w'
  rest : ∃ f, allP T f i l c = ((0, 0, 0), L.drop k)
  le : i ≤ T.size
  kle : k ≤ L.length
  kli : k ≤ i
  l1 : 1 ≤ l
  l2 : l ≤ 1 + i
  c1 : 1 ≤ c
  c2 : c ≤ 1 + i

theorem own_cellsN {w : World} {B : Nat} {v : Value} {n : Nat} {xs : List Value} (h : w.ownsRow B TT 6 v n xs) : ∃ A cap, v = .slice A n cap ∧ ∀ k x, xs[k]? = some x → ∃ g, A = some ⟨g, 0, none⟩ ∧ g < w.heap.size ∧ w.cell? ⟨g, k, none⟩ = some x := by
  by_cases hn : 0 < n
  · obtain ⟨g, cap, e, _, _, hl, hc⟩ := own_cells h hn
    exact ⟨_, cap, e, fun k x hx => ⟨g, rfl, hl, hc k x hx⟩⟩
  · rcases h.2 with ⟨e, h0⟩ | ⟨g, cap, cur, hv, _⟩
    · exact ⟨none, 0, by rw [e, h0], fun k x hx => by
        have := h.1
        rw [h0, Nat.zero_mul] at this
        rw [List.eq_nil_of_length_eq_zero this] at hx
        simp at hx⟩
    · exact ⟨_, cap, hv, fun k x hx => by
        have := h.1
        rw [show n = 0 by omega, Nat.zero_mul] at this
        rw [List.eq_nil_of_length_eq_zero this] at hx
        simp at hx⟩

set_option maxRecDepth 400000 in
set_option maxHeartbeats 8000000 in
theorem LexRises_short (s : ByteArray) (w : World) (hg : EtIs w) (hs : ¬ 4096 < s.size) : Calls Tryd.prog 9 #[.string s] w (NextTo (.bool true) w) := by
  have HG := Lib.hid hg
  have hb : decide ((4096 : Int) < (s.size : Nat)) = false := decide_eq_false (by omega)
  have hb' : ¬ (4096 : Int) < (s.size : Nat) := by omega
  have HS := Lib.hid hs
  obtain ⟨R, hR⟩ : ∃ R, allP s (s.size + 1) 0 1 1 = R := ⟨_, rfl⟩
  have cA := Lib.hid (fun w => all_any s w (by omega))
  rw [hR] at cA
  have HR := Lib.hid hR
  clear hg hs hR
  go_enter Tryd.func9, Tryd.ntmps9
  go_wp2_with fail
  refine (awake_lex _ HG.out).mono ?_
  rintro e w1 hw1
  obtain rfl := hw1.ret
  have HB1 := Lib.hid hw1.below
  clear hw1
  go_wp2_with fail
  refine (cA.out _).mono ?_
  rintro e w2 hw2
  obtain ⟨v, rfl, hnil, hown⟩ := hw2.ret
  have HB2 := Lib.hid (below_step HB1.out hw2.below)
  clear hw2
  obtain ⟨⟨er, el, ec⟩, L⟩ := R
  by_cases he : er = 0
  · subst he
    obtain ⟨A, cap, rfl, hcell⟩ := own_cellsN (hown rfl)
    have HC := Lib.hid hcell
    clear hcell hown hnil
    rw [show allErr (((0, el, ec), L) : (Int × Int × Int) × List TokR).1 = .nilIface from rfl]
    rw [show (((0, el, ec), L) : (Int × Int × Int) × List TokR).2.length = L.length from rfl]
    have HI := Lib.hid (show RiI s w w2 L 0 0 1 1 w2 from ⟨HB2.out, Below.refl _ _, ⟨s.size + 1, by
      have h1 := all_zero (T := s) (s.size + 1) 0 1 1 (by rw [HR.out])
      have h2 := HR.out
      rw [h2] at h1
      rw [h2, List.drop_zero]
      exact Prod.ext h1 rfl⟩, Nat.zero_le _, Nat.zero_le _, Nat.le_refl _, by omega, by omega, by omega, by omega⟩)
    go_wp2_with fail
    go_loopg [5, 6, 7, 32] L.length (fun gk v5 v6 v7 v32 w' => ∃ (i k : Nat) (l c : Int), v5 = .int .i64 (i : Nat) ∧ v6 = .int .i64 l ∧ v7 = .int .i64 c ∧ v32 = .int .i64 (k : Nat) ∧ gk = L.length - k ∧ Hid (RiI s w w2 L i k l c w'))
    case atStart => exact ⟨0, 0, 1, 1, rfl, rfl, rfl, rfl, rfl, HI⟩
    case round =>
      clear HI
      obtain ⟨i, k, l, c, rfl, rfl, rfl, rfl, rfl, HJ⟩ := hrel
      have hk := HJ.out.kle
      by_cases hlt : k < L.length
      · have hlt' : (k : Int) < (L.length : Nat) := by omega
        obtain ⟨t, ht⟩ : ∃ t, L[k] = t := ⟨_, rfl⟩
        obtain ⟨f0, hf0⟩ := HJ.out.rest
        rw [List.drop_eq_getElem_cons hlt, ht] at hf0
        obtain ⟨f, q, -, hri, hrest⟩ := all_next hf0 HJ.out.le
        have hfl := flat_at L k hlt
        rw [ht] at hfl
        obtain ⟨g, rfl, hg, -⟩ := HC.out (k * 6) _ (hfl 0 (by omega))
        have hcs : ∀ j x, j < 6 → (tokCells t)[j]? = some x → wr.cell? ⟨g, k * 6 + j, none⟩ = some x := fun j x hj hx => by
          obtain ⟨g', e, _, h⟩ := HC.out (k * 6 + j) x ((hfl j hj).trans hx)
          injection e with e
          injection e with e
          subst e
          exact (HJ.out.keep.cell hg).trans h
        have k0 : wr.cell? ⟨g, k * 6, none⟩ = some (.int .i64 t.k) := hcs 0 _ (by omega) rfl
        have k1 : wr.cell? ⟨g, k * 6 + 1, none⟩ = some (.int .i64 t.n) := hcs 1 _ (by omega) rfl
        have k2 : wr.cell? ⟨g, k * 6 + 2, none⟩ = some (.string ⟨t.x.toArray⟩) := hcs 2 _ (by omega) rfl
        have k3 : wr.cell? ⟨g, k * 6 + 3, none⟩ = some (.int .i64 t.ln) := hcs 3 _ (by omega) rfl
        have k4 : wr.cell? ⟨g, k * 6 + 4, none⟩ = some (.int .i64 t.cl) := hcs 4 _ (by omega) rfl
        have k5 : wr.cell? ⟨g, k * 6 + 5, none⟩ = some (.int .i64 (t.nx : Nat)) := hcs 5 _ (by omega) rfl
        have HRI := Lib.hid hri
        have HRE := Lib.hid hrest
        clear hri hrest hf0 hfl hcs ht
        go_wp2_with fail
        have HSS := HS.out
        have hie := HJ.out.le
        have b1 := HJ.out.l1
        have b2 := HJ.out.l2
        have b3 := HJ.out.c1
        have b4 := HJ.out.c2
        refine (next_ok s i l c _ hie (by omega) b1 (by omega) b3 (by omega)).mono ?_
        rintro e w3 hw3
        obtain rfl := hw3.ret
        rw [HRI.out.tok, show tokRet (0, t) = .tuple #[.agg #[.int .i64 t.k, .int .i64 t.n, .string ⟨t.x.toArray⟩, .int .i64 t.ln, .int .i64 t.cl, .int .i64 (t.nx : Nat)], .nilIface] from rfl]
        have hbb := hw3.below
        have HT := Lib.hid (show w3.heap[wr.heap.size]? = some (.cells #[.int .i64 t.k, .int .i64 t.n, .string ⟨t.x.toArray⟩, .int .i64 t.ln, .int .i64 t.cl, .int .i64 (t.nx : Nat)] TT (0, 0)) from (hbb.block _ (by simp)).trans (blk_new wr _))
        have HB3 := Lib.hid (show Below wr.heap.size wr w3 from below_step (below_alloc (Below.refl _ _) _) hbb)
        have hlt3 : wr.heap.size < w3.heap.size := blk_lt HT.out
        clear hw3 hbb k0 k1 k2 k3 k4 k5
        have t0 : w3.cell? ⟨wr.heap.size, 0, none⟩ = some (.int .i64 t.k) := blk_cell HT.out 0
        have t1 : w3.cell? ⟨wr.heap.size, 1, none⟩ = some (.int .i64 t.n) := blk_cell HT.out 1
        have t2 : w3.cell? ⟨wr.heap.size, 2, none⟩ = some (.string ⟨t.x.toArray⟩) := blk_cell HT.out 2
        have t3 : w3.cell? ⟨wr.heap.size, 3, none⟩ = some (.int .i64 t.ln) := blk_cell HT.out 3
        have t4 : w3.cell? ⟨wr.heap.size, 4, none⟩ = some (.int .i64 t.cl) := blk_cell HT.out 4
        have t5 : w3.cell? ⟨wr.heap.size, 5, none⟩ = some (.int .i64 (t.nx : Nat)) := blk_cell HT.out 5
        have hne : ∀ w, (binOp .neq TT (.agg #[.int .i64 t.k, .int .i64 t.n, .string ⟨t.x.toArray⟩, .int .i64 t.ln, .int .i64 t.cl, .int .i64 (t.nx : Nat)]) (.agg #[.int .i64 t.k, .int .i64 t.n, .string ⟨t.x.toArray⟩, .int .i64 t.ln, .int .i64 t.cl, .int .i64 (t.nx : Nat)])).run Tryd.prog w = .ok (.bool false) w := fun w => tok_neq t w
        have hgt := HRI.out.gt
        have hle := HRI.out.le
        have d1 : ¬ (t.nx : Int) ≤ (i : Nat) := by omega
        have d2 : decide ((t.nx : Int) ≤ (i : Nat)) = false := decide_eq_false d1
        have d3 : ¬ (s.size : Int) < (t.nx : Nat) := by omega
        have d4 : decide ((s.size : Int) < (t.nx : Nat)) = false := decide_eq_false d3
        go_wp2_with fail
        refine (where_any s i t.nx l c _ (Nat.le_of_lt hgt) hle (by omega) (by omega) (by omega) (by omega) (by omega)).mono ?_
        rintro e w5 ⟨rfl, hb5⟩
        rw [HRI.out.pos]
        have hb35 : Below w3.heap.size w3 w5 := below_step (below_alloc (Below.refl _ _) _) hb5
        have u3 := (hb35.cell (p := ⟨wr.heap.size, 3, none⟩) hlt3).trans t3
        have u4 := (hb35.cell (p := ⟨wr.heap.size, 4, none⟩) hlt3).trans t4
        have u5 := (hb35.cell (p := ⟨wr.heap.size, 5, none⟩) hlt3).trans t5
        have hl5 : wr.heap.size < w5.heap.size := by have := hb35.size; omega
        have HB5 := Lib.hid (show Below wr.heap.size wr w5 from below_step HB3.out hb35)
        obtain ⟨q1, q2⟩ := q
        have hpos := HRI.out.pos
        have m1 := whereL_line ((s.data.toList.drop i).take (t.nx - i)) l c
        have m2 := whereL_col ((s.data.toList.drop i).take (t.nx - i)) l c (by omega)
        have m3 := whereL_one ((s.data.toList.drop i).take (t.nx - i)) l c b3
        have m4 : ((s.data.toList.drop i).take (t.nx - i)).length ≤ t.nx - i := List.length_take_le _ _
        rw [hpos] at m1 m2 m3
        simp only at m1 m2 m3
        have HN := Lib.hid (show RiI s w w2 L t.nx (k + 1) q1 q2 w5 from ⟨below_step HJ.out.below HB5.out, below_step HJ.out.keep HB5.out, ⟨f, HRE.out⟩, hle, hlt, by have := HJ.out.kli; omega, by omega, by omega, m3, by omega⟩)
        have hk4 : k ≤ 4096 := by have := HJ.out.kli; omega
        have g1 : ¬ q1 < t.ln := HRI.out.line
        have g2 : decide (q1 < t.ln) = false := decide_eq_false g1
        have HCOL := Lib.hid HRI.out.col
        clear hb5 hb35 t0 t1 t2 t3 t4 t5 d1 d2 d3 d4 hne m1 m2 m3 m4 hpos HRE HRI
        by_cases hq : t.ln = q1
        · have q0 : (t.ln == q1) = true := by simp [hq]
          have q3 : ¬ q2 ≤ t.cl := fun h => HCOL.out ⟨hq, h⟩
          have q4 : decide (q2 ≤ t.cl) = false := decide_eq_false q3
          go_wp2_with fail
          go_roundg (L.length - (k + 1))
          case measure => omega
          case rel => exact ⟨t.nx, k + 1, q1, q2, rfl, rfl, rfl, rfl, rfl, HN⟩
        · have q0 : (t.ln == q1) = false := beq_eq_false_iff_ne.2 hq
          go_wp2_with fail
          go_roundg (L.length - (k + 1))
          case measure => omega
          case rel => exact ⟨t.nx, k + 1, q1, q2, rfl, rfl, rfl, rfl, rfl, HN⟩
      · have hlt' : ¬ (k : Int) < (L.length : Nat) := by omega
        go_wp2_with fail
        go_ret
        exact ⟨rfl, HJ.out.below⟩
  · have HNE := Lib.hid he
    obtain rfl := hnil he
    rw [show allErr (((er, el, ec), L) : (Int × Int × Int) × List TokR).1 = atV el ec er by simp only [allErr, if_neg he]]
    clear hown hnil he
    go_wp2_with fail
    go_ret
    exact ⟨rfl, HB2.out⟩

set_option maxRecDepth 16000 in
theorem LexRises_top {H : Type} {enc : TypeId × Value → H} (W : World) (base : Nat) (v0 : Value) (d0 : DataW H) (p0 : List MemPlace) (hv0 : Value.okWide Tryd.prog W .any base 9 v0) (h0 : DataW.Trod enc Tryd.prog W 0 (fun _ => true) true 9 v0 d0 p0)
    {ts : List TypeId} {ds : List (DataW H)} (_ : (DataW.weightsEach Tryd.prog ts ds).all (· ≤ reachBytes) = true) (hT : EtIs W) :
    Calls Tryd.prog 9 #[v0] W fun e w' => e = .returned (.bool true) ∧ Below W.heap.size W w' := by
  obtain ⟨s, rfl, rfl, rfl, _⟩ := Go.ChangeMaps.open_string Tryd.underlying9 hv0 h0
  by_cases hs : 4096 < s.size
  · exact (LexRises_long s W hT hs).mono fun e w' h => ⟨h.ret, h.below⟩
  · exact (LexRises_short s W hT hs).mono fun e w' h => ⟨h.ret, h.below⟩
end Go.Proofs.YthighbbikpnpgaaDoor
