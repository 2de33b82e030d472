/-
  The law of blanks.
-/
import Derived.Test.YthighbbikpnpgaaDoorLrR
import Derived.ProofKit
import Derived.OpenShut
namespace Go.Proofs.YthighbbikpnpgaaDoor
open Go.RowKit Go.Proofs.YthighbbikpnpgaaDoorW.PrintWords Go.ChangeShapes Go.WideShapes Go.ChangeAt

/-- The picks: bytes that came in. -/
structure Picks (W : World) (pb po n : Nat) (P : Nat → Int) (w' : World) : Prop where
  cell : ∀ j, j < n → w'.cell? ⟨pb, po + j, none⟩ = some (.int .u8 (P j))
  ge : ∀ j, 0 ≤ P j
  lt : ∀ j, P j < 256
  old : pb < W.heap.size
theorem Picks.below {W : World} {pb po n : Nat} {P : Nat → Int} {w1 w2 : World} (h : Picks W pb po n P w1) (hb : Below W.heap.size w1 w2) : Picks W pb po n P w2 :=
  ⟨fun j hj => (hb.cell h.old).trans (h.cell j hj), h.ge, h.lt, h.old⟩

structure BkI (T : ByteArray) (w w2 : World) (B : Nat → Nat) (L : List TokR) (X : ByteArray) (p k : Nat) (l c : Int) (w' : World) : Prop where
  below : Below w.heap.size w w'
  keep : Below w2.heap.size w2 w'
  blanks : w'.heap[w2.heap.size]? = some (.cells #[.string ⟨#[32]⟩, .string ⟨#[10]⟩, .string ⟨#[9, 32, 13]⟩, .string ⟨#[59, 32, 97, 32, 114, 101, 109, 97, 114, 107, 32, 40, 10]⟩] 77 (0, 0))
  rest : ∃ f, allP T f p l c = ((0, 0, 0), L.drop k)
  le : p ≤ T.size
  kle : k ≤ L.length
  kli : k ≤ p
  xb : X.size ≤ 13 * k + p
  out : X.data.toList ++ outL T B k p (L.drop k) = outL T B 0 0 L

set_option maxRecDepth 400000 in
set_option maxHeartbeats 8000000 in
theorem LexBlanks_b1 (s : ByteArray) (A : Option Addr) (n cap : Nat) (w : World) (hg : EtIs w) (h1 : 1024 < s.size) : Calls Tryd.prog 8 #[.string s, .slice A n cap] w (NextTo (.bool true) w) := by
  have HG := Lib.hid hg
  have a1 : (1024 : Int) < (s.size : Nat) := by omega
  have a2 : decide ((1024 : Int) < (s.size : Nat)) = true := decide_eq_true a1
  clear hg
  go_enter Tryd.func8, Tryd.ntmps8
  go_wp2_with fail
  refine (awake_lex _ HG.out).mono ?_
  rintro e w1 hw1
  obtain rfl := hw1.ret
  have HB1 := Lib.hid hw1.below
  clear hw1
  go_wp2_with fail
  refine (awake_lex _ (et_below HG.out HB1.out)).mono ?_
  rintro e w2 hw2
  obtain rfl := hw2.ret
  have HB2 := Lib.hid (below_step HB1.out hw2.below)
  clear hw2
  go_wp2_with fail
  go_ret
  exact ⟨rfl, HB2.out⟩

set_option maxRecDepth 400000 in
set_option maxHeartbeats 8000000 in
theorem LexBlanks_b2 (s : ByteArray) (A : Option Addr) (n cap : Nat) (w : World) (hg : EtIs w) (h1 : ¬ 1024 < s.size) (h2 : n = 0) : Calls Tryd.prog 8 #[.string s, .slice A n cap] w (NextTo (.bool true) w) := by
  have HG := Lib.hid hg
  have a1 : ¬ (1024 : Int) < (s.size : Nat) := by omega
  have a2 : decide ((1024 : Int) < (s.size : Nat)) = false := decide_eq_false a1
  subst h2
  clear hg
  go_enter Tryd.func8, Tryd.ntmps8
  go_wp2_with fail
  refine (awake_lex _ HG.out).mono ?_
  rintro e w1 hw1
  obtain rfl := hw1.ret
  have HB1 := Lib.hid hw1.below
  clear hw1
  go_wp2_with fail
  refine (awake_lex _ (et_below HG.out HB1.out)).mono ?_
  rintro e w2 hw2
  obtain rfl := hw2.ret
  have HB2 := Lib.hid (below_step HB1.out hw2.below)
  clear hw2
  go_wp2_with fail
  go_ret
  exact ⟨rfl, HB2.out⟩

set_option maxRecDepth 400000 in
set_option maxHeartbeats 8000000 in
theorem LexBlanks_b3 (s : ByteArray) (A : Option Addr) (n cap : Nat) (w : World) (hg : EtIs w) (h1 : ¬ 1024 < s.size) (h3 : 50 < n) : Calls Tryd.prog 8 #[.string s, .slice A n cap] w (NextTo (.bool true) w) := by
  have HG := Lib.hid hg
  have a1 : ¬ (1024 : Int) < (s.size : Nat) := by omega
  have a2 : decide ((1024 : Int) < (s.size : Nat)) = false := decide_eq_false a1
  have a3 : ((n : Int) == 0) = false := beq_eq_false_iff_ne.2 (by omega)
  have a4 : ¬ (n : Int) = 0 := by omega
  have a5 : (50 : Int) < (n : Nat) := by omega
  have a6 : decide ((50 : Int) < (n : Nat)) = true := decide_eq_true a5
  clear hg
  go_enter Tryd.func8, Tryd.ntmps8
  go_wp2_with fail
  refine (awake_lex _ HG.out).mono ?_
  rintro e w1 hw1
  obtain rfl := hw1.ret
  have HB1 := Lib.hid hw1.below
  clear hw1
  go_wp2_with fail
  refine (awake_lex _ (et_below HG.out HB1.out)).mono ?_
  rintro e w2 hw2
  obtain rfl := hw2.ret
  have HB2 := Lib.hid (below_step HB1.out hw2.below)
  clear hw2
  go_wp2_with fail
  go_ret
  exact ⟨rfl, HB2.out⟩

set_option maxRecDepth 400000 in
set_option maxHeartbeats 8000000 in
theorem LexBlanks_ok (s : ByteArray) (pb po n cap : Nat) (P : Nat → Int) (w : World) (hg : EtIs w) (hp : Picks w pb po n P w) (h1 : ¬ 1024 < s.size) (h2 : n ≠ 0) (h3 : ¬ 50 < n) : Calls Tryd.prog 8 #[.string s, .slice (some ⟨pb, po, none⟩) n cap] w (NextTo (.bool true) w) := by
  have HG := Lib.hid hg
  have a1 : ¬ (1024 : Int) < (s.size : Nat) := by omega
  have a2 : decide ((1024 : Int) < (s.size : Nat)) = false := decide_eq_false a1
  have a3 : ((n : Int) == 0) = false := beq_eq_false_iff_ne.2 (by omega)
  have a4 : ¬ (n : Int) = 0 := by omega
  have a5 : ¬ (50 : Int) < (n : Nat) := by omega
  have a6 : decide ((50 : Int) < (n : Nat)) = false := decide_eq_false a5
  have HP := Lib.hid hp
  have HS := Lib.hid h1
  have HN := Lib.hid (show n ≠ 0 ∧ n ≤ 50 from ⟨h2, by omega⟩)
  obtain ⟨R, hR⟩ : ∃ R, allP s (s.size + 1) 0 1 1 = R := ⟨_, rfl⟩
  have cA := Lib.hid (fun w => all_any s w (by omega))
  rw [hR] at cA
  have HR := Lib.hid hR
  clear hg hp hR h1 h2 h3
  go_enter Tryd.func8, Tryd.ntmps8
  go_wp2_with fail
  refine (awake_lex _ HG.out).mono ?_
  rintro e w1 hw1
  obtain rfl := hw1.ret
  have HB1 := Lib.hid hw1.below
  clear hw1
  go_wp2_with fail
  refine (cA.out _).mono ?_
  rintro e w2 hw2
  obtain ⟨v, rfl, hnil, hown⟩ := hw2.ret
  have HB2 := Lib.hid (below_step HB1.out hw2.below)
  clear hw2
  obtain ⟨⟨er, el, ec⟩, L⟩ := R
  by_cases he : er = 0
  · subst he
    obtain ⟨A, cap2, rfl, hcell⟩ := own_cellsN (hown rfl)
    have HC := Lib.hid hcell
    clear hcell hown hnil
    rw [show allErr (((0, el, ec), L) : (Int × Int × Int) × List TokR).1 = .nilIface from rfl]
    rw [show (((0, el, ec), L) : (Int × Int × Int) × List TokR).2.length = L.length from rfl]
    have HI := Lib.hid (show BkI s w w2 (fun i => ((P (i % n)).toNat) % 4) L ⟨#[]⟩ 0 0 1 1 (w2.alloc (.cells #[.string ⟨#[32]⟩, .string ⟨#[10]⟩, .string ⟨#[9, 32, 13]⟩, .string ⟨#[59, 32, 97, 32, 114, 101, 109, 97, 114, 107, 32, 40, 10]⟩] 77)) from
      ⟨below_alloc HB2.out _, below_alloc (Below.refl _ _) _, blk_new w2 _, ⟨s.size + 1, by
      have h1 := all_zero (T := s) (s.size + 1) 0 1 1 (by rw [HR.out])
      have h2 := HR.out
      rw [h2] at h1
      rw [h2, List.drop_zero]
      exact Prod.ext h1 rfl⟩, Nat.zero_le _, Nat.zero_le _, Nat.le_refl _, Nat.zero_le _, rfl⟩)
    go_wp2_with fail
    go_loopg [8, 9, 45] L.length (fun gk v8 v9 v45 w' => ∃ (X : ByteArray) (p k : Nat) (l c : Int), v8 = .string X ∧ v9 = .int .i64 (p : Nat) ∧ v45 = .int .i64 (k : Nat) ∧ gk = L.length - k ∧ Hid (BkI s w w2 (fun i => ((P (i % n)).toNat) % 4) L X p k l c w'))
    case atStart => exact ⟨_, 0, 0, 1, 1, rfl, rfl, rfl, rfl, HI⟩
    case round =>
      clear HI
      obtain ⟨X, p, k, l, c, rfl, rfl, rfl, rfl, HJ⟩ := hrel
      have hk := HJ.out.kle
      have hHN := HN.out
      have hHS := HS.out
      by_cases hlt : k < L.length
      · have hlt' : (k : Int) < (L.length : Nat) := by omega
        obtain ⟨t, ht⟩ : ∃ t, L[k] = t := ⟨_, rfl⟩
        obtain ⟨f0, hf0⟩ := HJ.out.rest
        rw [List.drop_eq_getElem_cons hlt, ht] at hf0
        obtain ⟨f, q, -, hri, hrest⟩ := all_next hf0 HJ.out.le
        have hfl := flat_at L k hlt
        rw [ht] at hfl
        obtain ⟨g, rfl, hg, -⟩ := HC.out (k * 6) _ (hfl 0 (by omega))
        have hcs : ∀ j x, j < 6 → (tokCells t)[j]? = some x → wr.cell? ⟨g, k * 6 + j, none⟩ = some x := fun j x hj hx => by
          obtain ⟨g', e, _, h⟩ := HC.out (k * 6 + j) x ((hfl j hj).trans hx)
          injection e with e
          injection e with e
          subst e
          exact (HJ.out.keep.cell hg).trans h
        have k0 : wr.cell? ⟨g, k * 6, none⟩ = some (.int .i64 t.k) := hcs 0 _ (by omega) rfl
        have k1 : wr.cell? ⟨g, k * 6 + 1, none⟩ = some (.int .i64 t.n) := hcs 1 _ (by omega) rfl
        have k2 : wr.cell? ⟨g, k * 6 + 2, none⟩ = some (.string ⟨t.x.toArray⟩) := hcs 2 _ (by omega) rfl
        have k3 : wr.cell? ⟨g, k * 6 + 3, none⟩ = some (.int .i64 t.ln) := hcs 3 _ (by omega) rfl
        have k4 : wr.cell? ⟨g, k * 6 + 4, none⟩ = some (.int .i64 t.cl) := hcs 4 _ (by omega) rfl
        have k5 : wr.cell? ⟨g, k * 6 + 5, none⟩ = some (.int .i64 (t.nx : Nat)) := hcs 5 _ (by omega) rfl
        have HRI := Lib.hid hri
        have HRE := Lib.hid hrest
        have HTK := Lib.hid ht
        clear hri hrest hf0 hfl hcs ht
        go_wp2_with fail
        have hmn : k % n < n := Nat.mod_lt _ (by omega)
        obtain ⟨m, hm⟩ : ∃ m, k % n = m := ⟨_, rfl⟩
        rw [hm] at hmn
        have hm1 : (k : Int).tmod (n : Int) = (m : Int) := by rw [← hm]; rfl
        have hPB := HP.out.below HJ.out.below
        obtain ⟨z, hz⟩ : ∃ z : Nat, P m = (z : Int) := ⟨(P m).toNat, by have := HP.out.ge m; omega⟩
        have hz256 : z < 256 := by have := HP.out.lt m; omega
        obtain ⟨d, hd⟩ : ∃ d, z % 4 = d := ⟨_, rfl⟩
        have hd4 : d < 4 := by omega
        have hz1 : (z : Int).tmod 4 = (d : Int) := by rw [← hd]; rfl
        have p0 : wr.cell? ⟨pb, po + m, none⟩ = some (.int .u8 (z : Nat)) := by rw [← hz]; exact hPB.cell m hmn
        have q0 : wr.cell? ⟨w2.heap.size, d, none⟩ = some (.string ⟨(blankL d).toArray⟩) := by
          have hc := fun j => cell_of_row wr w2.heap.size j _ _ (0, 0) HJ.out.blanks
          rw [hc]
          match d, hd4 with
          | 0, _ => rfl
          | 1, _ => rfl
          | 2, _ => rfl
          | 3, _ => rfl
        have lb : w2.heap.size < wr.heap.size := blk_lt HJ.out.blanks
        have lp : pb < wr.heap.size := by have := HP.out.old; have := HJ.out.below.size; omega
        have hgt := HRI.out.gt
        have hle := HRI.out.le
        have e1 : (p : Int) ≤ (t.nx : Nat) := by omega
        have e2 : (t.nx : Int) ≤ (s.size : Nat) := by omega
        have e3 : (d : Int) < 4 := by omega
        have e4 : (m : Int) < (n : Nat) := by omega
        have HDB := Lib.hid (show (P (k % n)).toNat % 4 = d by rw [hm, hz]; simpa using hd)
        have hbl : (blankL d).length ≤ 13 := by unfold blankL; (repeat' split) <;> simp
        have hxb := HJ.out.xb
        have hkp := HJ.out.kli
        have hpl := HJ.out.le
        have g1 : ¬ 9223372036854775807 < (blankL d).length + (t.nx - p) := by omega
        have g2 : ¬ 9223372036854775807 < X.size + ((blankL d).length + (t.nx - p)) := by omega
        have HX := Lib.hid (show ∀ W, Below wr.heap.size wr W → BkI s w w2 (fun i => ((P (i % n)).toNat) % 4) L (X ++ (⟨(blankL d).toArray⟩ ++ s.extract p t.nx)) t.nx (k + 1) q.1 q.2 W from fun W hW =>
          ⟨below_step HJ.out.below hW, below_step HJ.out.keep hW, blk_below HJ.out.blanks hW, ⟨f, HRE.out⟩, hle, hlt, by omega, by
            have h1 : (⟨(blankL d).toArray⟩ : ByteArray).size = (blankL d).length := by show (blankL d).toArray.size = _; simp
            have h2 : (s.extract p t.nx).size = t.nx - p := by rw [ByteArray.size_extract]; omega
            rw [ByteArray.size_append, ByteArray.size_append, h1, h2]
            omega, by
            have h3 := HJ.out.out
            rw [List.drop_eq_getElem_cons hlt, HTK.out, outL] at h3
            rw [← h3]
            simp only [ByteArray.data_append, Array.toList_append]
            rw [extract_list, show (blankL ((fun i => ((P (i % n)).toNat) % 4) k)) = blankL d by rw [← HDB.out]]
            simp only [List.append_assoc]⟩)
        clear k0 k1 k2 k3 k4 k5 hm hz hd
        go_region
        go_wp2_with fail
        go_roundg (L.length - (k + 1))
        case measure => omega
        case rel => exact ⟨_, t.nx, k + 1, q.1, q.2, rfl, rfl, rfl, rfl, Lib.hid (HX.out _ (by first | exact below_drew (below_alloc (Below.refl _ _) _) | exact below_drew (below_drew (below_alloc (Below.refl _ _) _))))⟩
      · have hlt' : ¬ (k : Int) < (L.length : Nat) := by omega
        have hke : k = L.length := by omega
        go_wp2_with fail
        have hPB := HP.out.below HJ.out.below
        obtain ⟨z, hz⟩ : ∃ z : Nat, P 0 = (z : Int) := ⟨(P 0).toNat, by have := HP.out.ge 0; omega⟩
        have hz256 : z < 256 := by have := HP.out.lt 0; omega
        obtain ⟨d, hd⟩ : ∃ d, z % 4 = d := ⟨_, rfl⟩
        have hd4 : d < 4 := by omega
        have hz1 : (z : Int).tmod 4 = (d : Int) := by rw [← hd]; rfl
        have p0 : wr.cell? ⟨pb, po, none⟩ = some (.int .u8 (z : Nat)) := by rw [← hz]; exact (hPB.cell 0 (by omega))
        have q0 : wr.cell? ⟨w2.heap.size, d, none⟩ = some (.string ⟨(blankL d).toArray⟩) := by
          have hc := fun j => cell_of_row wr w2.heap.size j _ _ (0, 0) HJ.out.blanks
          rw [hc]
          match d, hd4 with
          | 0, _ => rfl
          | 1, _ => rfl
          | 2, _ => rfl
          | 3, _ => rfl
        have lb : w2.heap.size < wr.heap.size := blk_lt HJ.out.blanks
        have lp : pb < wr.heap.size := by have := HP.out.old; have := HJ.out.below.size; omega
        have e1 : (p : Int) ≤ (s.size : Nat) := by have := HJ.out.le; omega
        have e3 : (d : Int) < 4 := by omega
        have e4 : (0 : Int) < (n : Nat) := by omega
        have hbl : (blankL d).length ≤ 13 := by unfold blankL; (repeat' split) <;> simp
        have hxb := HJ.out.xb
        have hkp := HJ.out.kli
        have hpl := HJ.out.le
        have g1 : ¬ 9223372036854775807 < (blankL d).length + (s.size - p) := by omega
        have g2 : ¬ 9223372036854775807 < X.size + ((blankL d).length + (s.size - p)) := by omega
        have HOUT := Lib.hid (show (X ++ (⟨(blankL d).toArray⟩ ++ s.extract p s.size)).data.toList = outL s (fun i => ((P (i % n)).toNat) % 4) 0 0 L ∧ (X ++ (⟨(blankL d).toArray⟩ ++ s.extract p s.size)).size ≤ 16384 from ⟨by
            have h3 := HJ.out.out
            rw [hke, List.drop_length, outL] at h3
            rw [← h3]
            simp only [ByteArray.data_append, Array.toList_append]
            rw [drop_extract]
            rw [show (blankL ((fun i => ((P (i % n)).toNat) % 4) 0)) = blankL d by rw [← hd]; simp [hz]], by
            have h1 : (⟨(blankL d).toArray⟩ : ByteArray).size = (blankL d).length := by show (blankL d).toArray.size = _; simp
            have h2 : (s.extract p s.size).size = s.size - p := by rw [ByteArray.size_extract]; omega
            rw [ByteArray.size_append, ByteArray.size_append, h1, h2]
            omega⟩)
        clear hz hd g1 g2
        have hg1 : ¬ 9223372036854775807 < (blankL d).length + (s.size - p) := by omega
        have hg2 : ¬ 9223372036854775807 < X.size + ((blankL d).length + (s.size - p)) := by omega
        go_region
        go_wp2_with fail
        clear p0 q0
        have HBW := Lib.hid (show Below w2.heap.size w2 wr.drew from below_drew HJ.out.keep)
        have HBL := Lib.hid (show Below w.heap.size w wr.drew from below_drew HJ.out.below)
        clear HJ
        generalize X ++ (⟨(blankL d).toArray⟩ ++ s.extract p s.size) = T2 at HOUT ⊢
        have HL2 := Lib.hid (show ∃ L2, allP T2 (T2.size + 1) 0 1 1 = ((0, 0, 0), L2) ∧ L2.map (fun t => (t.k, t.n, t.x)) = L.map (fun t => (t.k, t.n, t.x)) from
          allP_same s T2 (fun i => ((P (i % n)).toNat) % 4) (s.size + 1) 0 1 1 L (Nat.zero_le _) (by
            have h1 := all_zero (T := s) (s.size + 1) 0 1 1 (by rw [HR.out])
            have h2 := HR.out
            rw [h2] at h1
            rw [h2]
            exact Prod.ext h1 rfl) (by omega) 0 (T2.size + 1) 0 1 1 (Nat.zero_le _) (by rw [List.drop_zero]; exact HOUT.out.1) (by omega))
        obtain ⟨L2, hL2, hmap⟩ := HL2.out
        refine (all_any T2 _ HOUT.out.2).mono ?_
        rintro e w6 hw6
        rw [hL2] at hw6
        obtain ⟨v2, rfl, -, hown2⟩ := hw6.ret
        have hb6 := hw6.below
        obtain ⟨A2, cap3, rfl, hcell2⟩ := own_cellsN (hown2 rfl)
        have HC2 := Lib.hid hcell2
        have hlen : L2.length = L.length := by
          have := congrArg List.length hmap
          simpa using this
        have HMAP := Lib.hid hmap
        have HB6 := Lib.hid (below_step HBL.out hb6)
        have HBW6 := Lib.hid (below_step HBW.out hb6)
        clear hw6 hcell2 hown2 hmap hL2 hb6 HL2 HBW HBL
        rw [show allErr (((0, 0, 0), L2) : (Int × Int × Int) × List TokR).1 = .nilIface from rfl]
        rw [show (((0, 0, 0), L2) : (Int × Int × Int) × List TokR).2.length = L2.length from rfl, hlen]
        have hLb : L.length ≤ 1024 := by omega
        have HI := Lib.hid (show Below w.heap.size w w6 ∧ Below w2.heap.size w2 w6 ∧ Below w6.heap.size w6 w6 from ⟨HB6.out, HBW6.out, Below.refl _ _⟩)
        clear HB6 HBW6 hg1 hg2
        go_wp2_with fail
        go_loopg [99] L.length (fun gk v w' => ∃ (j : Nat), v = .int .i64 (j : Nat) ∧ gk = L.length - j ∧ j ≤ L.length ∧ Hid (Below w.heap.size w w' ∧ Below w2.heap.size w2 w' ∧ Below w6.heap.size w6 w'))
        case atStart => exact ⟨0, rfl, rfl, Nat.zero_le _, HI⟩
        case round =>
          clear HI
          obtain ⟨j, rfl, rfl, hj, HJ⟩ := hrel
          by_cases hlj : j < L.length
          · have hlj' : (j : Int) < (L.length : Nat) := by omega
            have hlj2 : j < L2.length := by omega
            obtain ⟨t, ht⟩ : ∃ t, L[j] = t := ⟨_, rfl⟩
            obtain ⟨u, hu⟩ : ∃ u, L2[j] = u := ⟨_, rfl⟩
            have hkey : u.k = t.k ∧ u.n = t.n ∧ u.x = t.x := by
              have h1 := congrArg (fun l => l[j]?) HMAP.out
              simp only [List.getElem?_map, List.getElem?_eq_getElem hlj, List.getElem?_eq_getElem hlj2, ht, hu, Option.map_some, Option.some.injEq, Prod.mk.injEq] at h1
              exact h1
            have hfl := flat_at L j hlj
            have hfl2 := flat_at L2 j hlj2
            rw [ht] at hfl
            rw [hu] at hfl2
            obtain ⟨g, rfl, hg, -⟩ := HC.out (j * 6) _ (hfl 0 (by omega))
            obtain ⟨g2, rfl, hg2, -⟩ := HC2.out (j * 6) _ (hfl2 0 (by omega))
            have hcs : ∀ i x, i < 6 → (tokCells t)[i]? = some x → wr.cell? ⟨g, j * 6 + i, none⟩ = some x := fun i x hi hx => by
              obtain ⟨g', e, _, h⟩ := HC.out (j * 6 + i) x ((hfl i hi).trans hx)
              injection e with e
              injection e with e
              subst e
              exact (HJ.out.2.1.cell hg).trans h
            have hcs2 : ∀ i x, i < 6 → (tokCells u)[i]? = some x → wr.cell? ⟨g2, j * 6 + i, none⟩ = some x := fun i x hi hx => by
              obtain ⟨g', e, _, h⟩ := HC2.out (j * 6 + i) x ((hfl2 i hi).trans hx)
              injection e with e
              injection e with e
              subst e
              exact (HJ.out.2.2.cell hg2).trans h
            obtain ⟨uk, un, ux, ul, uc, unx⟩ := u
            obtain ⟨rfl, rfl, rfl⟩ := hkey
            have lg : g < wr.heap.size := by have := HJ.out.2.1.size; omega
            have lg2 : g2 < wr.heap.size := by have := HJ.out.2.2.size; omega
            have k0 : wr.cell? ⟨g, j * 6, none⟩ = some (.int .i64 t.k) := hcs 0 _ (by omega) rfl
            have k1 : wr.cell? ⟨g, j * 6 + 1, none⟩ = some (.int .i64 t.n) := hcs 1 _ (by omega) rfl
            have k2 : wr.cell? ⟨g, j * 6 + 2, none⟩ = some (.string ⟨t.x.toArray⟩) := hcs 2 _ (by omega) rfl
            have k3 : wr.cell? ⟨g, j * 6 + 3, none⟩ = some (.int .i64 t.ln) := hcs 3 _ (by omega) rfl
            have k4 : wr.cell? ⟨g, j * 6 + 4, none⟩ = some (.int .i64 t.cl) := hcs 4 _ (by omega) rfl
            have k5 : wr.cell? ⟨g, j * 6 + 5, none⟩ = some (.int .i64 (t.nx : Nat)) := hcs 5 _ (by omega) rfl
            have m0 : wr.cell? ⟨g2, j * 6, none⟩ = some (.int .i64 t.k) := hcs2 0 _ (by omega) rfl
            have m1 : wr.cell? ⟨g2, j * 6 + 1, none⟩ = some (.int .i64 t.n) := hcs2 1 _ (by omega) rfl
            have m2 : wr.cell? ⟨g2, j * 6 + 2, none⟩ = some (.string ⟨t.x.toArray⟩) := hcs2 2 _ (by omega) rfl
            have m3 : wr.cell? ⟨g2, j * 6 + 3, none⟩ = some (.int .i64 ul) := hcs2 3 _ (by omega) rfl
            have m4 : wr.cell? ⟨g2, j * 6 + 4, none⟩ = some (.int .i64 uc) := hcs2 4 _ (by omega) rfl
            have m5 : wr.cell? ⟨g2, j * 6 + 5, none⟩ = some (.int .i64 (unx : Nat)) := hcs2 5 _ (by omega) rfl
            clear hcs hcs2 hfl hfl2 ht hu
            go_wp2_with fail
            go_region_held3 (fun w' => w'.cell? ⟨g, j * 6, none⟩ = some (.int .i64 t.k) ∧ w'.cell? ⟨g, j * 6 + 1, none⟩ = some (.int .i64 t.n) ∧ w'.cell? ⟨g, j * 6 + 2, none⟩ = some (.string ⟨t.x.toArray⟩) ∧ w'.cell? ⟨g, j * 6 + 3, none⟩ = some (.int .i64 t.ln) ∧ w'.cell? ⟨g, j * 6 + 4, none⟩ = some (.int .i64 t.cl) ∧ w'.cell? ⟨g, j * 6 + 5, none⟩ = some (.int .i64 (t.nx : Nat)) ∧ w'.cell? ⟨g2, j * 6, none⟩ = some (.int .i64 t.k) ∧ w'.cell? ⟨g2, j * 6 + 1, none⟩ = some (.int .i64 t.n) ∧ w'.cell? ⟨g2, j * 6 + 2, none⟩ = some (.string ⟨t.x.toArray⟩) ∧ w'.cell? ⟨g2, j * 6 + 3, none⟩ = some (.int .i64 ul) ∧ w'.cell? ⟨g2, j * 6 + 4, none⟩ = some (.int .i64 uc) ∧ w'.cell? ⟨g2, j * 6 + 5, none⟩ = some (.int .i64 (unx : Nat))) (go_keep) (fail)
            all_goals clear k0 k1 k2 k3 k4 k5 m0 m1 m2 m3 m4 m5
            all_goals go_wp2_with fail
            all_goals go_roundg (L.length - (j + 1))
            all_goals first
              | omega
              | exact ⟨j + 1, rfl, rfl, hlj, Lib.hid ⟨below_step HJ.out.1 (below_drew (below_alloc (below_alloc (Below.refl _ _) _) _)), below_step HJ.out.2.1 (below_drew (below_alloc (below_alloc (Below.refl _ _) _) _)), below_step HJ.out.2.2 (below_drew (below_alloc (below_alloc (Below.refl _ _) _) _))⟩⟩
          · have hlj' : ¬ (j : Int) < (L.length : Nat) := by omega
            go_wp2_with fail
            go_ret
            exact ⟨rfl, HJ.out.1⟩
  · have HNE := Lib.hid he
    obtain rfl := hnil he
    rw [show allErr (((er, el, ec), L) : (Int × Int × Int) × List TokR).1 = atV el ec er by simp only [allErr, if_neg he]]
    clear hown hnil he
    go_wp2_with fail
    go_ret
    exact ⟨rfl, HB2.out⟩

theorem lb_u8 {n : Int} (h : (Lit.int .u8 n).wf = true) : 0 ≤ n ∧ n ≤ 255 := by
  simp only [Lit.wf, Bool.and_eq_true, decide_eq_true_eq] at h
  exact h

set_option maxRecDepth 16000 in
theorem LexBlanks_top {H : Type} {enc : TypeId × Value → H} (W : World) (base : Nat) (v0 v1 : Value) (d0 d1 : DataW H) (p0 p1 : List MemPlace) (hv0 : Value.okWide Tryd.prog W .any base 9 v0) (hv1 : Value.okWide Tryd.prog W .any base 76 v1) (h0 : DataW.Trod enc Tryd.prog W 0 (fun _ => true) true 9 v0 d0 p0) (h1 : DataW.Trod enc Tryd.prog W 0 (fun _ => true) true 76 v1 d1 p1)
    {ts : List TypeId} {ds : List (DataW H)} (_ : (DataW.weightsEach Tryd.prog ts ds).all (· ≤ reachBytes) = true) (hT : EtIs W) :
    Calls Tryd.prog 8 #[v0, v1] W fun e w' => e = .returned (.bool true) ∧ Below W.heap.size W w' := by
  obtain ⟨s, rfl, rfl, rfl, _⟩ := Go.ChangeMaps.open_string Tryd.underlying9 hv0 h0
  obtain ⟨A, n, cap, rfl⟩ := okWide_slice Tryd.underlying76 hv1
  by_cases hs : 1024 < s.size
  · exact (LexBlanks_b1 s A n cap W hT hs).mono fun e w' h => ⟨h.ret, h.below⟩
  by_cases hn : n = 0
  · exact (LexBlanks_b2 s A n cap W hT hs hn).mono fun e w' h => ⟨h.ret, h.below⟩
  by_cases hn5 : 50 < n
  · exact (LexBlanks_b3 s A n cap W hT hs hn5).mono fun e w' h => ⟨h.ret, h.below⟩
  have hP : ∃ pb po, A = some ⟨pb, po, none⟩ ∧ ∃ P : Nat → Int, Picks W pb po n P W := by
    obtain ⟨fuel, hf⟩ := h1
    rcases open_ints Tryd.underlying76 Tryd.underlying5 (by kernel_rfl) hf with ⟨hcs, hx⟩ | ⟨a, len', cap', zs, hcs, _, hl, hm, hz, hx, hcell, hwz⟩
    · simp [Value.cells] at hcs
      exact absurd hcs.2.1 hn
    · simp [Value.cells] at hcs
      obtain ⟨rfl, rfl, rfl⟩ := hcs
      simp only [if_true] at hz
      have hcell0 := hcell 0 (by omega)
      obtain ⟨ab, ao, spot⟩ := a
      have hspot : spot = none := by simpa [Addr.add] using World.cell?_spot hcell0
      subst hspot
      refine ⟨ab, ao, rfl, fun j => if zs.getD j 0 < 0 ∨ 256 ≤ zs.getD j 0 then 0 else zs.getD j 0, fun j hj => ?_, fun j => ?_, fun j => ?_, ?_⟩
      · have hb := range_u8 hwz j
        simp only [List.getD_eq_getElem?_getD] at hb ⊢
        rw [if_neg (by omega), ← List.getD_eq_getElem?_getD]
        have := hcell j (by omega)
        rw [Addr.add_lit] at this
        exact this
      · split <;> omega
      · split <;> omega
      · exact World.block_lt_of_cell? W ⟨ab, ao + 0, none⟩ (by rw [Addr.add_lit] at hcell0; exact hcell0)
  obtain ⟨pb, po, rfl, P, hp⟩ := hP
  exact (LexBlanks_ok s pb po n cap P W hT hp hs hn hn5).mono fun e w' h => ⟨h.ret, h.below⟩
end Go.Proofs.YthighbbikpnpgaaDoor
