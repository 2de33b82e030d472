/-
  The law of parts: two strings that are joined, and parted again.
-/
import Derived.Test.YtneokkhnjnomdaaDoorPrP
import Derived.Deep.RegionHeld3
import Derived.Deep.DeepCutAuto
namespace Go.Proofs.YtneokkhnjnomdaaDoor
open Go.RowKit Go.Proofs.YtneokkhnjnomdaaDoorW.PrintWords Go.ChangeShapes Go.WideShapes Go.ChangeAt

set_option maxRecDepth 100000 in
set_option maxHeartbeats 8000000 in
theorem num_ex (n : Int) (w : World) : Calls Tryd.prog 18 #[.int .i64 n] w fun e w' => e = .returned (datV 1 n ⟨#[]⟩) ∧ w' = w.alloc (.cells #[.int .i64 1, .int .i64 n, .string ⟨#[]⟩, .slice none 0 0] 32) := by
  go_enter Tryd.func18, Tryd.ntmps18
  go_wp2_with fail
  go_returns
  exact ⟨rfl, rfl⟩

structure PtI (w : World) (g ba bb : Nat) (Y X : ByteArray) (n : Int) (wx : World) : Prop where
  new : DZ g 4 0 Y wx
  xa : DZ ba 4 0 X wx
  xb : DZ bb 1 n ⟨#[]⟩ wx
  below : Below w.heap.size w wx

structure PtJ (w : World) (g2 g bb : Nat) (Z Y : ByteArray) (n : Int) (wx : World) : Prop where
  new : DZ g2 4 0 Z wx
  old : DZ g 4 0 Y wx
  xb : DZ bb 1 n ⟨#[]⟩ wx
  below : Below w.heap.size w wx

theorem cut_front (a b : ByteArray) : (a ++ b).extract 0 a.size = a := by
  apply ByteArray.ext
  apply Array.ext'
  simp
  exact List.take_of_length_le (by simp)
theorem cut_back (a b : ByteArray) : (a ++ b).extract a.size (a.size + b.size) = b := by
  apply ByteArray.ext
  apply Array.ext'
  simp
  rw [List.drop_of_length_le (by simp), List.take_nil, List.nil_append, List.take_of_length_le (by simp)]

theorem args_at3 (d e f : Nd) (w : World) (b : Nat) (hb : b = w.heap.size) : ArgsAt [d, e, f] (.slice (some ⟨b, 0, none⟩) 3 3) (w.alloc (.cells #[.int .i64 d.k, .int .i64 d.n, .string d.t, .slice d.a d.m d.c, .int .i64 e.k, .int .i64 e.n, .string e.t, .slice e.a e.m e.c, .int .i64 f.k, .int .i64 f.n, .string f.t, .slice f.a f.m f.c] 32)) := by
  subst hb
  exact args_new3 d e f w
theorem blk_newN (w : World) (o : Obj) (g : Nat) (hg : g = w.heap.size) : (w.alloc o).heap[g]? = some o := by
  subst hg
  exact blk_new w o
theorem keep_al {w : World} {p : Addr} {v : Value} {o : Obj} (h : w.cell? p = some v) : (w.alloc o).cell? p = some v := (World.cell?_alloc_some w p o (by rw [h]; rfl)).trans h
theorem keep_dr {w : World} {p : Addr} {v : Value} (h : w.cell? p = some v) : w.drew.cell? p = some v := h
theorem keep_st {w : World} {p q : Addr} {v u : Value} (hne : q.block ≠ p.block) (h : w.cell? p = some v) : (w.setCell q u).cell? p = some v := (World.cell?_setCell_far w q p u hne).trans h

set_option maxRecDepth 100000 in
set_option maxHeartbeats 8000000 in
theorem parts_ok (a b : ByteArray) (hh : a.size + b.size ≤ 500) (w : World) (h : Laid18 w) : Calls Tryd.prog 4 #[.string a, .string b] w (Giv (.bool true) w) := by
  have HL := Lib.hid h
  have HB0 := Lib.hid (Below.refl w.heap.size w)
  clear h
  obtain ⟨X, hX⟩ : ∃ X, a ++ b = X := ⟨_, rfl⟩
  have hXs : X.size = a.size + b.size := by rw [← hX]; simp
  have cE := Lib.hid (fun v w hL hA => ev_app a b hh v w hL hA)
  have cF := Lib.hid (fun v w hL hA => ev_len X (by omega) v w hL hA)
  have cG := Lib.hid (fun v w hL hA => ev_cut X 0 a.size (by omega) (by omega) (by omega) v w hL hA)
  have cH := Lib.hid (fun v w hL hA => ev_cut X a.size X.size (by omega) (by omega) (by omega) v w hL hA)
  have hY : X.extract 0 a.size = a := by rw [← hX]; exact cut_front a b
  have hZ : X.extract a.size X.size = b := by rw [hXs, ← hX]; exact cut_back a b
  rw [hX] at cE
  rw [hY] at cG
  rw [hZ] at cH
  have a6 : decide ((600 : Int) < (a.size : Nat)) = false := decide_eq_false (by omega)
  have a6p : ¬ (600 : Int) < (a.size : Nat) := by omega
  have b6 : decide ((600 : Int) < (b.size : Nat)) = false := decide_eq_false (by omega)
  have b6p : ¬ (600 : Int) < (b.size : Nat) := by omega
  have a5 : decide ((500 : Int) < (a.size : Nat)) = false := decide_eq_false (by omega)
  have a5p : ¬ (500 : Int) < (a.size : Nat) := by omega
  have b5 : decide ((500 : Int) < (b.size : Nat)) = false := decide_eq_false (by omega)
  have b5p : ¬ (500 : Int) < (b.size : Nat) := by omega
  have HXS := Lib.hid hXs
  have HH := Lib.hid hh
  clear hX hY hZ hXs hh
  go_enter Tryd.func4, Tryd.ntmps4
  go_wp2_with fail
  refine (awake_18 _ (HL.out.later HB0.out)).mono ?_
  rintro e1 w1 ⟨rfl, hb1⟩
  have HB1 := Lib.hid (below_step HB0.out hb1)
  clear hb1
  go_wp2_with fail
  refine (lawstr_of a _).mono ?_
  rintro e2 w2 ⟨rfl, hb2⟩
  have HB2 := Lib.hid (below_step HB1.out hb2)
  clear hb2
  go_wp2_with fail
  refine (lawstr_of b _).mono ?_
  rintro e3 w3 ⟨rfl, hb3⟩
  have HB3 := Lib.hid (below_step HB2.out hb3)
  clear hb3
  go_wp2_with fail
  have hba : Below w.heap.size w (w3.alloc (.cells #[.int .i64 (strN a).k, .int .i64 (strN a).n, .string (strN a).t, .slice (strN a).a (strN a).m (strN a).c, .int .i64 (strN b).k, .int .i64 (strN b).n, .string (strN b).t, .slice (strN b).a (strN b).m (strN b).c] 32)) := below_alloc HB3.out _
  refine (cE.out _ _ (HL.out.later hba) (args_new2 ((strN a)) ((strN b)) w3)).mono ?_
  rintro e4 w4 ⟨rfl, hb4⟩
  have HB4 := Lib.hid (below_step hba hb4)
  clear hb4 hba
  have HDa := Lib.hid (blk_new w4 (.cells #[.int .i64 4, .int .i64 0, .string X, .slice none 0 0] 32 (0, 0)))
  have HB5 := Lib.hid (below_alloc HB4.out (.cells #[.int .i64 4, .int .i64 0, .string X, .slice none 0 0] 32))
  go_upto_region 4 with (fail)
  generalize w4.alloc (.cells #[.int .i64 4, .int .i64 0, .string X, .slice none 0 0] 32) = w5 at HDa HB5 ⊢
  generalize w4.heap.size = bDa at HDa ⊢
  have x0 : w5.cell? ⟨bDa, 0, none⟩ = some (.int .i64 4) := blk_cell HDa.out 0
  have x1 : w5.cell? ⟨bDa, 1, none⟩ = some (.int .i64 0) := blk_cell HDa.out 1
  have x2 : w5.cell? ⟨bDa, 2, none⟩ = some (.string X) := blk_cell HDa.out 2
  have x3 : w5.cell? ⟨bDa, 3, none⟩ = some (.slice none 0 0) := blk_cell HDa.out 3
  go_wp2_with fail
  have hba : Below w.heap.size w (w5.alloc (.cells #[.int .i64 (strN X).k, .int .i64 (strN X).n, .string (strN X).t, .slice (strN X).a (strN X).m (strN X).c] 32)) := below_alloc HB5.out _
  refine (cF.out _ _ (HL.out.later hba) (args_new1 ((strN X)) w5)).mono ?_
  rintro e6 w6 ⟨rfl, hb6⟩
  have HB6 := Lib.hid (below_step hba hb6)
  have HDa := Lib.hid (blk_below (blk_alloc HDa.out (.cells #[.int .i64 (strN X).k, .int .i64 (strN X).n, .string (strN X).t, .slice (strN X).a (strN X).m (strN X).c] 32)) hb6)
  clear hb6 hba
  clear x0 x1 x2 x3
  have HDb := Lib.hid (blk_new w6 (.cells #[.int .i64 1, .int .i64 (X.size : Nat), .string ⟨#[]⟩, .slice none 0 0] 32 (0, 0)))
  have HB7 := Lib.hid (below_alloc HB6.out (.cells #[.int .i64 1, .int .i64 (X.size : Nat), .string ⟨#[]⟩, .slice none 0 0] 32))
  have HDa := Lib.hid (blk_alloc HDa.out (.cells #[.int .i64 1, .int .i64 (X.size : Nat), .string ⟨#[]⟩, .slice none 0 0] 32))
  go_upto_region 9 with (fail)
  generalize w6.alloc (.cells #[.int .i64 1, .int .i64 (X.size : Nat), .string ⟨#[]⟩, .slice none 0 0] 32) = w7 at HDa HDb HB7 ⊢
  generalize w6.heap.size = bDb at HDb ⊢
  have la : bDa < w7.heap.size := blk_lt HDa.out
  have lb : bDb < w7.heap.size := blk_lt HDb.out
  have x0 : w7.cell? ⟨bDa, 0, none⟩ = some (.int .i64 4) := blk_cell HDa.out 0
  have x1 : w7.cell? ⟨bDa, 1, none⟩ = some (.int .i64 0) := blk_cell HDa.out 1
  have x2 : w7.cell? ⟨bDa, 2, none⟩ = some (.string X) := blk_cell HDa.out 2
  have x3 : w7.cell? ⟨bDa, 3, none⟩ = some (.slice none 0 0) := blk_cell HDa.out 3
  have ne0 : ¬ bDa = w7.heap.size := by omega
  have nf0 : ¬ w7.heap.size = bDa := by omega
  have ne1 : ¬ bDa = w7.heap.size + 1 := by omega
  have nf1 : ¬ w7.heap.size + 1 = bDa := by omega
  have ne2 : ¬ bDa = w7.heap.size + 2 := by omega
  have nf2 : ¬ w7.heap.size + 2 = bDa := by omega
  have ne3 : ¬ bDa = w7.heap.size + 3 := by omega
  have nf3 : ¬ w7.heap.size + 3 = bDa := by omega
  have ne4 : ¬ bDa = w7.heap.size + 4 := by omega
  have nf4 : ¬ w7.heap.size + 4 = bDa := by omega
  have cG2 := Lib.hid (fun v w' (hb : Below w7.heap.size w7 w') hA => cG.out v w' (HL.out.later (below_step HB7.out hb)) hA)
  go_cut [9, 10] (fun s9 s10 wx => ∃ g : Nat, s9 = .pointer (some ⟨g, 0, none⟩) ∧ s10 = .nilIface ∧ Hid (PtI w g bDa bDb a X (X.size : Nat) wx))
  case first =>
    go_region_held3 (fun w' => w'.cell? ⟨bDa, 0, none⟩ = some (.int .i64 4) ∧ w'.cell? ⟨bDa, 1, none⟩ = some (.int .i64 0) ∧ w'.cell? ⟨bDa, 2, none⟩ = some (.string X) ∧ w'.cell? ⟨bDa, 3, none⟩ = some (.slice none 0 0))
      ((repeat (first | (with_reducible assumption) | (with_reducible refine And.intro ?_ ?_) | (with_reducible refine keep_al ?_) | (with_reducible refine keep_dr ?_) | (with_reducible refine keep_st ?_ ?_) | (intro eqb; simp at eqb; omega))))
      (first
        | (go_at_call 18; refine (num_ex _ _).mono ?_; rintro e5 w5 ⟨rfl, rfl⟩)
        | (go_at_call 15; refine (cG2.out _ _ ?_ ?_).mono ?_; (repeat (first | exact Below.refl _ _ | exact below_drew (Below.refl _ _) | apply below_alloc | apply below_drew)); (first | exact args_at3 (strN X) (numN ((0 : Nat) : Int)) (numN (a.size : Nat)) _ _ (by simp) | exact (args_at3 (strN X) (numN ((0 : Nat) : Int)) (numN (a.size : Nat)) _ _ (by simp)).later (below_drew (Below.refl _ _)) | exact (args_at3 (strN X) (numN ((0 : Nat) : Int)) (numN (a.size : Nat)) _ _ (by simp)).later (below_drew (below_alloc (Below.refl _ _) _)) | exact (args_at3 (strN X) (numN ((0 : Nat) : Int)) (numN (a.size : Nat)) _ _ (by simp)).later (below_alloc (Below.refl _ _) _)); rintro e6 w6 ⟨rfl, hb6⟩; have u0 : w6.cell? ⟨bDa, 0, none⟩ = some (.int .i64 4) := (hb6.cell (p := ⟨bDa, 0, none⟩) (by simp; omega)).trans (by (repeat (first | (with_reducible assumption) | (with_reducible refine And.intro ?_ ?_) | (with_reducible refine keep_al ?_) | (with_reducible refine keep_dr ?_) | (with_reducible refine keep_st ?_ ?_) | (intro eqb; simp at eqb; omega)))); have u1 : w6.cell? ⟨bDa, 1, none⟩ = some (.int .i64 0) := (hb6.cell (p := ⟨bDa, 1, none⟩) (by simp; omega)).trans (by (repeat (first | (with_reducible assumption) | (with_reducible refine And.intro ?_ ?_) | (with_reducible refine keep_al ?_) | (with_reducible refine keep_dr ?_) | (with_reducible refine keep_st ?_ ?_) | (intro eqb; simp at eqb; omega)))); have u2 : w6.cell? ⟨bDa, 2, none⟩ = some (.string X) := (hb6.cell (p := ⟨bDa, 2, none⟩) (by simp; omega)).trans (by (repeat (first | (with_reducible assumption) | (with_reducible refine And.intro ?_ ?_) | (with_reducible refine keep_al ?_) | (with_reducible refine keep_dr ?_) | (with_reducible refine keep_st ?_ ?_) | (intro eqb; simp at eqb; omega)))); have u3 : w6.cell? ⟨bDa, 3, none⟩ = some (.slice none 0 0) := (hb6.cell (p := ⟨bDa, 3, none⟩) (by simp; omega)).trans (by (repeat (first | (with_reducible assumption) | (with_reducible refine And.intro ?_ ?_) | (with_reducible refine keep_al ?_) | (with_reducible refine keep_dr ?_) | (with_reducible refine keep_st ?_ ?_) | (intro eqb; simp at eqb; omega)))); (first | (have HZ6 : DZ (w7.heap.size) 0 0 ⟨#[]⟩ w6 := blk_below (blk_drew (blk_alloc (blk_alloc (blk_alloc (blk_newN _ (.cells #[.int .i64 0, .int .i64 0, .string ⟨#[]⟩, .slice none 0 0] 32) _ (by simp)) _) _) _)) hb6; have k0 := blk_cell HZ6 0; have k1 := blk_cell HZ6 1; have k2 := blk_cell HZ6 2; have k3 := blk_cell HZ6 3; have m0 := blk_frozen HZ6 0; have m1 := blk_frozen HZ6 1; have m2 := blk_frozen HZ6 2; have m3 := blk_frozen HZ6 3) | (have HZ6 : DZ (w7.heap.size + 1) 0 0 ⟨#[]⟩ w6 := blk_below (blk_drew (blk_alloc (blk_alloc (blk_newN _ (.cells #[.int .i64 0, .int .i64 0, .string ⟨#[]⟩, .slice none 0 0] 32) _ (by simp)) _) _)) hb6; have k0 := blk_cell HZ6 0; have k1 := blk_cell HZ6 1; have k2 := blk_cell HZ6 2; have k3 := blk_cell HZ6 3; have m0 := blk_frozen HZ6 0; have m1 := blk_frozen HZ6 1; have m2 := blk_frozen HZ6 2; have m3 := blk_frozen HZ6 3) | (have HZ6 : DZ (w7.heap.size + 1 + 1) 0 0 ⟨#[]⟩ w6 := blk_below (blk_drew (blk_alloc (blk_newN _ (.cells #[.int .i64 0, .int .i64 0, .string ⟨#[]⟩, .slice none 0 0] 32) _ (by simp)) _)) hb6; have k0 := blk_cell HZ6 0; have k1 := blk_cell HZ6 1; have k2 := blk_cell HZ6 2; have k3 := blk_cell HZ6 3; have m0 := blk_frozen HZ6 0; have m1 := blk_frozen HZ6 1; have m2 := blk_frozen HZ6 2; have m3 := blk_frozen HZ6 3) | (have HZ6 : DZ (w7.heap.size + 1 + 1 + 1) 0 0 ⟨#[]⟩ w6 := blk_below (blk_drew (blk_newN _ (.cells #[.int .i64 0, .int .i64 0, .string ⟨#[]⟩, .slice none 0 0] 32) _ (by simp))) hb6; have k0 := blk_cell HZ6 0; have k1 := blk_cell HZ6 1; have k2 := blk_cell HZ6 2; have k3 := blk_cell HZ6 3; have m0 := blk_frozen HZ6 0; have m1 := blk_frozen HZ6 1; have m2 := blk_frozen HZ6 2; have m3 := blk_frozen HZ6 3) | skip)))
    all_goals (have B6 : Below w7.heap.size w7 w6 := by refine below_step ?_ hb6; repeat (first | exact Below.refl _ _ | apply below_drew | apply below_alloc))
    all_goals have hws := HB7.out.size
    all_goals go_wp2_with fail
    all_goals go_meet
    all_goals first
      | exact ⟨_, rfl, rfl, Lib.hid ⟨blk_new w6 _, blk_alloc (blk_below HDa.out B6) _, blk_alloc (blk_below HDb.out B6) _, below_alloc (below_step HB7.out B6) _⟩⟩
      | exact ⟨_, rfl, rfl, Lib.hid ⟨dat_put HZ6 4 0 a, blk_far (blk_far (blk_far (blk_far (blk_below HDa.out B6) (fun e => by simp at e; omega) _) (fun e => by simp at e; omega) _) (fun e => by simp at e; omega) _) (fun e => by simp at e; omega) _, blk_far (blk_far (blk_far (blk_far (blk_below HDb.out B6) (fun e => by simp at e; omega) _) (fun e => by simp at e; omega) _) (fun e => by simp at e; omega) _) (fun e => by simp at e; omega) _, below_set (below_set (below_set (below_set (below_step HB7.out B6) (by omega)) (by omega)) (by omega)) (by omega)⟩⟩
  case rest =>
    obtain ⟨g, rfl, rfl, HQ⟩ := hcut
    have HN := Lib.hid HQ.out.new
    have HXA := Lib.hid HQ.out.xa
    have HXB := Lib.hid HQ.out.xb
    have HBc := Lib.hid HQ.out.below
    have cH2 := Lib.hid (fun v w' (hb : Below wc.heap.size wc w') hA => cH.out v w' (HL.out.later (below_step HBc.out hb)) hA)
    clear HQ cE cF cG cH
    have la : bDa < wc.heap.size := blk_lt HXA.out
    have lb : bDb < wc.heap.size := blk_lt HXB.out
    have lg : g < wc.heap.size := blk_lt HN.out
    have x0 : wc.cell? ⟨bDa, 0, none⟩ = some (.int .i64 4) := blk_cell HXA.out 0
    have x1 : wc.cell? ⟨bDa, 1, none⟩ = some (.int .i64 0) := blk_cell HXA.out 1
    have x2 : wc.cell? ⟨bDa, 2, none⟩ = some (.string X) := blk_cell HXA.out 2
    have x3 : wc.cell? ⟨bDa, 3, none⟩ = some (.slice none 0 0) := blk_cell HXA.out 3
    have y0 : wc.cell? ⟨bDb, 0, none⟩ = some (.int .i64 1) := blk_cell HXB.out 0
    have y1 : wc.cell? ⟨bDb, 1, none⟩ = some (.int .i64 (X.size : Nat)) := blk_cell HXB.out 1
    have y2 : wc.cell? ⟨bDb, 2, none⟩ = some (.string ⟨#[]⟩) := blk_cell HXB.out 2
    have y3 : wc.cell? ⟨bDb, 3, none⟩ = some (.slice none 0 0) := blk_cell HXB.out 3
    go_upto_region 10 with (fail)
    go_cut [11, 12] (fun s9 s10 wx => ∃ g2 : Nat, s9 = .pointer (some ⟨g2, 0, none⟩) ∧ s10 = .nilIface ∧ Hid (PtJ w g2 g bDb b a (X.size : Nat) wx))
    case first =>
      go_region_held3 (fun w' => w'.cell? ⟨bDa, 0, none⟩ = some (.int .i64 4) ∧ w'.cell? ⟨bDa, 1, none⟩ = some (.int .i64 0) ∧ w'.cell? ⟨bDa, 2, none⟩ = some (.string X) ∧ w'.cell? ⟨bDa, 3, none⟩ = some (.slice none 0 0) ∧ w'.cell? ⟨bDb, 0, none⟩ = some (.int .i64 1) ∧ w'.cell? ⟨bDb, 1, none⟩ = some (.int .i64 (X.size : Nat)) ∧ w'.cell? ⟨bDb, 2, none⟩ = some (.string ⟨#[]⟩) ∧ w'.cell? ⟨bDb, 3, none⟩ = some (.slice none 0 0))
        ((repeat (first | (with_reducible assumption) | (with_reducible refine And.intro ?_ ?_) | (with_reducible refine keep_al ?_) | (with_reducible refine keep_dr ?_) | (with_reducible refine keep_st ?_ ?_) | (intro eqb; simp at eqb; omega))))
        (first
          | (go_at_call 18; refine (num_ex _ _).mono ?_; rintro e5 w5 ⟨rfl, rfl⟩)
          | (go_at_call 15; refine (cH2.out _ _ ?_ ?_).mono ?_; (repeat (first | exact Below.refl _ _ | exact below_drew (Below.refl _ _) | apply below_alloc | apply below_drew)); (first | exact (args_at3 (strN X) (numN (a.size : Nat)) (numN (X.size : Nat)) _ _ (by simp)) | exact (args_at3 (strN X) (numN (a.size : Nat)) (numN (X.size : Nat)) _ _ (by simp)).later (below_drew (Below.refl _ _)) | exact (args_at3 (strN X) (numN (a.size : Nat)) (numN (X.size : Nat)) _ _ (by simp)).later (below_drew (below_alloc (Below.refl _ _) _)) | exact (args_at3 (strN X) (numN (a.size : Nat)) (numN (X.size : Nat)) _ _ (by simp)).later (below_alloc (Below.refl _ _) _)); rintro e6 w6 ⟨rfl, hb6⟩; have u0 : w6.cell? ⟨bDa, 0, none⟩ = some (.int .i64 4) := (hb6.cell (p := ⟨bDa, 0, none⟩) (by simp; omega)).trans (by (repeat (first | (with_reducible assumption) | (with_reducible refine And.intro ?_ ?_) | (with_reducible refine keep_al ?_) | (with_reducible refine keep_dr ?_) | (with_reducible refine keep_st ?_ ?_) | (intro eqb; simp at eqb; omega)))); have u1 : w6.cell? ⟨bDa, 1, none⟩ = some (.int .i64 0) := (hb6.cell (p := ⟨bDa, 1, none⟩) (by simp; omega)).trans (by (repeat (first | (with_reducible assumption) | (with_reducible refine And.intro ?_ ?_) | (with_reducible refine keep_al ?_) | (with_reducible refine keep_dr ?_) | (with_reducible refine keep_st ?_ ?_) | (intro eqb; simp at eqb; omega)))); have u2 : w6.cell? ⟨bDa, 2, none⟩ = some (.string X) := (hb6.cell (p := ⟨bDa, 2, none⟩) (by simp; omega)).trans (by (repeat (first | (with_reducible assumption) | (with_reducible refine And.intro ?_ ?_) | (with_reducible refine keep_al ?_) | (with_reducible refine keep_dr ?_) | (with_reducible refine keep_st ?_ ?_) | (intro eqb; simp at eqb; omega)))); have u3 : w6.cell? ⟨bDa, 3, none⟩ = some (.slice none 0 0) := (hb6.cell (p := ⟨bDa, 3, none⟩) (by simp; omega)).trans (by (repeat (first | (with_reducible assumption) | (with_reducible refine And.intro ?_ ?_) | (with_reducible refine keep_al ?_) | (with_reducible refine keep_dr ?_) | (with_reducible refine keep_st ?_ ?_) | (intro eqb; simp at eqb; omega)))); have u4 : w6.cell? ⟨bDb, 0, none⟩ = some (.int .i64 1) := (hb6.cell (p := ⟨bDb, 0, none⟩) (by simp; omega)).trans (by (repeat (first | (with_reducible assumption) | (with_reducible refine And.intro ?_ ?_) | (with_reducible refine keep_al ?_) | (with_reducible refine keep_dr ?_) | (with_reducible refine keep_st ?_ ?_) | (intro eqb; simp at eqb; omega)))); have u5 : w6.cell? ⟨bDb, 1, none⟩ = some (.int .i64 (X.size : Nat)) := (hb6.cell (p := ⟨bDb, 1, none⟩) (by simp; omega)).trans (by (repeat (first | (with_reducible assumption) | (with_reducible refine And.intro ?_ ?_) | (with_reducible refine keep_al ?_) | (with_reducible refine keep_dr ?_) | (with_reducible refine keep_st ?_ ?_) | (intro eqb; simp at eqb; omega)))); have u6 : w6.cell? ⟨bDb, 2, none⟩ = some (.string ⟨#[]⟩) := (hb6.cell (p := ⟨bDb, 2, none⟩) (by simp; omega)).trans (by (repeat (first | (with_reducible assumption) | (with_reducible refine And.intro ?_ ?_) | (with_reducible refine keep_al ?_) | (with_reducible refine keep_dr ?_) | (with_reducible refine keep_st ?_ ?_) | (intro eqb; simp at eqb; omega)))); have u7 : w6.cell? ⟨bDb, 3, none⟩ = some (.slice none 0 0) := (hb6.cell (p := ⟨bDb, 3, none⟩) (by simp; omega)).trans (by (repeat (first | (with_reducible assumption) | (with_reducible refine And.intro ?_ ?_) | (with_reducible refine keep_al ?_) | (with_reducible refine keep_dr ?_) | (with_reducible refine keep_st ?_ ?_) | (intro eqb; simp at eqb; omega)))); (first | (have HZ6 : DZ (wc.heap.size) 0 0 ⟨#[]⟩ w6 := blk_below (blk_drew (blk_alloc (blk_alloc (blk_newN _ (.cells #[.int .i64 0, .int .i64 0, .string ⟨#[]⟩, .slice none 0 0] 32) _ (by simp)) _) _)) hb6; have k0 := blk_cell HZ6 0; have k1 := blk_cell HZ6 1; have k2 := blk_cell HZ6 2; have k3 := blk_cell HZ6 3; have m0 := blk_frozen HZ6 0; have m1 := blk_frozen HZ6 1; have m2 := blk_frozen HZ6 2; have m3 := blk_frozen HZ6 3) | (have HZ6 : DZ (wc.heap.size + 1) 0 0 ⟨#[]⟩ w6 := blk_below (blk_drew (blk_alloc (blk_newN _ (.cells #[.int .i64 0, .int .i64 0, .string ⟨#[]⟩, .slice none 0 0] 32) _ (by simp)) _)) hb6; have k0 := blk_cell HZ6 0; have k1 := blk_cell HZ6 1; have k2 := blk_cell HZ6 2; have k3 := blk_cell HZ6 3; have m0 := blk_frozen HZ6 0; have m1 := blk_frozen HZ6 1; have m2 := blk_frozen HZ6 2; have m3 := blk_frozen HZ6 3) | (have HZ6 : DZ (wc.heap.size + 1 + 1) 0 0 ⟨#[]⟩ w6 := blk_below (blk_drew (blk_newN _ (.cells #[.int .i64 0, .int .i64 0, .string ⟨#[]⟩, .slice none 0 0] 32) _ (by simp))) hb6; have k0 := blk_cell HZ6 0; have k1 := blk_cell HZ6 1; have k2 := blk_cell HZ6 2; have k3 := blk_cell HZ6 3; have m0 := blk_frozen HZ6 0; have m1 := blk_frozen HZ6 1; have m2 := blk_frozen HZ6 2; have m3 := blk_frozen HZ6 3) | skip)))
      all_goals (have B6 : Below wc.heap.size wc w6 := by refine below_step ?_ hb6; repeat (first | exact Below.refl _ _ | apply below_drew | apply below_alloc))
      all_goals have hws := HBc.out.size
      all_goals go_wp2_with fail
      all_goals go_meet
      all_goals first
        | exact ⟨_, rfl, rfl, Lib.hid ⟨blk_new w6 _, blk_alloc (blk_below HN.out B6) _, blk_alloc (blk_below HXB.out B6) _, below_alloc (below_step HBc.out B6) _⟩⟩
        | exact ⟨_, rfl, rfl, Lib.hid ⟨dat_put HZ6 4 0 b, blk_far (blk_far (blk_far (blk_far (blk_below HN.out B6) (fun e => by simp at e; omega) _) (fun e => by simp at e; omega) _) (fun e => by simp at e; omega) _) (fun e => by simp at e; omega) _, blk_far (blk_far (blk_far (blk_far (blk_below HXB.out B6) (fun e => by simp at e; omega) _) (fun e => by simp at e; omega) _) (fun e => by simp at e; omega) _) (fun e => by simp at e; omega) _, below_set (below_set (below_set (below_set (below_step HBc.out B6) (by omega)) (by omega)) (by omega)) (by omega)⟩⟩
    case rest =>
      obtain ⟨g2, rfl, rfl, HQ2⟩ := hcut
      have z0 := blk_cell HQ2.out.xb 1
      have z1 := blk_cell HQ2.out.old 2
      have z2 := blk_cell HQ2.out.new 2
      have HW2 := Lib.hid HQ2.out.below
      have hx := HXS.out
      have hx2 : ((X.size : Nat) : Int) = (a.size : Nat) + (b.size : Nat) := by omega
      have hx3 : (((X.size : Nat) : Int) == (a.size : Nat) + (b.size : Nat)) = true := by simp [hx2]
      clear HQ2 HN HXA HXB HBc la lb lg
      go_wp2_with fail
      go_ret
      exact ⟨rfl, HW2.out⟩
end Go.Proofs.YtneokkhnjnomdaaDoor
