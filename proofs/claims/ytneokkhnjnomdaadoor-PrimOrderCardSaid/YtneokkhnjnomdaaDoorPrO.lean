/-
  The law of order.
-/
import Derived.Test.YtneokkhnjnomdaaDoorPrI
namespace Go.Proofs.YtneokkhnjnomdaaDoor
open Go.RowKit Go.Proofs.YtneokkhnjnomdaaDoorW.PrintWords Go.ChangeShapes Go.WideShapes Go.ChangeAt

theorem i64_in {n : Int} (h : (Lit.int .i64 n).wf = true) : i64 n := by
  simp only [Lit.wf, Bool.and_eq_true, decide_eq_true_eq] at h
  exact h

theorem ev_less (a b : Int) (ha : i64 a) (hb : i64 b) (hpl : Num a = true ∧ Num b = true) (N : Int) (hN : (if decide (a < b) = true then 1 else 0) = N) (v : Value) (w : World) (hL : Laid18 w) (hA : ArgsAt [numN a, numN b] v w) :
    Calls Tryd.prog 15 #[.int .i64 8, v] w (Giv (.tuple #[datV 2 N ⟨#[]⟩, .nilIface]) w) :=
  ev_num2 8 (by decide) (by decide) a b ha hb hpl v w hL hA 2 N ⟨#[]⟩ (fun w' => by subst hN; exact math_8 a b w')
theorem ev_same (a b : Int) (ha : i64 a) (hb : i64 b) (hpl : Num a = true ∧ Num b = true) (N : Int) (hN : (if (a == b) = true then 1 else 0) = N) (v : Value) (w : World) (hL : Laid18 w) (hA : ArgsAt [numN a, numN b] v w) :
    Calls Tryd.prog 15 #[.int .i64 7, v] w (Giv (.tuple #[datV 2 N ⟨#[]⟩, .nilIface]) w) :=
  ev_num2 7 (by decide) (by decide) a b ha hb hpl v w hL hA 2 N ⟨#[]⟩ (fun w' => by subst hN; exact math_7 a b w')

set_option maxRecDepth 100000 in
set_option maxHeartbeats 8000000 in
theorem order_lt (a b : Int) (ha : i64 a) (hb : i64 b) (hpl : Num a = true ∧ Num b = true) (hab : a < b) (w : World) (h : Laid18 w) : Calls Tryd.prog 5 #[.int .i64 a, .int .i64 b] w (Giv (.bool true) w) := by
  have f1 : decide (a < b) = true := decide_eq_true (by omega)
  have f2 : (a == b) = false := beq_eq_false_iff_ne.2 (by omega)
  have f3 : decide (b < a) = false := decide_eq_false (by omega)
  have HL := Lib.hid h
  have HB0 := Lib.hid (Below.refl w.heap.size w)
  have HX := Lib.hid (fun v w hL hA => ev_less a b ha hb hpl 1 (by rw [f1]; rfl) v w hL hA)
  have HY := Lib.hid (fun v w hL hA => ev_same a b ha hb hpl 0 (by rw [f2]; rfl) v w hL hA)
  have HZ := Lib.hid (fun v w hL hA => ev_less b a hb ha ⟨hpl.2, hpl.1⟩ 0 (by rw [f3]; rfl) v w hL hA)
  clear h ha hb hpl
  clear hab
  go_enter Tryd.func5, Tryd.ntmps5
  go_wp2_with fail
  refine (num_of a _).mono ?_
  rintro e1 w1 ⟨rfl, hb1⟩
  have HB1 := Lib.hid (below_step HB0.out hb1)
  clear hb1
  go_wp2_with fail
  refine (num_of b _).mono ?_
  rintro e2 w2 ⟨rfl, hb2⟩
  have HB2 := Lib.hid (below_step HB1.out hb2)
  clear hb2
  go_wp2_with fail
  have hba : Below w.heap.size w (w2.alloc (.cells #[.int .i64 (numN a).k, .int .i64 (numN a).n, .string (numN a).t, .slice (numN a).a (numN a).m (numN a).c, .int .i64 (numN b).k, .int .i64 (numN b).n, .string (numN b).t, .slice (numN b).a (numN b).m (numN b).c] 32)) := below_alloc HB2.out _
  refine (HX.out _ _ (HL.out.later hba) (args_new2 ((numN a)) ((numN b)) w2)).mono ?_
  rintro e3 w3 ⟨rfl, hb3⟩
  have HB3 := Lib.hid (below_step hba hb3)
  clear hb3 hba
  have HDa := Lib.hid (blk_new w3 (.cells #[.int .i64 2, .int .i64 1, .string ⟨#[]⟩, .slice none 0 0] 32 (0, 0)))
  have HB4 := Lib.hid (below_alloc HB3.out (.cells #[.int .i64 2, .int .i64 1, .string ⟨#[]⟩, .slice none 0 0] 32))
  go_upto_region 2 with (fail)
  generalize w3.alloc (.cells #[.int .i64 2, .int .i64 1, .string ⟨#[]⟩, .slice none 0 0] 32) = w4 at HDa HB4 ⊢
  generalize w3.heap.size = bDa at HDa ⊢
  go_wp2_with fail
  refine (num_of a _).mono ?_
  rintro e5 w5 ⟨rfl, hb5⟩
  have HB5 := Lib.hid (below_step HB4.out hb5)
  have HDa := Lib.hid (blk_below HDa.out hb5)
  clear hb5
  go_wp2_with fail
  refine (num_of b _).mono ?_
  rintro e6 w6 ⟨rfl, hb6⟩
  have HB6 := Lib.hid (below_step HB5.out hb6)
  have HDa := Lib.hid (blk_below HDa.out hb6)
  clear hb6
  go_wp2_with fail
  have hba : Below w.heap.size w (w6.alloc (.cells #[.int .i64 (numN a).k, .int .i64 (numN a).n, .string (numN a).t, .slice (numN a).a (numN a).m (numN a).c, .int .i64 (numN b).k, .int .i64 (numN b).n, .string (numN b).t, .slice (numN b).a (numN b).m (numN b).c] 32)) := below_alloc HB6.out _
  refine (HY.out _ _ (HL.out.later hba) (args_new2 ((numN a)) ((numN b)) w6)).mono ?_
  rintro e7 w7 ⟨rfl, hb7⟩
  have HB7 := Lib.hid (below_step hba hb7)
  have HDa := Lib.hid (blk_below (blk_alloc HDa.out (.cells #[.int .i64 (numN a).k, .int .i64 (numN a).n, .string (numN a).t, .slice (numN a).a (numN a).m (numN a).c, .int .i64 (numN b).k, .int .i64 (numN b).n, .string (numN b).t, .slice (numN b).a (numN b).m (numN b).c] 32)) hb7)
  clear hb7 hba
  have HDb := Lib.hid (blk_new w7 (.cells #[.int .i64 2, .int .i64 0, .string ⟨#[]⟩, .slice none 0 0] 32 (0, 0)))
  have HB8 := Lib.hid (below_alloc HB7.out (.cells #[.int .i64 2, .int .i64 0, .string ⟨#[]⟩, .slice none 0 0] 32))
  have HDa := Lib.hid (blk_alloc HDa.out (.cells #[.int .i64 2, .int .i64 0, .string ⟨#[]⟩, .slice none 0 0] 32))
  go_upto_region 3 with (fail)
  generalize w7.alloc (.cells #[.int .i64 2, .int .i64 0, .string ⟨#[]⟩, .slice none 0 0] 32) = w8 at HDa HDb HB8 ⊢
  generalize w7.heap.size = bDb at HDb ⊢
  go_wp2_with fail
  refine (num_of b _).mono ?_
  rintro e9 w9 ⟨rfl, hb9⟩
  have HB9 := Lib.hid (below_step HB8.out hb9)
  have HDa := Lib.hid (blk_below HDa.out hb9)
  have HDb := Lib.hid (blk_below HDb.out hb9)
  clear hb9
  go_wp2_with fail
  refine (num_of a _).mono ?_
  rintro e10 w10 ⟨rfl, hb10⟩
  have HB10 := Lib.hid (below_step HB9.out hb10)
  have HDa := Lib.hid (blk_below HDa.out hb10)
  have HDb := Lib.hid (blk_below HDb.out hb10)
  clear hb10
  go_wp2_with fail
  have hba : Below w.heap.size w (w10.alloc (.cells #[.int .i64 (numN b).k, .int .i64 (numN b).n, .string (numN b).t, .slice (numN b).a (numN b).m (numN b).c, .int .i64 (numN a).k, .int .i64 (numN a).n, .string (numN a).t, .slice (numN a).a (numN a).m (numN a).c] 32)) := below_alloc HB10.out _
  refine (HZ.out _ _ (HL.out.later hba) (args_new2 ((numN b)) ((numN a)) w10)).mono ?_
  rintro e11 w11 ⟨rfl, hb11⟩
  have HB11 := Lib.hid (below_step hba hb11)
  have HDa := Lib.hid (blk_below (blk_alloc HDa.out (.cells #[.int .i64 (numN b).k, .int .i64 (numN b).n, .string (numN b).t, .slice (numN b).a (numN b).m (numN b).c, .int .i64 (numN a).k, .int .i64 (numN a).n, .string (numN a).t, .slice (numN a).a (numN a).m (numN a).c] 32)) hb11)
  have HDb := Lib.hid (blk_below (blk_alloc HDb.out (.cells #[.int .i64 (numN b).k, .int .i64 (numN b).n, .string (numN b).t, .slice (numN b).a (numN b).m (numN b).c, .int .i64 (numN a).k, .int .i64 (numN a).n, .string (numN a).t, .slice (numN a).a (numN a).m (numN a).c] 32)) hb11)
  clear hb11 hba
  have HDc := Lib.hid (blk_new w11 (.cells #[.int .i64 2, .int .i64 0, .string ⟨#[]⟩, .slice none 0 0] 32 (0, 0)))
  have HB12 := Lib.hid (below_alloc HB11.out (.cells #[.int .i64 2, .int .i64 0, .string ⟨#[]⟩, .slice none 0 0] 32))
  have HDa := Lib.hid (blk_alloc HDa.out (.cells #[.int .i64 2, .int .i64 0, .string ⟨#[]⟩, .slice none 0 0] 32))
  have HDb := Lib.hid (blk_alloc HDb.out (.cells #[.int .i64 2, .int .i64 0, .string ⟨#[]⟩, .slice none 0 0] 32))
  go_upto_region 4 with (fail)
  generalize w11.alloc (.cells #[.int .i64 2, .int .i64 0, .string ⟨#[]⟩, .slice none 0 0] 32) = w12 at HDa HDb HDc HB12 ⊢
  generalize w11.heap.size = bDc at HDc ⊢
  go_wp2_with fail
  refine (awake_18 _ (HL.out.later HB12.out)).mono ?_
  rintro e13 w13 ⟨rfl, hb13⟩
  have HB13 := Lib.hid (below_step HB12.out hb13)
  have HDa := Lib.hid (blk_below HDa.out hb13)
  have HDb := Lib.hid (blk_below HDb.out hb13)
  have HDc := Lib.hid (blk_below HDc.out hb13)
  clear hb13
  have a1 : w13.cell? ⟨bDa, 1, none⟩ = some (.int .i64 1) := blk_cell HDa.out 1
  have a2 : w13.cell? ⟨bDb, 1, none⟩ = some (.int .i64 0) := blk_cell HDb.out 1
  have a3 : w13.cell? ⟨bDc, 1, none⟩ = some (.int .i64 0) := blk_cell HDc.out 1
  go_wp2_with fail
  go_ret
  exact ⟨rfl, HB13.out⟩
set_option maxRecDepth 100000 in
set_option maxHeartbeats 8000000 in
theorem order_eq (a b : Int) (ha : i64 a) (hb : i64 b) (hpl : Num a = true ∧ Num b = true) (hab : a = b) (w : World) (h : Laid18 w) : Calls Tryd.prog 5 #[.int .i64 a, .int .i64 b] w (Giv (.bool true) w) := by
  subst hab
  have f1 : decide (a < a) = false := decide_eq_false (by omega)
  have f2 : (a == a) = true := by simp
  have f3 : decide (a < a) = false := decide_eq_false (by omega)
  have HL := Lib.hid h
  have HB0 := Lib.hid (Below.refl w.heap.size w)
  have HX := Lib.hid (fun v w hL hA => ev_less a a ha hb hpl 0 (by rw [f1]; rfl) v w hL hA)
  have HY := Lib.hid (fun v w hL hA => ev_same a a ha hb hpl 1 (by rw [f2]; rfl) v w hL hA)
  have HZ := Lib.hid (fun v w hL hA => ev_less a a hb ha ⟨hpl.2, hpl.1⟩ 0 (by rw [f3]; rfl) v w hL hA)
  clear h ha hb hpl
  go_enter Tryd.func5, Tryd.ntmps5
  go_wp2_with fail
  refine (num_of a _).mono ?_
  rintro e1 w1 ⟨rfl, hb1⟩
  have HB1 := Lib.hid (below_step HB0.out hb1)
  clear hb1
  go_wp2_with fail
  refine (num_of a _).mono ?_
  rintro e2 w2 ⟨rfl, hb2⟩
  have HB2 := Lib.hid (below_step HB1.out hb2)
  clear hb2
  go_wp2_with fail
  have hba : Below w.heap.size w (w2.alloc (.cells #[.int .i64 (numN a).k, .int .i64 (numN a).n, .string (numN a).t, .slice (numN a).a (numN a).m (numN a).c, .int .i64 (numN a).k, .int .i64 (numN a).n, .string (numN a).t, .slice (numN a).a (numN a).m (numN a).c] 32)) := below_alloc HB2.out _
  refine (HX.out _ _ (HL.out.later hba) (args_new2 ((numN a)) ((numN a)) w2)).mono ?_
  rintro e3 w3 ⟨rfl, hb3⟩
  have HB3 := Lib.hid (below_step hba hb3)
  clear hb3 hba
  have HDa := Lib.hid (blk_new w3 (.cells #[.int .i64 2, .int .i64 0, .string ⟨#[]⟩, .slice none 0 0] 32 (0, 0)))
  have HB4 := Lib.hid (below_alloc HB3.out (.cells #[.int .i64 2, .int .i64 0, .string ⟨#[]⟩, .slice none 0 0] 32))
  go_upto_region 2 with (fail)
  generalize w3.alloc (.cells #[.int .i64 2, .int .i64 0, .string ⟨#[]⟩, .slice none 0 0] 32) = w4 at HDa HB4 ⊢
  generalize w3.heap.size = bDa at HDa ⊢
  go_wp2_with fail
  refine (num_of a _).mono ?_
  rintro e5 w5 ⟨rfl, hb5⟩
  have HB5 := Lib.hid (below_step HB4.out hb5)
  have HDa := Lib.hid (blk_below HDa.out hb5)
  clear hb5
  go_wp2_with fail
  refine (num_of a _).mono ?_
  rintro e6 w6 ⟨rfl, hb6⟩
  have HB6 := Lib.hid (below_step HB5.out hb6)
  have HDa := Lib.hid (blk_below HDa.out hb6)
  clear hb6
  go_wp2_with fail
  have hba : Below w.heap.size w (w6.alloc (.cells #[.int .i64 (numN a).k, .int .i64 (numN a).n, .string (numN a).t, .slice (numN a).a (numN a).m (numN a).c, .int .i64 (numN a).k, .int .i64 (numN a).n, .string (numN a).t, .slice (numN a).a (numN a).m (numN a).c] 32)) := below_alloc HB6.out _
  refine (HY.out _ _ (HL.out.later hba) (args_new2 ((numN a)) ((numN a)) w6)).mono ?_
  rintro e7 w7 ⟨rfl, hb7⟩
  have HB7 := Lib.hid (below_step hba hb7)
  have HDa := Lib.hid (blk_below (blk_alloc HDa.out (.cells #[.int .i64 (numN a).k, .int .i64 (numN a).n, .string (numN a).t, .slice (numN a).a (numN a).m (numN a).c, .int .i64 (numN a).k, .int .i64 (numN a).n, .string (numN a).t, .slice (numN a).a (numN a).m (numN a).c] 32)) hb7)
  clear hb7 hba
  have HDb := Lib.hid (blk_new w7 (.cells #[.int .i64 2, .int .i64 1, .string ⟨#[]⟩, .slice none 0 0] 32 (0, 0)))
  have HB8 := Lib.hid (below_alloc HB7.out (.cells #[.int .i64 2, .int .i64 1, .string ⟨#[]⟩, .slice none 0 0] 32))
  have HDa := Lib.hid (blk_alloc HDa.out (.cells #[.int .i64 2, .int .i64 1, .string ⟨#[]⟩, .slice none 0 0] 32))
  go_upto_region 3 with (fail)
  generalize w7.alloc (.cells #[.int .i64 2, .int .i64 1, .string ⟨#[]⟩, .slice none 0 0] 32) = w8 at HDa HDb HB8 ⊢
  generalize w7.heap.size = bDb at HDb ⊢
  go_wp2_with fail
  refine (num_of a _).mono ?_
  rintro e9 w9 ⟨rfl, hb9⟩
  have HB9 := Lib.hid (below_step HB8.out hb9)
  have HDa := Lib.hid (blk_below HDa.out hb9)
  have HDb := Lib.hid (blk_below HDb.out hb9)
  clear hb9
  go_wp2_with fail
  refine (num_of a _).mono ?_
  rintro e10 w10 ⟨rfl, hb10⟩
  have HB10 := Lib.hid (below_step HB9.out hb10)
  have HDa := Lib.hid (blk_below HDa.out hb10)
  have HDb := Lib.hid (blk_below HDb.out hb10)
  clear hb10
  go_wp2_with fail
  have hba : Below w.heap.size w (w10.alloc (.cells #[.int .i64 (numN a).k, .int .i64 (numN a).n, .string (numN a).t, .slice (numN a).a (numN a).m (numN a).c, .int .i64 (numN a).k, .int .i64 (numN a).n, .string (numN a).t, .slice (numN a).a (numN a).m (numN a).c] 32)) := below_alloc HB10.out _
  refine (HZ.out _ _ (HL.out.later hba) (args_new2 ((numN a)) ((numN a)) w10)).mono ?_
  rintro e11 w11 ⟨rfl, hb11⟩
  have HB11 := Lib.hid (below_step hba hb11)
  have HDa := Lib.hid (blk_below (blk_alloc HDa.out (.cells #[.int .i64 (numN a).k, .int .i64 (numN a).n, .string (numN a).t, .slice (numN a).a (numN a).m (numN a).c, .int .i64 (numN a).k, .int .i64 (numN a).n, .string (numN a).t, .slice (numN a).a (numN a).m (numN a).c] 32)) hb11)
  have HDb := Lib.hid (blk_below (blk_alloc HDb.out (.cells #[.int .i64 (numN a).k, .int .i64 (numN a).n, .string (numN a).t, .slice (numN a).a (numN a).m (numN a).c, .int .i64 (numN a).k, .int .i64 (numN a).n, .string (numN a).t, .slice (numN a).a (numN a).m (numN a).c] 32)) hb11)
  clear hb11 hba
  have HDc := Lib.hid (blk_new w11 (.cells #[.int .i64 2, .int .i64 0, .string ⟨#[]⟩, .slice none 0 0] 32 (0, 0)))
  have HB12 := Lib.hid (below_alloc HB11.out (.cells #[.int .i64 2, .int .i64 0, .string ⟨#[]⟩, .slice none 0 0] 32))
  have HDa := Lib.hid (blk_alloc HDa.out (.cells #[.int .i64 2, .int .i64 0, .string ⟨#[]⟩, .slice none 0 0] 32))
  have HDb := Lib.hid (blk_alloc HDb.out (.cells #[.int .i64 2, .int .i64 0, .string ⟨#[]⟩, .slice none 0 0] 32))
  go_upto_region 4 with (fail)
  generalize w11.alloc (.cells #[.int .i64 2, .int .i64 0, .string ⟨#[]⟩, .slice none 0 0] 32) = w12 at HDa HDb HDc HB12 ⊢
  generalize w11.heap.size = bDc at HDc ⊢
  go_wp2_with fail
  refine (awake_18 _ (HL.out.later HB12.out)).mono ?_
  rintro e13 w13 ⟨rfl, hb13⟩
  have HB13 := Lib.hid (below_step HB12.out hb13)
  have HDa := Lib.hid (blk_below HDa.out hb13)
  have HDb := Lib.hid (blk_below HDb.out hb13)
  have HDc := Lib.hid (blk_below HDc.out hb13)
  clear hb13
  have a1 : w13.cell? ⟨bDa, 1, none⟩ = some (.int .i64 0) := blk_cell HDa.out 1
  have a2 : w13.cell? ⟨bDb, 1, none⟩ = some (.int .i64 1) := blk_cell HDb.out 1
  have a3 : w13.cell? ⟨bDc, 1, none⟩ = some (.int .i64 0) := blk_cell HDc.out 1
  go_wp2_with fail
  go_ret
  exact ⟨rfl, HB13.out⟩
set_option maxRecDepth 100000 in
set_option maxHeartbeats 8000000 in
theorem order_gt (a b : Int) (ha : i64 a) (hb : i64 b) (hpl : Num a = true ∧ Num b = true) (hab : b < a) (w : World) (h : Laid18 w) : Calls Tryd.prog 5 #[.int .i64 a, .int .i64 b] w (Giv (.bool true) w) := by
  have f1 : decide (a < b) = false := decide_eq_false (by omega)
  have f2 : (a == b) = false := beq_eq_false_iff_ne.2 (by omega)
  have f3 : decide (b < a) = true := decide_eq_true (by omega)
  have HL := Lib.hid h
  have HB0 := Lib.hid (Below.refl w.heap.size w)
  have HX := Lib.hid (fun v w hL hA => ev_less a b ha hb hpl 0 (by rw [f1]; rfl) v w hL hA)
  have HY := Lib.hid (fun v w hL hA => ev_same a b ha hb hpl 0 (by rw [f2]; rfl) v w hL hA)
  have HZ := Lib.hid (fun v w hL hA => ev_less b a hb ha ⟨hpl.2, hpl.1⟩ 1 (by rw [f3]; rfl) v w hL hA)
  clear h ha hb hpl
  clear hab
  go_enter Tryd.func5, Tryd.ntmps5
  go_wp2_with fail
  refine (num_of a _).mono ?_
  rintro e1 w1 ⟨rfl, hb1⟩
  have HB1 := Lib.hid (below_step HB0.out hb1)
  clear hb1
  go_wp2_with fail
  refine (num_of b _).mono ?_
  rintro e2 w2 ⟨rfl, hb2⟩
  have HB2 := Lib.hid (below_step HB1.out hb2)
  clear hb2
  go_wp2_with fail
  have hba : Below w.heap.size w (w2.alloc (.cells #[.int .i64 (numN a).k, .int .i64 (numN a).n, .string (numN a).t, .slice (numN a).a (numN a).m (numN a).c, .int .i64 (numN b).k, .int .i64 (numN b).n, .string (numN b).t, .slice (numN b).a (numN b).m (numN b).c] 32)) := below_alloc HB2.out _
  refine (HX.out _ _ (HL.out.later hba) (args_new2 ((numN a)) ((numN b)) w2)).mono ?_
  rintro e3 w3 ⟨rfl, hb3⟩
  have HB3 := Lib.hid (below_step hba hb3)
  clear hb3 hba
  have HDa := Lib.hid (blk_new w3 (.cells #[.int .i64 2, .int .i64 0, .string ⟨#[]⟩, .slice none 0 0] 32 (0, 0)))
  have HB4 := Lib.hid (below_alloc HB3.out (.cells #[.int .i64 2, .int .i64 0, .string ⟨#[]⟩, .slice none 0 0] 32))
  go_upto_region 2 with (fail)
  generalize w3.alloc (.cells #[.int .i64 2, .int .i64 0, .string ⟨#[]⟩, .slice none 0 0] 32) = w4 at HDa HB4 ⊢
  generalize w3.heap.size = bDa at HDa ⊢
  go_wp2_with fail
  refine (num_of a _).mono ?_
  rintro e5 w5 ⟨rfl, hb5⟩
  have HB5 := Lib.hid (below_step HB4.out hb5)
  have HDa := Lib.hid (blk_below HDa.out hb5)
  clear hb5
  go_wp2_with fail
  refine (num_of b _).mono ?_
  rintro e6 w6 ⟨rfl, hb6⟩
  have HB6 := Lib.hid (below_step HB5.out hb6)
  have HDa := Lib.hid (blk_below HDa.out hb6)
  clear hb6
  go_wp2_with fail
  have hba : Below w.heap.size w (w6.alloc (.cells #[.int .i64 (numN a).k, .int .i64 (numN a).n, .string (numN a).t, .slice (numN a).a (numN a).m (numN a).c, .int .i64 (numN b).k, .int .i64 (numN b).n, .string (numN b).t, .slice (numN b).a (numN b).m (numN b).c] 32)) := below_alloc HB6.out _
  refine (HY.out _ _ (HL.out.later hba) (args_new2 ((numN a)) ((numN b)) w6)).mono ?_
  rintro e7 w7 ⟨rfl, hb7⟩
  have HB7 := Lib.hid (below_step hba hb7)
  have HDa := Lib.hid (blk_below (blk_alloc HDa.out (.cells #[.int .i64 (numN a).k, .int .i64 (numN a).n, .string (numN a).t, .slice (numN a).a (numN a).m (numN a).c, .int .i64 (numN b).k, .int .i64 (numN b).n, .string (numN b).t, .slice (numN b).a (numN b).m (numN b).c] 32)) hb7)
  clear hb7 hba
  have HDb := Lib.hid (blk_new w7 (.cells #[.int .i64 2, .int .i64 0, .string ⟨#[]⟩, .slice none 0 0] 32 (0, 0)))
  have HB8 := Lib.hid (below_alloc HB7.out (.cells #[.int .i64 2, .int .i64 0, .string ⟨#[]⟩, .slice none 0 0] 32))
  have HDa := Lib.hid (blk_alloc HDa.out (.cells #[.int .i64 2, .int .i64 0, .string ⟨#[]⟩, .slice none 0 0] 32))
  go_upto_region 3 with (fail)
  generalize w7.alloc (.cells #[.int .i64 2, .int .i64 0, .string ⟨#[]⟩, .slice none 0 0] 32) = w8 at HDa HDb HB8 ⊢
  generalize w7.heap.size = bDb at HDb ⊢
  go_wp2_with fail
  refine (num_of b _).mono ?_
  rintro e9 w9 ⟨rfl, hb9⟩
  have HB9 := Lib.hid (below_step HB8.out hb9)
  have HDa := Lib.hid (blk_below HDa.out hb9)
  have HDb := Lib.hid (blk_below HDb.out hb9)
  clear hb9
  go_wp2_with fail
  refine (num_of a _).mono ?_
  rintro e10 w10 ⟨rfl, hb10⟩
  have HB10 := Lib.hid (below_step HB9.out hb10)
  have HDa := Lib.hid (blk_below HDa.out hb10)
  have HDb := Lib.hid (blk_below HDb.out hb10)
  clear hb10
  go_wp2_with fail
  have hba : Below w.heap.size w (w10.alloc (.cells #[.int .i64 (numN b).k, .int .i64 (numN b).n, .string (numN b).t, .slice (numN b).a (numN b).m (numN b).c, .int .i64 (numN a).k, .int .i64 (numN a).n, .string (numN a).t, .slice (numN a).a (numN a).m (numN a).c] 32)) := below_alloc HB10.out _
  refine (HZ.out _ _ (HL.out.later hba) (args_new2 ((numN b)) ((numN a)) w10)).mono ?_
  rintro e11 w11 ⟨rfl, hb11⟩
  have HB11 := Lib.hid (below_step hba hb11)
  have HDa := Lib.hid (blk_below (blk_alloc HDa.out (.cells #[.int .i64 (numN b).k, .int .i64 (numN b).n, .string (numN b).t, .slice (numN b).a (numN b).m (numN b).c, .int .i64 (numN a).k, .int .i64 (numN a).n, .string (numN a).t, .slice (numN a).a (numN a).m (numN a).c] 32)) hb11)
  have HDb := Lib.hid (blk_below (blk_alloc HDb.out (.cells #[.int .i64 (numN b).k, .int .i64 (numN b).n, .string (numN b).t, .slice (numN b).a (numN b).m (numN b).c, .int .i64 (numN a).k, .int .i64 (numN a).n, .string (numN a).t, .slice (numN a).a (numN a).m (numN a).c] 32)) hb11)
  clear hb11 hba
  have HDc := Lib.hid (blk_new w11 (.cells #[.int .i64 2, .int .i64 1, .string ⟨#[]⟩, .slice none 0 0] 32 (0, 0)))
  have HB12 := Lib.hid (below_alloc HB11.out (.cells #[.int .i64 2, .int .i64 1, .string ⟨#[]⟩, .slice none 0 0] 32))
  have HDa := Lib.hid (blk_alloc HDa.out (.cells #[.int .i64 2, .int .i64 1, .string ⟨#[]⟩, .slice none 0 0] 32))
  have HDb := Lib.hid (blk_alloc HDb.out (.cells #[.int .i64 2, .int .i64 1, .string ⟨#[]⟩, .slice none 0 0] 32))
  go_upto_region 4 with (fail)
  generalize w11.alloc (.cells #[.int .i64 2, .int .i64 1, .string ⟨#[]⟩, .slice none 0 0] 32) = w12 at HDa HDb HDc HB12 ⊢
  generalize w11.heap.size = bDc at HDc ⊢
  go_wp2_with fail
  refine (awake_18 _ (HL.out.later HB12.out)).mono ?_
  rintro e13 w13 ⟨rfl, hb13⟩
  have HB13 := Lib.hid (below_step HB12.out hb13)
  have HDa := Lib.hid (blk_below HDa.out hb13)
  have HDb := Lib.hid (blk_below HDb.out hb13)
  have HDc := Lib.hid (blk_below HDc.out hb13)
  clear hb13
  have a1 : w13.cell? ⟨bDa, 1, none⟩ = some (.int .i64 0) := blk_cell HDa.out 1
  have a2 : w13.cell? ⟨bDb, 1, none⟩ = some (.int .i64 0) := blk_cell HDb.out 1
  have a3 : w13.cell? ⟨bDc, 1, none⟩ = some (.int .i64 1) := blk_cell HDc.out 1
  go_wp2_with fail
  go_ret
  exact ⟨rfl, HB13.out⟩
set_option maxRecDepth 100000 in
set_option maxHeartbeats 8000000 in
theorem order_bad (a b : Int) (ha : i64 a) (hb : i64 b) (hpl : ¬ (Num a = true ∧ Num b = true)) (w : World) (h : Laid18 w) : Calls Tryd.prog 5 #[.int .i64 a, .int .i64 b] w (Giv (.bool true) w) := by
  have HL := Lib.hid h
  have HB0 := Lib.hid (Below.refl w.heap.size w)
  have HX := Lib.hid (fun v w hL hA => ev_num2_bad 8 (by decide) (by decide) a b ha hb hpl v w hL hA)
  have HY := Lib.hid (fun v w hL hA => ev_num2_bad 7 (by decide) (by decide) a b ha hb hpl v w hL hA)
  have HZ := Lib.hid (fun v w hL hA => ev_num2_bad 8 (by decide) (by decide) b a hb ha (fun h => hpl ⟨h.2, h.1⟩) v w hL hA)
  clear h ha hb hpl
  go_enter Tryd.func5, Tryd.ntmps5
  go_wp2_with fail
  refine (num_of a _).mono ?_
  rintro e1 w1 ⟨rfl, hb1⟩
  have HB1 := Lib.hid (below_step HB0.out hb1)
  clear hb1
  go_wp2_with fail
  refine (num_of b _).mono ?_
  rintro e2 w2 ⟨rfl, hb2⟩
  have HB2 := Lib.hid (below_step HB1.out hb2)
  clear hb2
  go_wp2_with fail
  have hba : Below w.heap.size w (w2.alloc (.cells #[.int .i64 (numN a).k, .int .i64 (numN a).n, .string (numN a).t, .slice (numN a).a (numN a).m (numN a).c, .int .i64 (numN b).k, .int .i64 (numN b).n, .string (numN b).t, .slice (numN b).a (numN b).m (numN b).c] 32)) := below_alloc HB2.out _
  refine (HX.out _ _ (HL.out.later hba) (args_new2 ((numN a)) ((numN b)) w2)).mono ?_
  rintro e3 w3 ⟨rfl, hb3⟩
  have HB3 := Lib.hid (below_step hba hb3)
  clear hb3 hba
  have HDa := Lib.hid (blk_new w3 (.cells #[.int .i64 0, .int .i64 0, .string ⟨#[]⟩, .slice none 0 0] 32 (0, 0)))
  have HB4 := Lib.hid (below_alloc HB3.out (.cells #[.int .i64 0, .int .i64 0, .string ⟨#[]⟩, .slice none 0 0] 32))
  go_upto_region 2 with (fail)
  generalize w3.alloc (.cells #[.int .i64 0, .int .i64 0, .string ⟨#[]⟩, .slice none 0 0] 32) = w4 at HDa HB4 ⊢
  generalize w3.heap.size = bDa at HDa ⊢
  go_wp2_with fail
  refine (num_of a _).mono ?_
  rintro e5 w5 ⟨rfl, hb5⟩
  have HB5 := Lib.hid (below_step HB4.out hb5)
  have HDa := Lib.hid (blk_below HDa.out hb5)
  clear hb5
  go_wp2_with fail
  refine (num_of b _).mono ?_
  rintro e6 w6 ⟨rfl, hb6⟩
  have HB6 := Lib.hid (below_step HB5.out hb6)
  have HDa := Lib.hid (blk_below HDa.out hb6)
  clear hb6
  go_wp2_with fail
  have hba : Below w.heap.size w (w6.alloc (.cells #[.int .i64 (numN a).k, .int .i64 (numN a).n, .string (numN a).t, .slice (numN a).a (numN a).m (numN a).c, .int .i64 (numN b).k, .int .i64 (numN b).n, .string (numN b).t, .slice (numN b).a (numN b).m (numN b).c] 32)) := below_alloc HB6.out _
  refine (HY.out _ _ (HL.out.later hba) (args_new2 ((numN a)) ((numN b)) w6)).mono ?_
  rintro e7 w7 ⟨rfl, hb7⟩
  have HB7 := Lib.hid (below_step hba hb7)
  have HDa := Lib.hid (blk_below (blk_alloc HDa.out (.cells #[.int .i64 (numN a).k, .int .i64 (numN a).n, .string (numN a).t, .slice (numN a).a (numN a).m (numN a).c, .int .i64 (numN b).k, .int .i64 (numN b).n, .string (numN b).t, .slice (numN b).a (numN b).m (numN b).c] 32)) hb7)
  clear hb7 hba
  have HDb := Lib.hid (blk_new w7 (.cells #[.int .i64 0, .int .i64 0, .string ⟨#[]⟩, .slice none 0 0] 32 (0, 0)))
  have HB8 := Lib.hid (below_alloc HB7.out (.cells #[.int .i64 0, .int .i64 0, .string ⟨#[]⟩, .slice none 0 0] 32))
  have HDa := Lib.hid (blk_alloc HDa.out (.cells #[.int .i64 0, .int .i64 0, .string ⟨#[]⟩, .slice none 0 0] 32))
  go_upto_region 3 with (fail)
  generalize w7.alloc (.cells #[.int .i64 0, .int .i64 0, .string ⟨#[]⟩, .slice none 0 0] 32) = w8 at HDa HDb HB8 ⊢
  generalize w7.heap.size = bDb at HDb ⊢
  go_wp2_with fail
  refine (num_of b _).mono ?_
  rintro e9 w9 ⟨rfl, hb9⟩
  have HB9 := Lib.hid (below_step HB8.out hb9)
  have HDa := Lib.hid (blk_below HDa.out hb9)
  have HDb := Lib.hid (blk_below HDb.out hb9)
  clear hb9
  go_wp2_with fail
  refine (num_of a _).mono ?_
  rintro e10 w10 ⟨rfl, hb10⟩
  have HB10 := Lib.hid (below_step HB9.out hb10)
  have HDa := Lib.hid (blk_below HDa.out hb10)
  have HDb := Lib.hid (blk_below HDb.out hb10)
  clear hb10
  go_wp2_with fail
  have hba : Below w.heap.size w (w10.alloc (.cells #[.int .i64 (numN b).k, .int .i64 (numN b).n, .string (numN b).t, .slice (numN b).a (numN b).m (numN b).c, .int .i64 (numN a).k, .int .i64 (numN a).n, .string (numN a).t, .slice (numN a).a (numN a).m (numN a).c] 32)) := below_alloc HB10.out _
  refine (HZ.out _ _ (HL.out.later hba) (args_new2 ((numN b)) ((numN a)) w10)).mono ?_
  rintro e11 w11 ⟨rfl, hb11⟩
  have HB11 := Lib.hid (below_step hba hb11)
  have HDa := Lib.hid (blk_below (blk_alloc HDa.out (.cells #[.int .i64 (numN b).k, .int .i64 (numN b).n, .string (numN b).t, .slice (numN b).a (numN b).m (numN b).c, .int .i64 (numN a).k, .int .i64 (numN a).n, .string (numN a).t, .slice (numN a).a (numN a).m (numN a).c] 32)) hb11)
  have HDb := Lib.hid (blk_below (blk_alloc HDb.out (.cells #[.int .i64 (numN b).k, .int .i64 (numN b).n, .string (numN b).t, .slice (numN b).a (numN b).m (numN b).c, .int .i64 (numN a).k, .int .i64 (numN a).n, .string (numN a).t, .slice (numN a).a (numN a).m (numN a).c] 32)) hb11)
  clear hb11 hba
  have HDc := Lib.hid (blk_new w11 (.cells #[.int .i64 0, .int .i64 0, .string ⟨#[]⟩, .slice none 0 0] 32 (0, 0)))
  have HB12 := Lib.hid (below_alloc HB11.out (.cells #[.int .i64 0, .int .i64 0, .string ⟨#[]⟩, .slice none 0 0] 32))
  have HDa := Lib.hid (blk_alloc HDa.out (.cells #[.int .i64 0, .int .i64 0, .string ⟨#[]⟩, .slice none 0 0] 32))
  have HDb := Lib.hid (blk_alloc HDb.out (.cells #[.int .i64 0, .int .i64 0, .string ⟨#[]⟩, .slice none 0 0] 32))
  go_upto_region 4 with (fail)
  generalize w11.alloc (.cells #[.int .i64 0, .int .i64 0, .string ⟨#[]⟩, .slice none 0 0] 32) = w12 at HDa HDb HDc HB12 ⊢
  generalize w11.heap.size = bDc at HDc ⊢
  go_wp2_with fail
  refine (awake_18 _ (HL.out.later HB12.out)).mono ?_
  rintro e13 w13 ⟨rfl, hb13⟩
  have HB13 := Lib.hid (below_step HB12.out hb13)
  have HDa := Lib.hid (blk_below HDa.out hb13)
  have HDb := Lib.hid (blk_below HDb.out hb13)
  have HDc := Lib.hid (blk_below HDc.out hb13)
  clear hb13
  go_wp2_with fail
  refine (awake_18 _ (HL.out.later HB13.out)).mono ?_
  rintro e14 w14 ⟨rfl, hb14⟩
  have HB14 := Lib.hid (below_step HB13.out hb14)
  have HDa := Lib.hid (blk_below HDa.out hb14)
  have HDb := Lib.hid (blk_below HDb.out hb14)
  have HDc := Lib.hid (blk_below HDc.out hb14)
  clear hb14
  go_wp2_with fail
  go_ret
  exact ⟨rfl, HB14.out⟩

theorem order_any (a b : Int) (ha : i64 a) (hb : i64 b) (w : World) (h : Laid18 w) : Calls Tryd.prog 5 #[.int .i64 a, .int .i64 b] w (Giv (.bool true) w) := by
  by_cases hpl : Num a = true ∧ Num b = true
  · rcases Int.lt_trichotomy a b with hab | hab | hab
    · exact order_lt a b ha hb hpl hab w h
    · exact order_eq a b ha hb hpl hab w h
    · exact order_gt a b ha hb hpl hab w h
  · exact order_bad a b ha hb hpl w h

set_option maxRecDepth 16000 in
theorem PrimOrder_top {H : Type} {enc : TypeId × Value → H} (W : World) (base : Nat) (v0 v1 : Value) (d0 d1 : DataW H) (p0 p1 : List MemPlace) (hv0 : Value.okWide Tryd.prog W .any base 3 v0) (hv1 : Value.okWide Tryd.prog W .any base 3 v1)
    (h0 : DataW.Trod enc Tryd.prog W 0 (fun _ => true) true 3 v0 d0 p0) (h1 : DataW.Trod enc Tryd.prog W 0 (fun _ => true) true 3 v1 d1 p1)
    {ts : List TypeId} {ds : List (DataW H)} (_ : (DataW.weightsEach Tryd.prog ts ds).all (· ≤ reachBytes) = true) (hT : Laid18 W) :
    Calls Tryd.prog 5 #[v0, v1] W fun e w' => e = .returned (.bool true) ∧ Below W.heap.size W w' := by
  obtain ⟨a, rfl, rfl, rfl, ha⟩ := open_int Tryd.underlying3 hv0 h0
  obtain ⟨b, rfl, rfl, rfl, hb⟩ := open_int Tryd.underlying3 hv1 h1
  exact (order_any a b (i64_in ha) (i64_in hb) W hT).mono fun e w' h => ⟨h.ret, h.below⟩
end Go.Proofs.YtneokkhnjnomdaaDoor
