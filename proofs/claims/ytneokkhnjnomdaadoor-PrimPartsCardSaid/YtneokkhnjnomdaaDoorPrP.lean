/-
  The law of parts: what Eval comes to there; the ways that end early.
-/
import Derived.Test.YtneokkhnjnomdaaDoorPrI
namespace Go.Proofs.YtneokkhnjnomdaaDoor
open Go.RowKit Go.Proofs.YtneokkhnjnomdaaDoorW.PrintWords Go.ChangeShapes Go.WideShapes Go.ChangeAt

theorem ev_app (a b : ByteArray) (h : a.size + b.size ≤ 500) (v : Value) (w : World) (hL : Laid18 w) (hA : ArgsAt [strN a, strN b] v w) :
    Calls Tryd.prog 15 #[.int .i64 31, v] w (Giv (.tuple #[datV 4 0 (a ++ b), .nilIface]) w) :=
  eval_text_ok 31 _ v w (ev_args hL hA (by simp) (all_ok (by simp))) (by decide) (by decide) (by simp [plain_str]; omega) rfl (by simp [eqK, kindsN]) 4 0 (a ++ b)
    (fun w' hb => text_31 (strN a) (strN b) v w' (hA.later hb) (by show (a.size : Int) ≤ _; omega) (by show (b.size : Int) ≤ _; omega) (by show (a.size : Int) + b.size ≤ _; omega))
theorem ev_app_long (a b : ByteArray) (ha : a.size ≤ 500) (hb : b.size ≤ 500) (h : ¬ a.size + b.size ≤ 500) (v : Value) (w : World) (hL : Laid18 w) (hA : ArgsAt [strN a, strN b] v w) :
    Calls Tryd.prog 15 #[.int .i64 31, v] w (Giv (.tuple #[datV 0 0 ⟨#[]⟩, abV (nameS (nameN 31)) 14]) w) :=
  eval_text_err 31 _ v w (ev_args hL hA (by simp) (all_ok (by simp))) (by decide) (by decide) (by simp [plain_str]; omega) rfl (by simp [eqK, kindsN]) 0 0 ⟨#[]⟩ 14
    (fun w' hw => text_31a (strN a) (strN b) v w' (hA.later hw) (by show (a.size : Int) ≤ _; omega) (by show (b.size : Int) ≤ _; omega) (by show (500 : Int) < a.size + b.size; omega))
theorem ev_app_bad (a b : ByteArray) (h : 500 < a.size ∨ 500 < b.size) (v : Value) (w : World) (hL : Laid18 w) (hA : ArgsAt [strN a, strN b] v w) :
    Calls Tryd.prog 15 #[.int .i64 31, v] w (Giv (.tuple #[datV 0 0 ⟨#[]⟩, kindV 2]) w) :=
  eval_unplain 31 _ v w (ev_args hL hA (by simp) (all_ok (by simp))) (by decide) (by simp [plain_str]; omega)
theorem ev_len (x : ByteArray) (h : x.size ≤ 500) (v : Value) (w : World) (hL : Laid18 w) (hA : ArgsAt [strN x] v w) :
    Calls Tryd.prog 15 #[.int .i64 29, v] w (Giv (.tuple #[datV 1 (x.size : Nat) ⟨#[]⟩, .nilIface]) w) :=
  eval_text_ok 29 _ v w (ev_args hL hA (by simp) (all_ok (by simp))) (by decide) (by decide) (by simp [plain_str]; omega) rfl (by simp [eqK, kindsN]) 1 (x.size : Nat) ⟨#[]⟩
    (fun w' hb => text_29 (strN x) v w' (hA.later hb))
theorem ev_cut (x : ByteArray) (i j : Nat) (hij : i ≤ j) (hj : j ≤ x.size) (h : x.size ≤ 500) (v : Value) (w : World) (hL : Laid18 w) (hA : ArgsAt [strN x, numN (i : Nat), numN (j : Nat)] v w) :
    Calls Tryd.prog 15 #[.int .i64 33, v] w (Giv (.tuple #[datV 4 0 (x.extract i j), .nilIface]) w) :=
  eval_text_ok 33 _ v w (ev_args hL hA (by simp) (fun d hd => by
      rcases List.mem_cons.1 hd with rfl | hd
      · exact ⟨rfl, by show (-9223372036854775808 : Int) ≤ 0; omega, by show (0 : Int) ≤ _; omega⟩
      rcases List.mem_cons.1 hd with rfl | hd
      · exact ⟨rfl, by show (-9223372036854775808 : Int) ≤ (i : Nat); omega, by show ((i : Nat) : Int) ≤ _; omega⟩
      · obtain rfl := List.mem_singleton.1 hd
        exact ⟨rfl, by show (-9223372036854775808 : Int) ≤ (j : Nat); omega, by show ((j : Nat) : Int) ≤ _; omega⟩))
    (by decide) (by decide) (by simp [plain_str, plain_num, Num]; omega) rfl (by simp [eqK, kindsN]) 4 0 (x.extract i j)
    (fun w' hb => by
      have := text_33 (strN x) (numN (i : Nat)) (numN (j : Nat)) v w' (hA.later hb) (by show (0 : Int) ≤ (i : Nat); omega) (by show ((i : Nat) : Int) ≤ (j : Nat); omega) (by show ((j : Nat) : Int) ≤ x.size; omega)
      exact this)

set_option maxRecDepth 100000 in
set_option maxHeartbeats 8000000 in
theorem parts_longa (a b : ByteArray) (hh : 600 < a.size) (w : World) (h : Laid18 w) : Calls Tryd.prog 4 #[.string a, .string b] w (Giv (.bool true) w) := by
  have HL := Lib.hid h
  have HB0 := Lib.hid (Below.refl w.heap.size w)
  clear h
  have a6 : decide ((600 : Int) < (a.size : Nat)) = true := decide_eq_true (by omega)
  have a6p : (600 : Int) < (a.size : Nat) := by omega
  clear hh
  go_enter Tryd.func4, Tryd.ntmps4
  go_wp2_with fail
  refine (awake_18 _ (HL.out.later HB0.out)).mono ?_
  rintro e1 w1 ⟨rfl, hb1⟩
  have HB1 := Lib.hid (below_step HB0.out hb1)
  clear hb1
  go_wp2_with fail
  refine (awake_18 _ (HL.out.later HB1.out)).mono ?_
  rintro e2 w2 ⟨rfl, hb2⟩
  have HB2 := Lib.hid (below_step HB1.out hb2)
  clear hb2
  go_wp2_with fail
  go_ret
  exact ⟨rfl, HB2.out⟩
set_option maxRecDepth 100000 in
set_option maxHeartbeats 8000000 in
theorem parts_longb (a b : ByteArray) (hh : ¬ 600 < a.size) (hh2 : 600 < b.size) (w : World) (h : Laid18 w) : Calls Tryd.prog 4 #[.string a, .string b] w (Giv (.bool true) w) := by
  have HL := Lib.hid h
  have HB0 := Lib.hid (Below.refl w.heap.size w)
  clear h
  have a6 : decide ((600 : Int) < (a.size : Nat)) = false := decide_eq_false (by omega)
  have a6p : ¬ (600 : Int) < (a.size : Nat) := by omega
  have b6 : decide ((600 : Int) < (b.size : Nat)) = true := decide_eq_true (by omega)
  have b6p : (600 : Int) < (b.size : Nat) := by omega
  clear hh hh2
  go_enter Tryd.func4, Tryd.ntmps4
  go_wp2_with fail
  refine (awake_18 _ (HL.out.later HB0.out)).mono ?_
  rintro e1 w1 ⟨rfl, hb1⟩
  have HB1 := Lib.hid (below_step HB0.out hb1)
  clear hb1
  go_wp2_with fail
  refine (awake_18 _ (HL.out.later HB1.out)).mono ?_
  rintro e2 w2 ⟨rfl, hb2⟩
  have HB2 := Lib.hid (below_step HB1.out hb2)
  clear hb2
  go_wp2_with fail
  go_ret
  exact ⟨rfl, HB2.out⟩
set_option maxRecDepth 100000 in
set_option maxHeartbeats 8000000 in
theorem parts_bada (a b : ByteArray) (hh : ¬ 600 < a.size) (hh2 : ¬ 600 < b.size) (hh3 : 500 < a.size) (w : World) (h : Laid18 w) : Calls Tryd.prog 4 #[.string a, .string b] w (Giv (.bool true) w) := by
  have HL := Lib.hid h
  have HB0 := Lib.hid (Below.refl w.heap.size w)
  clear h
  have cE := Lib.hid (fun v w hL hA => ev_app_bad a b (by omega) v w hL hA)
  have a6 : decide ((600 : Int) < (a.size : Nat)) = false := decide_eq_false (by omega)
  have a6p : ¬ (600 : Int) < (a.size : Nat) := by omega
  have b6 : decide ((600 : Int) < (b.size : Nat)) = false := decide_eq_false (by omega)
  have b6p : ¬ (600 : Int) < (b.size : Nat) := by omega
  have a5 : decide ((500 : Int) < (a.size : Nat)) = true := decide_eq_true (by omega)
  have a5p : (500 : Int) < (a.size : Nat) := by omega
  clear hh hh2 hh3
  go_enter Tryd.func4, Tryd.ntmps4
  go_wp2_with fail
  refine (awake_18 _ (HL.out.later HB0.out)).mono ?_
  rintro e1 w1 ⟨rfl, hb1⟩
  have HB1 := Lib.hid (below_step HB0.out hb1)
  clear hb1
  go_wp2_with fail
  refine (lawstr_of a _).mono ?_
  rintro e2 w2 ⟨rfl, hb2⟩
  have HB2 := Lib.hid (below_step HB1.out hb2)
  clear hb2
  go_wp2_with fail
  refine (lawstr_of b _).mono ?_
  rintro e3 w3 ⟨rfl, hb3⟩
  have HB3 := Lib.hid (below_step HB2.out hb3)
  clear hb3
  go_wp2_with fail
  have hba : Below w.heap.size w (w3.alloc (.cells #[.int .i64 (strN a).k, .int .i64 (strN a).n, .string (strN a).t, .slice (strN a).a (strN a).m (strN a).c, .int .i64 (strN b).k, .int .i64 (strN b).n, .string (strN b).t, .slice (strN b).a (strN b).m (strN b).c] 32)) := below_alloc HB3.out _
  refine (cE.out _ _ (HL.out.later hba) (args_new2 ((strN a)) ((strN b)) w3)).mono ?_
  rintro e4 w4 ⟨rfl, hb4⟩
  have HB4 := Lib.hid (below_step hba hb4)
  clear hb4 hba
  have HDa := Lib.hid (blk_new w4 (.cells #[.int .i64 0, .int .i64 0, .string ⟨#[]⟩, .slice none 0 0] 32 (0, 0)))
  have HB5 := Lib.hid (below_alloc HB4.out (.cells #[.int .i64 0, .int .i64 0, .string ⟨#[]⟩, .slice none 0 0] 32))
  go_upto_region 4 with (fail)
  generalize w4.alloc (.cells #[.int .i64 0, .int .i64 0, .string ⟨#[]⟩, .slice none 0 0] 32) = w5 at HDa HB5 ⊢
  generalize w4.heap.size = bDa at HDa ⊢
  go_wp2_with fail
  refine (is_kind 2 2 _).mono ?_
  rintro e9 w9 ⟨rfl, rfl⟩
  go_wp2_with fail
  go_ret
  exact ⟨rfl, HB5.out⟩
set_option maxRecDepth 100000 in
set_option maxHeartbeats 8000000 in
theorem parts_badb (a b : ByteArray) (hh : ¬ 600 < a.size) (hh2 : ¬ 600 < b.size) (hh3 : ¬ 500 < a.size) (hh4 : 500 < b.size) (w : World) (h : Laid18 w) : Calls Tryd.prog 4 #[.string a, .string b] w (Giv (.bool true) w) := by
  have HL := Lib.hid h
  have HB0 := Lib.hid (Below.refl w.heap.size w)
  clear h
  have cE := Lib.hid (fun v w hL hA => ev_app_bad a b (by omega) v w hL hA)
  have a6 : decide ((600 : Int) < (a.size : Nat)) = false := decide_eq_false (by omega)
  have a6p : ¬ (600 : Int) < (a.size : Nat) := by omega
  have b6 : decide ((600 : Int) < (b.size : Nat)) = false := decide_eq_false (by omega)
  have b6p : ¬ (600 : Int) < (b.size : Nat) := by omega
  have a5 : decide ((500 : Int) < (a.size : Nat)) = false := decide_eq_false (by omega)
  have a5p : ¬ (500 : Int) < (a.size : Nat) := by omega
  have b5 : decide ((500 : Int) < (b.size : Nat)) = true := decide_eq_true (by omega)
  have b5p : (500 : Int) < (b.size : Nat) := by omega
  clear hh hh2 hh3 hh4
  go_enter Tryd.func4, Tryd.ntmps4
  go_wp2_with fail
  refine (awake_18 _ (HL.out.later HB0.out)).mono ?_
  rintro e1 w1 ⟨rfl, hb1⟩
  have HB1 := Lib.hid (below_step HB0.out hb1)
  clear hb1
  go_wp2_with fail
  refine (lawstr_of a _).mono ?_
  rintro e2 w2 ⟨rfl, hb2⟩
  have HB2 := Lib.hid (below_step HB1.out hb2)
  clear hb2
  go_wp2_with fail
  refine (lawstr_of b _).mono ?_
  rintro e3 w3 ⟨rfl, hb3⟩
  have HB3 := Lib.hid (below_step HB2.out hb3)
  clear hb3
  go_wp2_with fail
  have hba : Below w.heap.size w (w3.alloc (.cells #[.int .i64 (strN a).k, .int .i64 (strN a).n, .string (strN a).t, .slice (strN a).a (strN a).m (strN a).c, .int .i64 (strN b).k, .int .i64 (strN b).n, .string (strN b).t, .slice (strN b).a (strN b).m (strN b).c] 32)) := below_alloc HB3.out _
  refine (cE.out _ _ (HL.out.later hba) (args_new2 ((strN a)) ((strN b)) w3)).mono ?_
  rintro e4 w4 ⟨rfl, hb4⟩
  have HB4 := Lib.hid (below_step hba hb4)
  clear hb4 hba
  have HDa := Lib.hid (blk_new w4 (.cells #[.int .i64 0, .int .i64 0, .string ⟨#[]⟩, .slice none 0 0] 32 (0, 0)))
  have HB5 := Lib.hid (below_alloc HB4.out (.cells #[.int .i64 0, .int .i64 0, .string ⟨#[]⟩, .slice none 0 0] 32))
  go_upto_region 4 with (fail)
  generalize w4.alloc (.cells #[.int .i64 0, .int .i64 0, .string ⟨#[]⟩, .slice none 0 0] 32) = w5 at HDa HB5 ⊢
  generalize w4.heap.size = bDa at HDa ⊢
  go_wp2_with fail
  refine (is_kind 2 2 _).mono ?_
  rintro e9 w9 ⟨rfl, rfl⟩
  go_wp2_with fail
  go_ret
  exact ⟨rfl, HB5.out⟩
set_option maxRecDepth 100000 in
set_option maxHeartbeats 8000000 in
theorem parts_over (a b : ByteArray) (hh : a.size ≤ 500) (hh2 : b.size ≤ 500) (hh3 : ¬ a.size + b.size ≤ 500) (w : World) (h : Laid18 w) : Calls Tryd.prog 4 #[.string a, .string b] w (Giv (.bool true) w) := by
  have HL := Lib.hid h
  have HB0 := Lib.hid (Below.refl w.heap.size w)
  clear h
  have cE := Lib.hid (fun v w hL hA => ev_app_long a b (by omega) (by omega) (by omega) v w hL hA)
  have a6 : decide ((600 : Int) < (a.size : Nat)) = false := decide_eq_false (by omega)
  have a6p : ¬ (600 : Int) < (a.size : Nat) := by omega
  have b6 : decide ((600 : Int) < (b.size : Nat)) = false := decide_eq_false (by omega)
  have b6p : ¬ (600 : Int) < (b.size : Nat) := by omega
  have a5 : decide ((500 : Int) < (a.size : Nat)) = false := decide_eq_false (by omega)
  have a5p : ¬ (500 : Int) < (a.size : Nat) := by omega
  have b5 : decide ((500 : Int) < (b.size : Nat)) = false := decide_eq_false (by omega)
  have b5p : ¬ (500 : Int) < (b.size : Nat) := by omega
  have ab : decide ((500 : Int) < (a.size : Nat) + (b.size : Nat)) = true := decide_eq_true (by omega)
  have abp : (500 : Int) < (a.size : Nat) + (b.size : Nat) := by omega
  clear hh hh2 hh3
  go_enter Tryd.func4, Tryd.ntmps4
  go_wp2_with fail
  refine (awake_18 _ (HL.out.later HB0.out)).mono ?_
  rintro e1 w1 ⟨rfl, hb1⟩
  have HB1 := Lib.hid (below_step HB0.out hb1)
  clear hb1
  go_wp2_with fail
  refine (lawstr_of a _).mono ?_
  rintro e2 w2 ⟨rfl, hb2⟩
  have HB2 := Lib.hid (below_step HB1.out hb2)
  clear hb2
  go_wp2_with fail
  refine (lawstr_of b _).mono ?_
  rintro e3 w3 ⟨rfl, hb3⟩
  have HB3 := Lib.hid (below_step HB2.out hb3)
  clear hb3
  go_wp2_with fail
  have hba : Below w.heap.size w (w3.alloc (.cells #[.int .i64 (strN a).k, .int .i64 (strN a).n, .string (strN a).t, .slice (strN a).a (strN a).m (strN a).c, .int .i64 (strN b).k, .int .i64 (strN b).n, .string (strN b).t, .slice (strN b).a (strN b).m (strN b).c] 32)) := below_alloc HB3.out _
  refine (cE.out _ _ (HL.out.later hba) (args_new2 ((strN a)) ((strN b)) w3)).mono ?_
  rintro e4 w4 ⟨rfl, hb4⟩
  have HB4 := Lib.hid (below_step hba hb4)
  clear hb4 hba
  have HDa := Lib.hid (blk_new w4 (.cells #[.int .i64 0, .int .i64 0, .string ⟨#[]⟩, .slice none 0 0] 32 (0, 0)))
  have HB5 := Lib.hid (below_alloc HB4.out (.cells #[.int .i64 0, .int .i64 0, .string ⟨#[]⟩, .slice none 0 0] 32))
  go_upto_region 4 with (fail)
  generalize w4.alloc (.cells #[.int .i64 0, .int .i64 0, .string ⟨#[]⟩, .slice none 0 0] 32) = w5 at HDa HB5 ⊢
  generalize w4.heap.size = bDa at HDa ⊢
  go_wp2_with fail
  refine (is_ab _ 14 14 _).mono ?_
  rintro e9 w9 ⟨rfl, hb9⟩
  have HB9 := Lib.hid (below_step HB5.out hb9)
  clear hb9
  go_wp2_with fail
  go_ret
  exact ⟨rfl, HB9.out⟩
end Go.Proofs.YtneokkhnjnomdaaDoor
