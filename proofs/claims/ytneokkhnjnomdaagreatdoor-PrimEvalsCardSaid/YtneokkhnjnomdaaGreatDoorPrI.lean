/-
  awake, and what it asks.
-/
import Derived.Test.YtneokkhnjnomdaaGreatDoorPrH
import Derived.Test.YtneokkhnjnomdaaGreatDoorWEqStruct
namespace Go.Proofs.YtneokkhnjnomdaaGreatDoor
open Go.RowKit Go.Proofs.YtneokkhnjnomdaaGreatDoorW.PrintWords

set_option maxRecDepth 100000 in
set_option maxHeartbeats 8000000 in
theorem arity_48 (w : World) (h : SpT w) : Calls Tryz.prog 20 #[.int .i64 48] w (Giv (.tuple #[.int .i64 0, .int .i64 28]) w) := by
  go_enter Tryz.func20, Tryz.ntmps20
  go_wp2_with fail
  refine (name_of 48 _ h).mono ?_
  rintro e w2 ⟨rfl, hb⟩
  have HB := Lib.hid hb
  clear hb
  rw [show nameS (nameN 48) = ⟨#[118, 97, 108, 117, 101, 115]⟩ from rfl]
  go_wp2_with fail
  go_ret2
  exact ⟨rfl, HB.out⟩

theorem name_eq_in (d : Nat) (k : Int) (s : ByteArray) (w : World) : (Op.equalIn (d + 3) 34 (nameV k s) (nameV k s)).run Tryz.prog w = .ok true w := by
  have i3 : ∀ (a : Int) (d : Nat), (Op.equalIn (d + 1) 3 (.int .i64 a) (.int .i64 a)).run Tryz.prog w = .ok true w := fun a d => by
    simp [Op.equalIn, run_underlying Tryz.underlying3]
  have i9 : ∀ (a : ByteArray) (d : Nat), (Op.equalIn (d + 1) 9 (.string a) (.string a)).run Tryz.prog w = .ok true w := fun a d => by
    simp [Op.equalIn, run_underlying Tryz.underlying9]
    cases a with
    | mk d => show (d == d) = true; simp
  refine eqA_of (P := Tryz.prog) Tryz.underlying34 (by kernel_rfl) ?_
  refine eqf_end (a := .int .i64 k) (b := .int .i64 k) (by kernel_rfl) (by kernel_rfl) (by kernel_rfl) (i3 _ _) ?_
  refine eqf_end (a := .string s) (b := .string s) (by kernel_rfl) (by kernel_rfl) (by kernel_rfl) (i9 _ _) ?_
  exact eqf_nil
theorem name_eql (k : Int) (s : ByteArray) (w : World) : (binOp .eql 34 (nameV k s) (nameV k s)).run Tryz.prog w = .ok (.bool true) w := by
  have h := name_eq_in 9997 k s w
  unfold nameV at h ⊢
  simp only [binOp]
  simp [Op.equal, Op.maxDepth, h]

theorem ev_add23 (v : Value) (w : World) (hL : Laid18 w) (hA : ArgsAt [numN 2, numN 3] v w) : Calls Tryz.prog 10 #[.int .i64 1, v] w (Giv (.tuple #[datV 1 5 ⟨#[]⟩, .nilIface]) w) :=
  ev_num2 1 (by decide) (by decide) 2 3 ⟨by decide, by decide⟩ ⟨by decide, by decide⟩ ⟨by decide, by decide⟩ v w hL hA 1 5 ⟨#[]⟩ (fun w' => math_1 2 3 w')

theorem all_ok {L : List Nd} (h : L.all (fun d => decide (d.m = 0) && decide (-9223372036854775808 ≤ d.n) && decide (d.n ≤ 9223372036854775807)) = true) : ∀ d ∈ L, d.m = 0 ∧ -9223372036854775808 ≤ d.n ∧ d.n ≤ 9223372036854775807 := by
  intro d hd
  have := List.all_eq_true.1 h d hd
  simp at this
  exact ⟨this.1.1, this.1.2, this.2⟩

theorem ev_sub (v : Value) (w : World) (hL : Laid18 w) (hA : ArgsAt [strN ⟨#[97, 98, 99, 100]⟩, numN 1, numN 3] v w) : Calls Tryz.prog 10 #[.int .i64 33, v] w (Giv (.tuple #[datV 4 0 ⟨#[98, 99]⟩, .nilIface]) w) :=
  eval_text_ok 33 _ v w (ev_args hL hA (by decide) (all_ok (by decide))) (by decide) (by decide) (by decide +kernel) rfl (by decide +kernel) 4 0 ⟨#[98, 99]⟩
    (fun w' hb => text_33 (strN ⟨#[97, 98, 99, 100]⟩) (numN 1) (numN 3) v w' (hA.later hb) (by decide) (by decide) (by decide))

theorem ev_ref (v : Value) (w : World) (hL : Laid18 w) (hA : ArgsAt [strN ⟨#[97, 98]⟩, numN 2] v w) : Calls Tryz.prog 10 #[.int .i64 30, v] w (Giv (.tuple #[datV 0 0 ⟨#[]⟩, abV ⟨#[115, 116, 114, 105, 110, 103, 45, 114, 101, 102]⟩ 13]) w) :=
  eval_text_err 30 _ v w (ev_args hL hA (by decide) (all_ok (by decide))) (by decide) (by decide) (by decide +kernel) rfl (by decide +kernel) 0 0 ⟨#[]⟩ 13
    (fun w' hb => text_30b (strN ⟨#[97, 98]⟩) (numN 2) v w' (hA.later hb) (by decide) (by decide))

set_option maxRecDepth 100000 in
set_option maxHeartbeats 8000000 in
theorem awake_18 (w : World) (h : Laid18 w) : Calls Tryz.prog 6 #[] w (Giv (.bool true) w) := by
  have HL := Lib.hid h
  have HB0 := Lib.hid (Below.refl w.heap.size w)
  clear h
  go_enter Tryz.func6, Tryz.ntmps6
  go_wp2_with fail
  refine (num_of 2 _).mono ?_
  rintro e1 w1 ⟨rfl, hb1⟩
  have HB1 := Lib.hid (below_step HB0.out hb1)
  clear hb1
  go_wp2_with fail
  refine (num_of 3 _).mono ?_
  rintro e2 w2 ⟨rfl, hb2⟩
  have HB2 := Lib.hid (below_step HB1.out hb2)
  clear hb2
  go_wp2_with fail
  have hba : Below w.heap.size w (w2.alloc (.cells #[.int .i64 (numN 2).k, .int .i64 (numN 2).n, .string (numN 2).t, .slice (numN 2).a (numN 2).m (numN 2).c, .int .i64 (numN 3).k, .int .i64 (numN 3).n, .string (numN 3).t, .slice (numN 3).a (numN 3).m (numN 3).c] 26)) := below_alloc HB2.out _
  refine (ev_add23 _ _ (HL.out.later hba) (args_new2 ((numN 2)) ((numN 3)) w2)).mono ?_
  rintro e3 w3 ⟨rfl, hb3⟩
  have HB3 := Lib.hid (below_step hba hb3)
  clear hb3 hba
  have HDa := Lib.hid (blk_new w3 (.cells #[.int .i64 1, .int .i64 5, .string ⟨#[]⟩, .slice none 0 0] 26 (0, 0)))
  have HB4 := Lib.hid (below_alloc HB3.out (.cells #[.int .i64 1, .int .i64 5, .string ⟨#[]⟩, .slice none 0 0] 26))
  go_upto_region 2 with (fail)
  generalize w3.alloc (.cells #[.int .i64 1, .int .i64 5, .string ⟨#[]⟩, .slice none 0 0] 26) = w4 at HDa HB4 ⊢
  generalize w3.heap.size = bDa at HDa ⊢
  go_wp2_with fail
  refine (lawstr_of ⟨#[97, 98, 99, 100]⟩ _).mono ?_
  rintro e5 w5 ⟨rfl, hb5⟩
  have HB5 := Lib.hid (below_step HB4.out hb5)
  have HDa := Lib.hid (blk_below HDa.out hb5)
  clear hb5
  go_wp2_with fail
  refine (num_of 1 _).mono ?_
  rintro e6 w6 ⟨rfl, hb6⟩
  have HB6 := Lib.hid (below_step HB5.out hb6)
  have HDa := Lib.hid (blk_below HDa.out hb6)
  clear hb6
  go_wp2_with fail
  refine (num_of 3 _).mono ?_
  rintro e7 w7 ⟨rfl, hb7⟩
  have HB7 := Lib.hid (below_step HB6.out hb7)
  have HDa := Lib.hid (blk_below HDa.out hb7)
  clear hb7
  go_wp2_with fail
  have hba : Below w.heap.size w (w7.alloc (.cells #[.int .i64 (strN ⟨#[97, 98, 99, 100]⟩).k, .int .i64 (strN ⟨#[97, 98, 99, 100]⟩).n, .string (strN ⟨#[97, 98, 99, 100]⟩).t, .slice (strN ⟨#[97, 98, 99, 100]⟩).a (strN ⟨#[97, 98, 99, 100]⟩).m (strN ⟨#[97, 98, 99, 100]⟩).c, .int .i64 (numN 1).k, .int .i64 (numN 1).n, .string (numN 1).t, .slice (numN 1).a (numN 1).m (numN 1).c, .int .i64 (numN 3).k, .int .i64 (numN 3).n, .string (numN 3).t, .slice (numN 3).a (numN 3).m (numN 3).c] 26)) := below_alloc HB7.out _
  refine (ev_sub _ _ (HL.out.later hba) (args_new3 ((strN ⟨#[97, 98, 99, 100]⟩)) ((numN 1)) ((numN 3)) w7)).mono ?_
  rintro e8 w8 ⟨rfl, hb8⟩
  have HB8 := Lib.hid (below_step hba hb8)
  have HDa := Lib.hid (blk_below (blk_alloc HDa.out (.cells #[.int .i64 (strN ⟨#[97, 98, 99, 100]⟩).k, .int .i64 (strN ⟨#[97, 98, 99, 100]⟩).n, .string (strN ⟨#[97, 98, 99, 100]⟩).t, .slice (strN ⟨#[97, 98, 99, 100]⟩).a (strN ⟨#[97, 98, 99, 100]⟩).m (strN ⟨#[97, 98, 99, 100]⟩).c, .int .i64 (numN 1).k, .int .i64 (numN 1).n, .string (numN 1).t, .slice (numN 1).a (numN 1).m (numN 1).c, .int .i64 (numN 3).k, .int .i64 (numN 3).n, .string (numN 3).t, .slice (numN 3).a (numN 3).m (numN 3).c] 26)) hb8)
  clear hb8 hba
  have HDb := Lib.hid (blk_new w8 (.cells #[.int .i64 4, .int .i64 0, .string ⟨#[98, 99]⟩, .slice none 0 0] 26 (0, 0)))
  have HB9 := Lib.hid (below_alloc HB8.out (.cells #[.int .i64 4, .int .i64 0, .string ⟨#[98, 99]⟩, .slice none 0 0] 26))
  have HDa := Lib.hid (blk_alloc HDa.out (.cells #[.int .i64 4, .int .i64 0, .string ⟨#[98, 99]⟩, .slice none 0 0] 26))
  go_upto_region 3 with (fail)
  generalize w8.alloc (.cells #[.int .i64 4, .int .i64 0, .string ⟨#[98, 99]⟩, .slice none 0 0] 26) = w9 at HDa HDb HB9 ⊢
  generalize w8.heap.size = bDb at HDb ⊢
  go_wp2_with fail
  refine (lawstr_of ⟨#[97, 98]⟩ _).mono ?_
  rintro e10 w10 ⟨rfl, hb10⟩
  have HB10 := Lib.hid (below_step HB9.out hb10)
  have HDa := Lib.hid (blk_below HDa.out hb10)
  have HDb := Lib.hid (blk_below HDb.out hb10)
  clear hb10
  go_wp2_with fail
  refine (num_of 2 _).mono ?_
  rintro e11 w11 ⟨rfl, hb11⟩
  have HB11 := Lib.hid (below_step HB10.out hb11)
  have HDa := Lib.hid (blk_below HDa.out hb11)
  have HDb := Lib.hid (blk_below HDb.out hb11)
  clear hb11
  go_wp2_with fail
  have hba : Below w.heap.size w (w11.alloc (.cells #[.int .i64 (strN ⟨#[97, 98]⟩).k, .int .i64 (strN ⟨#[97, 98]⟩).n, .string (strN ⟨#[97, 98]⟩).t, .slice (strN ⟨#[97, 98]⟩).a (strN ⟨#[97, 98]⟩).m (strN ⟨#[97, 98]⟩).c, .int .i64 (numN 2).k, .int .i64 (numN 2).n, .string (numN 2).t, .slice (numN 2).a (numN 2).m (numN 2).c] 26)) := below_alloc HB11.out _
  refine (ev_ref _ _ (HL.out.later hba) (args_new2 ((strN ⟨#[97, 98]⟩)) ((numN 2)) w11)).mono ?_
  rintro e12 w12 ⟨rfl, hb12⟩
  have HB12 := Lib.hid (below_step hba hb12)
  have HDa := Lib.hid (blk_below (blk_alloc HDa.out (.cells #[.int .i64 (strN ⟨#[97, 98]⟩).k, .int .i64 (strN ⟨#[97, 98]⟩).n, .string (strN ⟨#[97, 98]⟩).t, .slice (strN ⟨#[97, 98]⟩).a (strN ⟨#[97, 98]⟩).m (strN ⟨#[97, 98]⟩).c, .int .i64 (numN 2).k, .int .i64 (numN 2).n, .string (numN 2).t, .slice (numN 2).a (numN 2).m (numN 2).c] 26)) hb12)
  have HDb := Lib.hid (blk_below (blk_alloc HDb.out (.cells #[.int .i64 (strN ⟨#[97, 98]⟩).k, .int .i64 (strN ⟨#[97, 98]⟩).n, .string (strN ⟨#[97, 98]⟩).t, .slice (strN ⟨#[97, 98]⟩).a (strN ⟨#[97, 98]⟩).m (strN ⟨#[97, 98]⟩).c, .int .i64 (numN 2).k, .int .i64 (numN 2).n, .string (numN 2).t, .slice (numN 2).a (numN 2).m (numN 2).c] 26)) hb12)
  clear hb12 hba
  have HDc := Lib.hid (blk_new w12 (.cells #[.int .i64 0, .int .i64 0, .string ⟨#[]⟩, .slice none 0 0] 26 (0, 0)))
  have HB13 := Lib.hid (below_alloc HB12.out (.cells #[.int .i64 0, .int .i64 0, .string ⟨#[]⟩, .slice none 0 0] 26))
  have HDa := Lib.hid (blk_alloc HDa.out (.cells #[.int .i64 0, .int .i64 0, .string ⟨#[]⟩, .slice none 0 0] 26))
  have HDb := Lib.hid (blk_alloc HDb.out (.cells #[.int .i64 0, .int .i64 0, .string ⟨#[]⟩, .slice none 0 0] 26))
  go_upto_region 4 with (fail)
  generalize w12.alloc (.cells #[.int .i64 0, .int .i64 0, .string ⟨#[]⟩, .slice none 0 0] 26) = w13 at HDa HDb HDc HB13 ⊢
  generalize w12.heap.size = bDc at HDc ⊢
  go_wp2_with fail
  refine (arity_48 _ (HL.out.later HB13.out).spt).mono ?_
  rintro e14 w14 ⟨rfl, hb14⟩
  have HB14 := Lib.hid (below_step HB13.out hb14)
  have HDa := Lib.hid (blk_below HDa.out hb14)
  have HDb := Lib.hid (blk_below HDb.out hb14)
  have HDc := Lib.hid (blk_below HDc.out hb14)
  clear hb14
  go_wp2_with fail
  refine (find_of ⟨#[99, 97, 114]⟩ _ (HL.out.later HB14.out).spt).mono ?_
  rintro e15 w15 ⟨rfl, hb15⟩
  have HB15 := Lib.hid (below_step HB14.out hb15)
  have HDa := Lib.hid (blk_below HDa.out hb15)
  have HDb := Lib.hid (blk_below HDb.out hb15)
  have HDc := Lib.hid (blk_below HDc.out hb15)
  clear hb15
  rw [show findN ⟨#[99, 97, 114]⟩ = 10 by kernel_rfl]
  go_wp2_with fail
  refine (name_of 10 _ (HL.out.later HB15.out).spt).mono ?_
  rintro e16 w16 ⟨rfl, hb16⟩
  have HB16 := Lib.hid (below_step HB15.out hb16)
  have HDa := Lib.hid (blk_below HDa.out hb16)
  have HDb := Lib.hid (blk_below HDb.out hb16)
  have HDc := Lib.hid (blk_below HDc.out hb16)
  clear hb16
  rw [show nameS (nameN 10) = ⟨#[99, 97, 114]⟩ from rfl]
  have a1 : w16.cell? ⟨bDa, 1, none⟩ = some (.int .i64 5) := blk_cell HDa.out 1
  have a2 : w16.cell? ⟨bDb, 2, none⟩ = some (.string ⟨#[98, 99]⟩) := blk_cell HDb.out 2
  go_wp2_with fail
  refine (name_ab ⟨#[115, 116, 114, 105, 110, 103, 45, 114, 101, 102]⟩ 13 (by decide) _ (HL.out.later HB16.out).et).mono ?_
  rintro e17 w17 ⟨rfl, hb17⟩
  have HB17 := Lib.hid (below_step HB16.out hb17)
  have HDa := Lib.hid (blk_below HDa.out hb17)
  have HDb := Lib.hid (blk_below HDb.out hb17)
  have HDc := Lib.hid (blk_below HDc.out hb17)
  clear hb17
  have heq : ∀ w, (binOp .eql 34 (nameV 13 ⟨#[115, 116, 114, 105, 110, 103, 45, 114, 101, 102]⟩) (nameV 13 ⟨#[115, 116, 114, 105, 110, 103, 45, 114, 101, 102]⟩)).run Tryz.prog w = .ok (.bool true) w := fun w => name_eql 13 ⟨#[115, 116, 114, 105, 110, 103, 45, 114, 101, 102]⟩ w
  go_wp2_with fail
  go_ret
  exact ⟨rfl, HB17.out⟩
end Go.Proofs.YtneokkhnjnomdaaGreatDoor
