/-
  The law of numbers.
-/
import Derived.Test.YthighbbikpnpgaaDoorLB5
import Derived.ProofKit
import Derived.OpenShut
namespace Go.Proofs.YthighbbikpnpgaaDoor
open Go.RowKit Go.Proofs.YthighbbikpnpgaaDoorW.PrintWords Go.ChangeShapes Go.WideShapes Go.ChangeAt

theorem dig_num {c : UInt8} (h : digB c = true) : numB c = true := by simp [numB, h]
theorem itoa_num (n : Int) (h0 : -9223372036854775808 ≤ n) (h1 : n ≤ 9223372036854775807) : Lib.itoa n ≠ [] ∧ (Lib.itoa n).all numB = true ∧ okL (bodyL (Lib.itoa n)) = true ∧ (Lib.itoa n).length ≤ 21 := by
  unfold Lib.itoa
  by_cases hn : n < 0
  · obtain ⟨d1, d2, d3⟩ := i_dec_facts n.natAbs
    have hl := i_dec_len n.natAbs (by omega)
    rw [if_pos hn]
    refine ⟨by simp, ?_, ?_, by simp; omega⟩
    · rw [List.all_cons, Bool.and_eq_true]
      exact ⟨by decide, List.all_eq_true.2 fun x hx => dig_num (List.all_eq_true.1 d1 x hx)⟩
    · show okL (Lib.decDigits n.natAbs) = true
      simp [okL, d1, d3]; omega
  · obtain ⟨d1, d2, d3⟩ := i_dec_facts n.toNat
    have hl := i_dec_len n.toNat (by omega)
    rw [if_neg hn]
    refine ⟨fun e => by rw [e] at d3; simp at d3, List.all_eq_true.2 fun x hx => dig_num (List.all_eq_true.1 d1 x hx), ?_, by omega⟩
    rw [(i_dec_head n.toNat).1]
    simp [okL, d1, d3]; omega

/-- A number's text: its one token, or the error. -/
theorem num_all (n : Int) (h0 : -9223372036854775808 ≤ n) (h1 : n ≤ 9223372036854775807) (f : Nat) :
    (Num n = true → ∃ ln cl nx, allP ⟨(Lib.itoa n).toArray⟩ (f + 2) 0 1 1 = ((0, 0, 0), [⟨9, n, [], ln, cl, nx⟩])) ∧ (Num n = false → allP ⟨(Lib.itoa n).toArray⟩ (f + 2) 0 1 1 = ((11, 1, 1), [])) := by
  obtain ⟨a, b, c, _⟩ := itoa_num n h0 h1
  obtain ⟨e1, e2⟩ := num_tok _ a b c
  rw [i_parse_itoa n h0 h1] at e1 e2
  constructor
  · intro hn
    rw [fitL, if_pos hn] at e1 e2
    have e3 := e2 rfl
    rw [e3] at e1
    exact ⟨1, 1, _, allP_one e1 (by simp) rfl⟩
  · intro hn
    rw [fitL, if_neg (by rw [hn]; decide)] at e1
    exact allP_bad e1 (by decide)

set_option maxRecDepth 400000 in
set_option maxHeartbeats 4000000 in
theorem LexNumbers_walk (n : Int) (h0 : -9223372036854775808 ≤ n) (h1 : n ≤ 9223372036854775807) (w : World) (hg : EtIs w) : Calls Tryd.prog 10 #[.int .i64 n] w (NextTo (.bool true) w) := by
  have HG := Lib.hid hg
  obtain ⟨_, _, _, hlen⟩ := itoa_num n h0 h1
  have hsz : (⟨(Lib.itoa n).toArray⟩ : ByteArray).size = (Lib.itoa n).length := by show (Lib.itoa n).toArray.size = _; simp
  have cA := Lib.hid (fun w => all_any ⟨(Lib.itoa n).toArray⟩ w (by rw [hsz]; omega))
  have HN := Lib.hid (fun f => num_all n h0 h1 f)
  have cT := Lib.hid (fun w => reftext_any n w h0 h1)
  have HF := Lib.hid (show ∃ f, (⟨(Lib.itoa n).toArray⟩ : ByteArray).size + 1 = f + 2 from ⟨(Lib.itoa n).length - 1, by
    have := List.length_pos_iff.2 (itoa_num n h0 h1).1
    omega⟩)
  clear hg h0 h1 hlen hsz
  go_enter Tryd.func10, Tryd.ntmps10
  go_wp2_with fail
  refine (cT.out _).mono ?_
  rintro e w1 ⟨rfl, hb1⟩
  have HB1 := Lib.hid hb1
  clear hb1
  go_wp2_with fail
  obtain ⟨f, hf⟩ := HF.out
  refine (cA.out _).mono ?_
  rintro e w2 hw2
  rw [hf] at hw2
  have hnn : Num n = true ∨ Num n = false := by cases Num n <;> simp
  rcases hnn with hn | hn
  · obtain ⟨ln, cl, nx, hall⟩ := (HN.out f).1 hn
    rw [hall] at hw2
    obtain ⟨v, rfl, -, hown⟩ := hw2.ret
    have hb2 := hw2.below
    obtain ⟨g, cap, rfl, hgB, hgc, hgl, hcell⟩ := own_cells (hown rfl) (by simp)
    have c0 : w2.cell? ⟨g, 0, none⟩ = some (.int .i64 9) := hcell 0 _ rfl
    have c1 : w2.cell? ⟨g, 1, none⟩ = some (.int .i64 n) := hcell 1 _ rfl
    have HB2 := Lib.hid (below_step HB1.out hb2)
    clear hw2 hown hcell hall hf hb2
    rw [show allErr (((0, 0, 0), [⟨9, n, [], ln, cl, nx⟩]) : (Int × Int × Int) × List TokR).1 = .nilIface from rfl]
    rw [show (((0, 0, 0), [⟨9, n, [], ln, cl, nx⟩]) : (Int × Int × Int) × List TokR).2.length = 1 from rfl] at hgc ⊢
    go_wp2_with fail
    refine (awake_lex _ (et_below HG.out HB2.out)).mono ?_
    rintro e w3 hw3
    obtain rfl := hw3.ret
    have c30 := (hw3.below.cell (p := ⟨g, 0, none⟩) hgl).trans c0
    have c31 := (hw3.below.cell (p := ⟨g, 1, none⟩) hgl).trans c1
    have HB3 := Lib.hid (below_step HB2.out hw3.below)
    clear hw3 c0 c1
    go_wp2_with fail
    refine (refnum_any n _).mono ?_
    rintro e w4 ⟨rfl, rfl⟩
    rw [hn]
    go_wp2_with fail
    go_ret
    exact ⟨rfl, HB3.out⟩
  · have hall := (HN.out f).2 hn
    rw [hall] at hw2
    obtain ⟨v, rfl, hnil, -⟩ := hw2.ret
    obtain rfl := hnil (by decide)
    have hb2 := hw2.below
    have HB2 := Lib.hid (below_step HB1.out hb2)
    clear hw2 hnil hall hf hb2
    rw [show allErr (((11, 1, 1), []) : (Int × Int × Int) × List TokR).1 = atV 1 1 11 from rfl]
    have hq2 : ∀ w, (binOp .eql 64 (faultV 11 1 1) (faultV 11 1 1)).run Tryd.prog w = .ok (.bool true) w := fun w => by kernel_rfl
    go_wp2_with fail
    refine (awake_lex _ (et_below HG.out HB2.out)).mono ?_
    rintro e w3 hw3
    obtain rfl := hw3.ret
    have HB3 := Lib.hid (below_step HB2.out hw3.below)
    clear hw3
    go_wp2_with fail
    refine (refnum_any n _).mono ?_
    rintro e w4 ⟨rfl, rfl⟩
    rw [hn]
    go_wp2_with fail
    refine (fault_at 1 1 11 (by decide) _ (et_below HG.out HB3.out)).mono ?_
    rintro e w5 hw5
    obtain rfl := hw5.ret
    have HB5 := Lib.hid (below_step HB3.out hw5.below)
    clear hw5
    go_wp2_with fail
    go_ret
    exact ⟨rfl, HB5.out⟩

theorem lex_i64 {n : Int} (h : (Lit.int .i64 n).wf = true) : -9223372036854775808 ≤ n ∧ n ≤ 9223372036854775807 := by
  simp only [Lit.wf, Bool.and_eq_true, decide_eq_true_eq] at h
  exact h

set_option maxRecDepth 16000 in
theorem LexNumbers_top {H : Type} {enc : TypeId × Value → H} (W : World) (base : Nat) (v0 : Value) (d0 : DataW H) (p0 : List MemPlace) (hv0 : Value.okWide Tryd.prog W .any base 3 v0) (h0 : DataW.Trod enc Tryd.prog W 0 (fun _ => true) true 3 v0 d0 p0)
    {ts : List TypeId} {ds : List (DataW H)} (_ : (DataW.weightsEach Tryd.prog ts ds).all (· ≤ reachBytes) = true) (hT : EtIs W) :
    Calls Tryd.prog 10 #[v0] W fun e w' => e = .returned (.bool true) ∧ Below W.heap.size W w' := by
  obtain ⟨n, rfl, rfl, rfl, hwn⟩ := open_int Tryd.underlying3 hv0 h0
  exact (LexNumbers_walk n (lex_i64 hwn).1 (lex_i64 hwn).2 W hT).mono fun e w' h => ⟨h.ret, h.below⟩
end Go.Proofs.YthighbbikpnpgaaDoor
