/-
  The law of the next token.
-/
import Derived.Test.YthighbbikpnpgaaDoorLrL
import Derived.Test.YthighbbikpnpgaaDoorLrM
import Derived.Test.YthighbbikpnpgaaDoorLrN
import Derived.Test.YthighbbikpnpgaaDoorLrE
import Derived.Test.YthighbbikpnpgaaDoorLB5
import Derived.Deep.RegionHeld3
namespace Go.Proofs.YthighbbikpnpgaaDoor
open Go.RowKit Go.Proofs.YthighbbikpnpgaaDoorW.PrintWords Go.ChangeShapes Go.WideShapes Go.ChangeAt

theorem fault_eq_in (d : Nat) (k l c : Int) (w : World) : (Op.equalIn (d + 3) 64 (faultV k l c) (faultV k l c)).run Tryd.prog w = .ok true w := by
  have i3 : ∀ (a : Int) (d : Nat), (Op.equalIn (d + 1) 3 (.int .i64 a) (.int .i64 a)).run Tryd.prog w = .ok true w := fun a d => by
    simp [Op.equalIn, run_underlying Tryd.underlying3]
  refine eqA_of (P := Tryd.prog) Tryd.underlying64 (by kernel_rfl) ?_
  refine eqf_end (a := .int .i64 k) (b := .int .i64 k) (by kernel_rfl) (by kernel_rfl) (by kernel_rfl) (i3 _ _) ?_
  refine eqf_end (a := .int .i64 l) (b := .int .i64 l) (by kernel_rfl) (by kernel_rfl) (by kernel_rfl) (i3 _ _) ?_
  refine eqf_end (a := .int .i64 c) (b := .int .i64 c) (by kernel_rfl) (by kernel_rfl) (by kernel_rfl) (i3 _ _) ?_
  exact eqf_nil
theorem fault_eql (k l c : Int) (w : World) : (binOp .eql 64 (faultV k l c) (faultV k l c)).run Tryd.prog w = .ok (.bool true) w := by
  have h := fault_eq_in 9997 k l c w
  unfold faultV at h ⊢
  simp only [binOp]
  simp [Op.equal, Op.maxDepth, h]

set_option maxRecDepth 400000 in
set_option maxHeartbeats 8000000 in
theorem LexNext_long (s : ByteArray) (a l c : Int) (w : World) (hg : EtIs w) (hs : 4096 < s.size) : Calls Tryd.prog 6 #[.string s, .int .i64 a, .int .i64 l, .int .i64 c] w (NextTo (.bool true) w) := by
  have HG := Lib.hid hg
  have hb : decide ((4096 : Int) < (s.size : Nat)) = true := decide_eq_true (by omega)
  have hb' : (4096 : Int) < (s.size : Nat) := by omega
  clear hg hs
  go_enter Tryd.func6, Tryd.ntmps6
  go_wp2_with fail
  refine (awake_lex _ HG.out).mono ?_
  rintro e w1 hw1
  obtain rfl := hw1.ret
  have HB1 := Lib.hid hw1.below
  clear hw1
  go_wp2_with fail
  refine (awake_lex _ (et_below HG.out HB1.out)).mono ?_
  rintro e w2 hw2
  obtain rfl := hw2.ret
  have HB2 := Lib.hid (below_step HB1.out hw2.below)
  clear hw2
  go_wp2_with fail
  go_ret
  exact ⟨rfl, HB2.out⟩

set_option maxRecDepth 400000 in
set_option maxHeartbeats 8000000 in
theorem LexNext_core (s : ByteArray) (a l c : Int) (w : World) (hg : EtIs w) (hs : ¬ 4096 < s.size) (tt : TokR) (ev : Value) (fk fl fc : Int)
    (cN : ∀ w, Calls Tryd.prog 32 #[.string s, .int .i64 a, .int .i64 l, .int .i64 c] w (NextTo (.tuple #[tokV tt, ev]) w))
    (cR : ∀ w, Calls Tryd.prog 33 #[.string s, .int .i64 a, .int .i64 l, .int .i64 c] w (NextTo (.tuple #[tokV tt, faultV fk fl fc]) w))
    (cF : ∀ w, EtIs w → Calls Tryd.prog 34 #[ev] w (FaultTo fk fl fc w)) : Calls Tryd.prog 6 #[.string s, .int .i64 a, .int .i64 l, .int .i64 c] w (NextTo (.bool true) w) := by
  have HG := Lib.hid hg
  have HcN := Lib.hid cN
  have HcR := Lib.hid cR
  have HcF := Lib.hid cF
  have hb : decide ((4096 : Int) < (s.size : Nat)) = false := decide_eq_false (by omega)
  have hb' : ¬ (4096 : Int) < (s.size : Nat) := by omega
  clear hg hs cN cR cF
  rw [show tokV tt = .agg #[.int .i64 tt.k, .int .i64 tt.n, .string ⟨tt.x.toArray⟩, .int .i64 tt.ln, .int .i64 tt.cl, .int .i64 (tt.nx : Nat)] from rfl] at HcN HcR
  go_enter Tryd.func6, Tryd.ntmps6
  go_wp2_with fail
  refine (awake_lex _ HG.out).mono ?_
  rintro e w1 hw1
  obtain rfl := hw1.ret
  have HB1 := Lib.hid hw1.below
  clear hw1
  go_wp2_with fail
  refine (HcN.out _).mono ?_
  rintro e w2 hw2
  obtain rfl := hw2.ret
  have HB2 := Lib.hid (below_step HB1.out hw2.below)
  clear hw2
  go_wp2_with fail
  refine (HcR.out _).mono ?_
  rintro e w3 hw3
  obtain rfl := hw3.ret
  have HX3 := Lib.hid (show w3.heap[w2.heap.size]? = some (.cells #[.int .i64 tt.k, .int .i64 tt.n, .string ⟨tt.x.toArray⟩, .int .i64 tt.ln, .int .i64 tt.cl, .int .i64 (tt.nx : Nat)] TT (0, 0)) from (hw3.below.block _ (by simp)).trans (blk_new w2 _))
  have HB3 := Lib.hid (below_step (below_alloc HB2.out _) hw3.below)
  clear hw3
  go_upto_region 5 with (fail)
  have hV := Lib.hid (show TokAt w3.heap.size tt.k tt.n ⟨tt.x.toArray⟩ tt.ln tt.cl (tt.nx : Nat) ((w3.alloc (.cells #[.int .i64 tt.k, .int .i64 tt.n, .string ⟨tt.x.toArray⟩, .int .i64 tt.ln, .int .i64 tt.cl, .int .i64 (tt.nx : Nat)] TT)).alloc (.cells #[.int .i64 fk, .int .i64 fl, .int .i64 fc] 64)) from blk_alloc (blk_new w3 _) _)
  have hZ := Lib.hid (show FltAt (w3.heap.size + 1) fk fl fc ((w3.alloc (.cells #[.int .i64 tt.k, .int .i64 tt.n, .string ⟨tt.x.toArray⟩, .int .i64 tt.ln, .int .i64 tt.cl, .int .i64 (tt.nx : Nat)] TT)).alloc (.cells #[.int .i64 fk, .int .i64 fl, .int .i64 fc] 64)) from by
    have := blk_new (w3.alloc (.cells #[.int .i64 tt.k, .int .i64 tt.n, .string ⟨tt.x.toArray⟩, .int .i64 tt.ln, .int .i64 tt.cl, .int .i64 (tt.nx : Nat)] TT)) (.cells #[.int .i64 fk, .int .i64 fl, .int .i64 fc] 64 (0, 0))
    rw [show (w3.alloc (.cells #[.int .i64 tt.k, .int .i64 tt.n, .string ⟨tt.x.toArray⟩, .int .i64 tt.ln, .int .i64 tt.cl, .int .i64 (tt.nx : Nat)] TT)).heap.size = w3.heap.size + 1 by simp] at this
    exact this)
  have hX := Lib.hid (show TokAt w2.heap.size tt.k tt.n ⟨tt.x.toArray⟩ tt.ln tt.cl (tt.nx : Nat) ((w3.alloc (.cells #[.int .i64 tt.k, .int .i64 tt.n, .string ⟨tt.x.toArray⟩, .int .i64 tt.ln, .int .i64 tt.cl, .int .i64 (tt.nx : Nat)] TT)).alloc (.cells #[.int .i64 fk, .int .i64 fl, .int .i64 fc] 64)) from blk_alloc (blk_alloc HX3.out _) _)
  have HB5 := Lib.hid (show Below w.heap.size w ((w3.alloc (.cells #[.int .i64 tt.k, .int .i64 tt.n, .string ⟨tt.x.toArray⟩, .int .i64 tt.ln, .int .i64 tt.cl, .int .i64 (tt.nx : Nat)] TT)).alloc (.cells #[.int .i64 fk, .int .i64 fl, .int .i64 fc] 64)) from below_alloc (below_alloc HB3.out _) _)
  generalize (w3.alloc (.cells #[.int .i64 tt.k, .int .i64 tt.n, .string ⟨tt.x.toArray⟩, .int .i64 tt.ln, .int .i64 tt.cl, .int .i64 (tt.nx : Nat)] TT)).alloc (.cells #[.int .i64 fk, .int .i64 fl, .int .i64 fc] 64) = w5 at hV hZ hX HB5 ⊢
  generalize w2.heap.size = b2 at hX ⊢
  generalize w3.heap.size = b3 at hV hZ ⊢
  have k0 : w5.cell? ⟨b2, 0, none⟩ = some (.int .i64 tt.k) := blk_cell hX.out 0
  have k1 : w5.cell? ⟨b2, 1, none⟩ = some (.int .i64 tt.n) := blk_cell hX.out 1
  have k2 : w5.cell? ⟨b2, 2, none⟩ = some (.string ⟨tt.x.toArray⟩) := blk_cell hX.out 2
  have k3 : w5.cell? ⟨b2, 3, none⟩ = some (.int .i64 tt.ln) := blk_cell hX.out 3
  have k4 : w5.cell? ⟨b2, 4, none⟩ = some (.int .i64 tt.cl) := blk_cell hX.out 4
  have k5 : w5.cell? ⟨b2, 5, none⟩ = some (.int .i64 (tt.nx : Nat)) := blk_cell hX.out 5
  have m0 : w5.cell? ⟨b3, 0, none⟩ = some (.int .i64 tt.k) := blk_cell hV.out 0
  have m1 : w5.cell? ⟨b3, 1, none⟩ = some (.int .i64 tt.n) := blk_cell hV.out 1
  have m2 : w5.cell? ⟨b3, 2, none⟩ = some (.string ⟨tt.x.toArray⟩) := blk_cell hV.out 2
  have m3 : w5.cell? ⟨b3, 3, none⟩ = some (.int .i64 tt.ln) := blk_cell hV.out 3
  have m4 : w5.cell? ⟨b3, 4, none⟩ = some (.int .i64 tt.cl) := blk_cell hV.out 4
  have m5 : w5.cell? ⟨b3, 5, none⟩ = some (.int .i64 (tt.nx : Nat)) := blk_cell hV.out 5
  have n0 : w5.cell? ⟨b3 + 1, 0, none⟩ = some (.int .i64 fk) := blk_cell hZ.out 0
  have n1 : w5.cell? ⟨b3 + 1, 1, none⟩ = some (.int .i64 fl) := blk_cell hZ.out 1
  have n2 : w5.cell? ⟨b3 + 1, 2, none⟩ = some (.int .i64 fc) := blk_cell hZ.out 2
  have l2 := blk_lt hX.out
  have l3 := blk_lt hV.out
  have l4 := blk_lt hZ.out
  have heq : ∀ w, (binOp .eql TT (.agg #[.int .i64 tt.k, .int .i64 tt.n, .string ⟨tt.x.toArray⟩, .int .i64 tt.ln, .int .i64 tt.cl, .int .i64 (tt.nx : Nat)]) (.agg #[.int .i64 tt.k, .int .i64 tt.n, .string ⟨tt.x.toArray⟩, .int .i64 tt.ln, .int .i64 tt.cl, .int .i64 (tt.nx : Nat)])).run Tryd.prog w = .ok (.bool true) w := fun w => tok_eql tt w
  have hfq : ∀ w, (binOp .eql 64 (faultV fk fl fc) (faultV fk fl fc)).run Tryd.prog w = .ok (.bool true) w := fun w => fault_eql fk fl fc w
  have cF := Lib.hid (fun (w' : World) (hb : Below w5.heap.size w5 w') => HcF.out w' (et_below (et_below HG.out HB5.out) hb))
  clear hX hV hZ
  go_region_held3 (fun w' => w'.cell? ⟨b2, 0, none⟩ = some (.int .i64 tt.k) ∧ w'.cell? ⟨b2, 1, none⟩ = some (.int .i64 tt.n) ∧ w'.cell? ⟨b2, 2, none⟩ = some (.string ⟨tt.x.toArray⟩) ∧ w'.cell? ⟨b2, 3, none⟩ = some (.int .i64 tt.ln) ∧ w'.cell? ⟨b2, 4, none⟩ = some (.int .i64 tt.cl) ∧ w'.cell? ⟨b2, 5, none⟩ = some (.int .i64 (tt.nx : Nat)) ∧ w'.cell? ⟨b3, 0, none⟩ = some (.int .i64 tt.k) ∧ w'.cell? ⟨b3, 1, none⟩ = some (.int .i64 tt.n) ∧ w'.cell? ⟨b3, 2, none⟩ = some (.string ⟨tt.x.toArray⟩) ∧ w'.cell? ⟨b3, 3, none⟩ = some (.int .i64 tt.ln) ∧ w'.cell? ⟨b3, 4, none⟩ = some (.int .i64 tt.cl) ∧ w'.cell? ⟨b3, 5, none⟩ = some (.int .i64 (tt.nx : Nat)) ∧ w'.cell? ⟨b3 + 1, 0, none⟩ = some (.int .i64 fk) ∧ w'.cell? ⟨b3 + 1, 1, none⟩ = some (.int .i64 fl) ∧ w'.cell? ⟨b3 + 1, 2, none⟩ = some (.int .i64 fc))
    (first | go_keep | exact ⟨(hb6.cell (p := ⟨b2, 0, none⟩) l2).trans k0, (hb6.cell (p := ⟨b2, 1, none⟩) l2).trans k1, (hb6.cell (p := ⟨b2, 2, none⟩) l2).trans k2, (hb6.cell (p := ⟨b2, 3, none⟩) l2).trans k3, (hb6.cell (p := ⟨b2, 4, none⟩) l2).trans k4, (hb6.cell (p := ⟨b2, 5, none⟩) l2).trans k5, (hb6.cell (p := ⟨b3, 0, none⟩) l3).trans m0, (hb6.cell (p := ⟨b3, 1, none⟩) l3).trans m1, (hb6.cell (p := ⟨b3, 2, none⟩) l3).trans m2, (hb6.cell (p := ⟨b3, 3, none⟩) l3).trans m3, (hb6.cell (p := ⟨b3, 4, none⟩) l3).trans m4, (hb6.cell (p := ⟨b3, 5, none⟩) l3).trans m5, (hb6.cell (p := ⟨b3 + 1, 0, none⟩) l4).trans n0, (hb6.cell (p := ⟨b3 + 1, 1, none⟩) l4).trans n1, (hb6.cell (p := ⟨b3 + 1, 2, none⟩) l4).trans n2⟩)
    ((go_at_call 34; refine (cF.out _ (by first | exact Below.refl _ _ | exact Below.drew (Below.refl _ _))).mono ?_; rintro e w6 ⟨rfl, hb6⟩))
  all_goals go_wp2_with fail
  all_goals go_ret
  all_goals exact ⟨rfl, below_step (below_drew HB5.out) hb6⟩

theorem LexNext_short (s : ByteArray) (a l c : Int) (w : World) (hg : EtIs w) (hs : ¬ 4096 < s.size) : Calls Tryd.prog 6 #[.string s, .int .i64 a, .int .i64 l, .int .i64 c] w (NextTo (.bool true) w) := by
  by_cases hb : a < 0 ∨ (s.size : Int) < a ∨ l < 1 ∨ 1073741824 < l ∨ c < 1 ∨ 1073741824 < c
  · refine LexNext_core s a l c w hg hs tok0 (kindV 3) 3 0 0 (fun w => next_bad s a l c w ?_) (fun w => refnext_bad s a l c w hb) (fun w hw => fault_kind 3 (by decide) w hw)
    rcases hb with h | h | h | h | h | h
    · exact .inl h
    · exact .inr (.inl h)
    · exact .inr (.inr (.inl (by omega)))
    · exact .inr (.inr (.inr (by omega)))
    · exact .inr (.inr (.inl (by omega)))
    · exact .inr (.inr (.inr (by omega)))
  · have h1 : 0 ≤ a := by omega
    obtain ⟨i, rfl⟩ : ∃ i : Nat, a = (i : Int) := ⟨a.toNat, by omega⟩
    have cN := fun w => next_ok s i l c w (by omega) (by omega) (by omega) (by omega) (by omega) (by omega)
    have cR := fun w => refnext_ok s i l c w (by omega) (by omega) (by omega) (by omega) (by omega) (by omega)
    have hE := tokP_err s i l c
    obtain ⟨⟨er, t⟩, ht⟩ : ∃ t, tokP s i l c = t := ⟨_, rfl⟩
    rw [ht] at hE
    have cN2 : ∀ w, Calls Tryd.prog 32 #[.string s, .int .i64 (i : Nat), .int .i64 l, .int .i64 c] w (NextTo (tokRet (er, t)) w) := fun w => by rw [← ht]; exact cN w
    have cR2 : ∀ w, Calls Tryd.prog 33 #[.string s, .int .i64 (i : Nat), .int .i64 l, .int .i64 c] w (NextTo (refRet (er, t)) w) := fun w => by rw [← ht]; exact cR w
    by_cases he : er = 0
    · subst he
      exact LexNext_core s i l c w hg hs t .nilIface 0 0 0 cN2 cR2 (fun w _ => fault_nil w)
    · rw [show tokRet (er, t) = .tuple #[tokV tok0, atV t.ln t.cl er] by unfold tokRet; rw [if_neg he]] at cN2
      rw [show refRet (er, t) = .tuple #[tokV tok0, faultV er t.ln t.cl] by unfold refRet; rw [if_neg he]] at cR2
      exact LexNext_core s i l c w hg hs tok0 (atV t.ln t.cl er) er t.ln t.cl cN2 cR2 (fun w hw => fault_at t.ln t.cl er (by simp only at hE; omega) w hw)

set_option maxRecDepth 16000 in
theorem LexNext_top {H : Type} {enc : TypeId × Value → H} (W : World) (base : Nat) (v0 v1 v2 v3 : Value) (d0 d1 d2 d3 : DataW H) (p0 p1 p2 p3 : List MemPlace)
    (hv0 : Value.okWide Tryd.prog W .any base 9 v0) (hv1 : Value.okWide Tryd.prog W .any base 3 v1) (hv2 : Value.okWide Tryd.prog W .any base 3 v2) (hv3 : Value.okWide Tryd.prog W .any base 3 v3)
    (h0 : DataW.Trod enc Tryd.prog W 0 (fun _ => true) true 9 v0 d0 p0) (h1 : DataW.Trod enc Tryd.prog W 0 (fun _ => true) true 3 v1 d1 p1) (h2 : DataW.Trod enc Tryd.prog W 0 (fun _ => true) true 3 v2 d2 p2) (h3 : DataW.Trod enc Tryd.prog W 0 (fun _ => true) true 3 v3 d3 p3)
    {ts : List TypeId} {ds : List (DataW H)} (_ : (DataW.weightsEach Tryd.prog ts ds).all (· ≤ reachBytes) = true) (hT : EtIs W) :
    Calls Tryd.prog 6 #[v0, v1, v2, v3] W fun e w' => e = .returned (.bool true) ∧ Below W.heap.size W w' := by
  obtain ⟨s, rfl, rfl, rfl, _⟩ := Go.ChangeMaps.open_string Tryd.underlying9 hv0 h0
  obtain ⟨a, rfl, rfl, rfl, _⟩ := open_int Tryd.underlying3 hv1 h1
  obtain ⟨l, rfl, rfl, rfl, _⟩ := open_int Tryd.underlying3 hv2 h2
  obtain ⟨c, rfl, rfl, rfl, _⟩ := open_int Tryd.underlying3 hv3 h3
  by_cases hs : 4096 < s.size
  · exact (LexNext_long s a l c W hT hs).mono fun e w' h => ⟨h.ret, h.below⟩
  · exact (LexNext_short s a l c W hT hs).mono fun e w' h => ⟨h.ret, h.below⟩
end Go.Proofs.YthighbbikpnpgaaDoor
