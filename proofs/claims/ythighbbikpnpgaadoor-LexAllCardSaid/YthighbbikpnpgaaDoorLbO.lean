/-
  The law of all tokens.
-/
import Derived.Test.YthighbbikpnpgaaDoorLrO
import Derived.Test.YthighbbikpnpgaaDoorLrP
import Derived.Test.YthighbbikpnpgaaDoorLbN
import Derived.Deep.RegionHeld3
namespace Go.Proofs.YthighbbikpnpgaaDoor
open Go.RowKit Go.Proofs.YthighbbikpnpgaaDoorW.PrintWords Go.ChangeShapes Go.WideShapes Go.ChangeAt

set_option maxRecDepth 400000 in
set_option maxHeartbeats 8000000 in
theorem refall_long (T : ByteArray) (w : World) (hT : 16384 < T.size) :
    Calls Tryd.prog 36 #[.string T] w fun e w' => e = .returned (.tuple #[.slice none 0 0, faultV 14 0 0]) ∧ Below w.heap.size w w' := by
  have hb : decide ((16384 : Int) < (T.size : Nat)) = true := decide_eq_true (by omega)
  have hb' : (16384 : Int) < (T.size : Nat) := by omega
  go_enter Tryd.func36, Tryd.ntmps36
  (go_wp2_with fail; repeat (go_region; go_wp2_with fail))
  go_returns
  exact ⟨rfl, below_alloc (Below.refl _ _) _⟩

structure AllBoth (L : List TokR) (x : Value) (w : World) (e : Ending) (w' : World) : Prop where
  ret : ∃ v, e = .returned (.tuple #[v, x]) ∧ RowAt L v w'
  below : Below w.heap.size w w'

theorem allP_err (T : ByteArray) : ∀ (f i : Nat) (l c : Int), 0 ≤ (allP T f i l c).1.1 ∧ (allP T f i l c).1.1 ≤ 14 := by
  intro f
  induction f with
  | zero => intro i l c; exact ⟨Int.le_refl 0, show (0 : Int) ≤ 14 by decide⟩
  | succ f ih =>
    intro i l c
    rw [allP]
    have := tokP_err T i l c
    split
    · exact this
    · split
      · exact ⟨Int.le_refl 0, show (0 : Int) ≤ 14 by decide⟩
      · exact ih _ _ _
theorem allP_few {T : ByteArray} : ∀ (f i : Nat) (l c : Int), (allP T f i l c).2.length ≤ f := by
  intro f
  induction f with
  | zero => intro i l c; exact Nat.le_refl 0
  | succ f ih =>
    intro i l c
    rw [allP]
    split
    · simp
    · split
      · simp
      · have := ih (tokP T i l c).2.nx (whereL ((T.data.toList.drop i).take ((tokP T i l c).2.nx - i)) l c).1 (whereL ((T.data.toList.drop i).take ((tokP T i l c).2.nx - i)) l c).2
        simp only [List.length_cons]
        omega

set_option maxRecDepth 400000 in
set_option maxHeartbeats 8000000 in
theorem LexAll_long (s : ByteArray) (w : World) (hg : EtIs w) (hs : 32768 < s.size) : Calls Tryd.prog 7 #[.string s] w (NextTo (.bool true) w) := by
  have HG := Lib.hid hg
  have hb : decide ((32768 : Int) < (s.size : Nat)) = true := decide_eq_true (by omega)
  have hb' : (32768 : Int) < (s.size : Nat) := by omega
  clear hg hs
  go_enter Tryd.func7, Tryd.ntmps7
  go_wp2_with fail
  refine (awake_lex _ HG.out).mono ?_
  rintro e w1 hw1
  obtain rfl := hw1.ret
  have HB1 := Lib.hid hw1.below
  clear hw1
  go_wp2_with fail
  refine (awake_lex _ (et_below HG.out HB1.out)).mono ?_
  rintro e w2 hw2
  obtain rfl := hw2.ret
  have HB2 := Lib.hid (below_step HB1.out hw2.below)
  clear hw2
  go_wp2_with fail
  go_ret
  exact ⟨rfl, HB2.out⟩

set_option maxRecDepth 400000 in
set_option maxHeartbeats 8000000 in
theorem LexAll_core (s : ByteArray) (w : World) (hg : EtIs w) (hs : ¬ 32768 < s.size) (LT : List TokR) (hL : LT.length ≤ 1000000000) (ev : Value) (fk fl fc : Int)
    (cN : ∀ w, Calls Tryd.prog 35 #[.string s] w (AllBoth LT ev w))
    (cR : ∀ w, Calls Tryd.prog 36 #[.string s] w (AllBoth LT (faultV fk fl fc) w))
    (cF : ∀ w, EtIs w → Calls Tryd.prog 34 #[ev] w (FaultTo fk fl fc w)) : Calls Tryd.prog 7 #[.string s] w (NextTo (.bool true) w) := by
  have HG := Lib.hid hg
  have HcN := Lib.hid cN
  have HcR := Lib.hid cR
  have HcF := Lib.hid cF
  have HL := Lib.hid hL
  have hb : decide ((32768 : Int) < (s.size : Nat)) = false := decide_eq_false (by omega)
  have hb' : ¬ (32768 : Int) < (s.size : Nat) := by omega
  clear hg hs cN cR cF hL
  go_enter Tryd.func7, Tryd.ntmps7
  go_wp2_with fail
  refine (awake_lex _ HG.out).mono ?_
  rintro e w1 hw1
  obtain rfl := hw1.ret
  have HB1 := Lib.hid hw1.below
  clear hw1
  go_wp2_with fail
  refine (HcN.out _).mono ?_
  rintro e w2 hw2
  obtain ⟨va, rfl, hr2⟩ := hw2.ret
  have HR2 := Lib.hid hr2
  have HB2 := Lib.hid (below_step HB1.out hw2.below)
  clear hw2 hr2
  go_wp2_with fail
  refine (HcR.out _).mono ?_
  rintro e w3 hw3
  obtain ⟨vb, rfl, hr3⟩ := hw3.ret
  have HR3 := Lib.hid (hr3.below (below_alloc (Below.refl _ _) (.cells #[.int .i64 fk, .int .i64 fl, .int .i64 fc] 64)))
  have HA3 := Lib.hid ((HR2.out.below hw3.below).below (below_alloc (Below.refl _ _) (.cells #[.int .i64 fk, .int .i64 fl, .int .i64 fc] 64)))
  have HB3 := Lib.hid (below_alloc (below_step HB2.out hw3.below) (.cells #[.int .i64 fk, .int .i64 fl, .int .i64 fc] 64))
  have HZ := Lib.hid (blk_new w3 (.cells #[.int .i64 fk, .int .i64 fl, .int .i64 fc] 64 (0, 0)))
  clear hw3 hr3
  go_upto_region 5 with (fail)
  generalize w3.alloc (.cells #[.int .i64 fk, .int .i64 fl, .int .i64 fc] 64) = w5 at HR3 HA3 HB3 HZ ⊢
  generalize w3.heap.size = b3 at HZ ⊢
  have n0 : w5.cell? ⟨b3, 0, none⟩ = some (.int .i64 fk) := blk_cell HZ.out 0
  have n1 : w5.cell? ⟨b3, 1, none⟩ = some (.int .i64 fl) := blk_cell HZ.out 1
  have n2 : w5.cell? ⟨b3, 2, none⟩ = some (.int .i64 fc) := blk_cell HZ.out 2
  have l4 := blk_lt HZ.out
  have hfq : ∀ w, (binOp .eql 64 (faultV fk fl fc) (faultV fk fl fc)).run Tryd.prog w = .ok (.bool true) w := fun w => fault_eql fk fl fc w
  have cS := Lib.hid (fun (w' : World) (hb : Below w5.heap.size w5 w') => same_toks LT va vb w' (HA3.out.below hb) (HR3.out.below hb) HL.out)
  have cF := Lib.hid (fun (w' : World) (hb : Below w5.heap.size w5 w') => HcF.out w' (et_below (et_below HG.out HB3.out) hb))
  clear HZ
  go_region_held3 (fun w' => w'.cell? ⟨b3, 0, none⟩ = some (.int .i64 fk) ∧ w'.cell? ⟨b3, 1, none⟩ = some (.int .i64 fl) ∧ w'.cell? ⟨b3, 2, none⟩ = some (.int .i64 fc))
    (first | go_keep | exact ⟨(hb6.cell (p := ⟨b3, 0, none⟩) l4).trans n0, (hb6.cell (p := ⟨b3, 1, none⟩) l4).trans n1, (hb6.cell (p := ⟨b3, 2, none⟩) l4).trans n2⟩ | exact ⟨(hb7.cell (p := ⟨b3, 0, none⟩) (Nat.lt_of_lt_of_le l4 hb6.size)).trans ((hb6.cell (p := ⟨b3, 0, none⟩) l4).trans n0), (hb7.cell (p := ⟨b3, 1, none⟩) (Nat.lt_of_lt_of_le l4 hb6.size)).trans ((hb6.cell (p := ⟨b3, 1, none⟩) l4).trans n1), (hb7.cell (p := ⟨b3, 2, none⟩) (Nat.lt_of_lt_of_le l4 hb6.size)).trans ((hb6.cell (p := ⟨b3, 2, none⟩) l4).trans n2)⟩)
    (first
      | (go_at_call 37; refine (cS.out _ (by first | exact Below.refl _ _ | exact Below.drew (Below.refl _ _))).mono ?_; rintro e w6 ⟨rfl, hb6⟩)
      | (go_at_call 34; refine (cF.out _ (by first | exact below_step (Below.drew (Below.refl _ _)) hb6 | exact hb6)).mono ?_; rintro e w7 ⟨rfl, hb7⟩))
  all_goals go_wp2_with fail
  all_goals go_ret
  all_goals exact ⟨rfl, below_step (below_step (below_drew HB3.out) hb6) hb7⟩

theorem LexAll_short (s : ByteArray) (w : World) (hg : EtIs w) (hs : ¬ 32768 < s.size) : Calls Tryd.prog 7 #[.string s] w (NextTo (.bool true) w) := by
  by_cases hb : 16384 < s.size
  · exact LexAll_core s w hg hs [] (by simp) (kindV 14) 14 0 0 (fun w => (all_long s w hb).mono fun e w' h => ⟨⟨_, h.1, ⟨⟨none, 0, rfl, fun k x hx => by simp at hx⟩⟩⟩, h.2⟩)
      (fun w => (refall_long s w hb).mono fun e w' h => ⟨⟨_, h.1, ⟨⟨none, 0, rfl, fun k x hx => by simp at hx⟩⟩⟩, h.2⟩) (fun w hw => fault_kind 14 (by decide) w hw)
  · have cN := fun w => all_any s w (by omega)
    have cR := fun w => refall_any s w (by omega)
    have hE := allP_err s (s.size + 1) 0 1 1
    have hf := allP_few (T := s) (s.size + 1) 0 1 1
    obtain ⟨R, hR⟩ : ∃ R, allP s (s.size + 1) 0 1 1 = R := ⟨_, rfl⟩
    rw [hR] at hE hf
    obtain ⟨⟨er, el, ec⟩, LT⟩ := R
    have cN2 : ∀ w, Calls Tryd.prog 35 #[.string s] w (AllTo ((er, el, ec), LT) w) := fun w => by rw [← hR]; exact cN w
    have cR2 : ∀ w, Calls Tryd.prog 36 #[.string s] w (RefAllTo ((er, el, ec), LT) w) := fun w => by rw [← hR]; exact cR w
    by_cases he : er = 0
    · subst he
      refine LexAll_core s w hg hs LT (by simp only at hf; omega) .nilIface 0 0 0 (fun w => (cN2 w).mono fun e w' h => ?_) (fun w => (cR2 w).mono fun e w' h => ?_) (fun w _ => fault_nil w)
      · obtain ⟨v, rfl, -, ho⟩ := h.ret
        exact ⟨⟨v, rfl, ⟨own_cellsN (ho rfl)⟩⟩, h.below⟩
      · obtain ⟨v, rfl, -, ho⟩ := h.ret
        exact ⟨⟨v, rfl, ⟨own_cellsN (ho rfl)⟩⟩, h.below⟩
    · refine LexAll_core s w hg hs [] (by simp) (atV el ec er) er el ec (fun w => (cN2 w).mono fun e w' h => ?_) (fun w => (cR2 w).mono fun e w' h => ?_) (fun w hw => fault_at el ec er (by simp only at hE; omega) w hw)
      · obtain ⟨v, rfl, hn, -⟩ := h.ret
        obtain rfl := hn he
        exact ⟨⟨.slice none 0 0, by simp only [allErr, if_neg he], ⟨⟨none, 0, rfl, fun k x hx => by simp at hx⟩⟩⟩, h.below⟩
      · obtain ⟨v, rfl, hn, -⟩ := h.ret
        obtain rfl := hn he
        exact ⟨⟨.slice none 0 0, by simp only [refErr, if_neg he], ⟨⟨none, 0, rfl, fun k x hx => by simp at hx⟩⟩⟩, h.below⟩

set_option maxRecDepth 16000 in
theorem LexAll_top {H : Type} {enc : TypeId × Value → H} (W : World) (base : Nat) (v0 : Value) (d0 : DataW H) (p0 : List MemPlace) (hv0 : Value.okWide Tryd.prog W .any base 9 v0) (h0 : DataW.Trod enc Tryd.prog W 0 (fun _ => true) true 9 v0 d0 p0)
    {ts : List TypeId} {ds : List (DataW H)} (_ : (DataW.weightsEach Tryd.prog ts ds).all (· ≤ reachBytes) = true) (hT : EtIs W) :
    Calls Tryd.prog 7 #[v0] W fun e w' => e = .returned (.bool true) ∧ Below W.heap.size W w' := by
  obtain ⟨s, rfl, rfl, rfl, _⟩ := Go.ChangeMaps.open_string Tryd.underlying9 hv0 h0
  by_cases hs : 32768 < s.size
  · exact (LexAll_long s W hT hs).mono fun e w' h => ⟨h.ret, h.below⟩
  · exact (LexAll_short s W hT hs).mono fun e w' h => ⟨h.ret, h.below⟩
end Go.Proofs.YthighbbikpnpgaaDoor
