/-
  The law of arities.
-/
import Derived.Test.YtneokkhnjnomdaaGreatDoorGrC
import Derived.Test.YtneokkhnjnomdaaGreatDoorPrI
import Derived.Test.YtneokkhnjnomdaaGreatDoorPrAr
import Derived.Test.YtneokkhnjnomdaaGreatDoorGB2
namespace Go.Proofs.YtneokkhnjnomdaaGreatDoor
open Go.RowKit Go.Proofs.YtneokkhnjnomdaaGreatDoor.PSh Go.Proofs.YtneokkhnjnomdaaGreatDoorW.PrintWords Go.ChangeShapes Go.WideShapes Go.ChangeAt

theorem fit_e (x : Int) : (fitL x).2 ≠ 10 := by
  unfold fitL
  split
  · exact (show (0 : Int) ≠ 10 by decide)
  · exact (show (11 : Int) ≠ 10 by decide)
theorem div_e (f : Int × Int) (hf : f.2 ≠ 10) (a b : Int) : (divWith f a b).2 ≠ 10 := by
  unfold divWith
  split
  · split
    · decide
    · exact hf
  · decide
theorem numR_e (p : Int × Int) : (numR p).e = p.2 := by
  unfold numR
  split
  · rename_i h; exact h.symm
  · rfl
theorem valR_e (n : Int) (d e f : Nd) : (valR n d e f).e ≠ 10 := by
  unfold valR
  by_cases h1 : n = 1
  · rw [if_pos h1]; rw [numR_e]; unfold addL; split; exact fit_e _; decide
  rw [if_neg h1]
  by_cases h2 : n = 2
  · rw [if_pos h2]; rw [numR_e]; unfold subL; split; exact fit_e _; decide
  rw [if_neg h2]
  by_cases h3 : n = 3
  · rw [if_pos h3]; rw [numR_e]; unfold mulL; split; exact fit_e _; decide
  rw [if_neg h3]
  by_cases h4 : n = 4
  · rw [if_pos h4]; rw [numR_e]; exact div_e _ (fit_e _) _ _
  rw [if_neg h4]
  by_cases h5 : n = 5
  · rw [if_pos h5]; rw [numR_e]; exact div_e _ (show (0 : Int) ≠ 10 by decide) _ _
  rw [if_neg h5]
  by_cases h6 : n = 6
  · rw [if_pos h6]; rw [numR_e]; exact div_e _ (show (0 : Int) ≠ 10 by decide) _ _
  rw [if_neg h6]
  by_cases h7 : n = 7
  · rw [if_pos h7]; exact (show (0 : Int) ≠ 10 by decide)
  rw [if_neg h7]
  by_cases h8 : n = 8
  · rw [if_pos h8]; exact (show (0 : Int) ≠ 10 by decide)
  rw [if_neg h8]
  by_cases h29 : n = 29
  · rw [if_pos h29]; exact (show (0 : Int) ≠ 10 by decide)
  rw [if_neg h29]
  by_cases h30 : n = 30
  · rw [if_pos h30]; unfold charR; split; exact (show (0 : Int) ≠ 10 by decide); exact (show (13 : Int) ≠ 10 by decide)
  rw [if_neg h30]
  by_cases h31 : n = 31
  · rw [if_pos h31]; unfold appR; split; exact (show (0 : Int) ≠ 10 by decide); exact (show (14 : Int) ≠ 10 by decide)
  rw [if_neg h31]
  by_cases h32 : n = 32
  · rw [if_pos h32]; exact (show (0 : Int) ≠ 10 by decide)
  rw [if_neg h32]
  by_cases h33 : n = 33
  · rw [if_pos h33]; unfold cutR; split; exact (show (0 : Int) ≠ 10 by decide); exact (show (13 : Int) ≠ 10 by decide)
  rw [if_neg h33]
  by_cases h34 : n = 34
  · rw [if_pos h34]; exact (show (0 : Int) ≠ 10 by decide)
  rw [if_neg h34]
  by_cases h35 : n = 35
  · rw [if_pos h35]; unfold parseR; split; exact (show (0 : Int) ≠ 10 by decide); exact (show (0 : Int) ≠ 10 by decide)
  rw [if_neg h35]
  by_cases h36 : n = 36
  · rw [if_pos h36]; exact (show (0 : Int) ≠ 10 by decide)
  rw [if_neg h36]
  by_cases h37 : n = 37
  · rw [if_pos h37]; unfold symR; split; exact (show (0 : Int) ≠ 10 by decide); exact (show (9 : Int) ≠ 10 by decide)
  rw [if_neg h37]
  by_cases h38 : n = 38
  · rw [if_pos h38]; exact (show (0 : Int) ≠ 10 by decide)
  rw [if_neg h38]
  unfold byteR; split; exact (show (0 : Int) ≠ 10 by decide); exact (show (13 : Int) ≠ 10 by decide)
theorem res_e10 {n : Int} {L : List Nd} (hlen : L.length = (kindsN n).length) : (resL n L).e ≠ 10 := by
  unfold resL
  rw [if_neg (by simpa using hlen)]
  split
  · exact (show (9 : Int) ≠ 10 by decide)
  · split
    · exact valR_e _ _ _ _
    · exact valR_e _ _ _ _
    · exact valR_e _ _ _ _
    · exact (show (9 : Int) ≠ 10 by decide)
theorem res_len {n : Int} {L : List Nd} (hlen : L.length ≠ (kindsN n).length) : resL n L = errR 10 := by
  unfold resL
  rw [if_pos hlen]

theorem plain_f (x : Dat) (K : Nat) (hp : prt x ≤ 100000) (hK : 5 * szD x ≤ K) : spindleref18_Plain.f K x.f0 x.f1 x.f2 x.f3 = some (plainX x) := by
  unfold spindleref18_Plain.f plainX
  by_cases h1 : 1 ≤ x.f0
  · by_cases h5 : x.f0 ≤ 5
    · simp [h1, h5, Right_f x K hp hK]
    · simp [h1, h5]
  · simp [h1]

set_option maxRecDepth 100000 in
set_option maxHeartbeats 8000000 in
theorem ari_not (n : Int) (l : List Dat) (A : Option Addr) (c : Nat) (w : World) (h : Laid18 w) (hC : Kd.C kD w A l.length l) (hf : fewL l = false) : Calls Tryz.prog 5 #[.int .i64 n, .slice A l.length c] w (Giv (.bool true) w) := by
  have HL := Lib.hid h
  have HB0 := Lib.hid (Below.refl w.heap.size w)
  have HC := Lib.hid (fun w' (hb : Below w.heap.size w w') => Kd.C_below hC hb)
  have HF := Lib.hid hf
  clear h hC hf
  go_enter Tryz.func5, Tryz.ntmps5
  go_wp2_with fail
  refine (awake_18 _ (HL.out.later HB0.out)).mono ?_
  rintro e1 w1 ⟨rfl, hb1⟩
  have HB1 := Lib.hid (below_step HB0.out hb1)
  clear hb1
  go_wp2_with fail
  refine (few_any l A c _ (HC.out _ HB1.out)).mono ?_
  rintro e2 w2 ⟨rfl, hb2⟩
  have HB2 := Lib.hid (below_step HB1.out hb2)
  clear hb2
  rw [HF.out]
  go_wp2_with fail
  refine (awake_18 _ (HL.out.later HB2.out)).mono ?_
  rintro e3 w3 ⟨rfl, hb3⟩
  have HB3 := Lib.hid (below_step HB2.out hb3)
  clear hb3
  go_wp2_with fail
  go_ret
  exact ⟨rfl, HB3.out⟩
set_option maxRecDepth 100000 in
set_option maxHeartbeats 8000000 in
theorem ari_impure (n : Int) (l : List Dat) (A : Option Addr) (c : Nat) (w : World) (h : Laid18 w) (hC : Kd.C kD w A l.length l) (hf : fewL l = true) (hp : pureB n = false) : Calls Tryz.prog 5 #[.int .i64 n, .slice A l.length c] w (Giv (.bool true) w) := by
  have HL := Lib.hid h
  have HB0 := Lib.hid (Below.refl w.heap.size w)
  have HC := Lib.hid (fun w' (hb : Below w.heap.size w w') => Kd.C_below hC hb)
  have HF := Lib.hid hf
  have HP := Lib.hid hp
  clear h hC hf hp
  go_enter Tryz.func5, Tryz.ntmps5
  go_wp2_with fail
  refine (awake_18 _ (HL.out.later HB0.out)).mono ?_
  rintro e1 w1 ⟨rfl, hb1⟩
  have HB1 := Lib.hid (below_step HB0.out hb1)
  clear hb1
  go_wp2_with fail
  refine (few_any l A c _ (HC.out _ HB1.out)).mono ?_
  rintro e2 w2 ⟨rfl, hb2⟩
  have HB2 := Lib.hid (below_step HB1.out hb2)
  clear hb2
  rw [HF.out]
  go_wp2_with fail
  refine (pure_of n _).mono ?_
  rintro e9 w9 ⟨rfl, rfl⟩
  rw [HP.out]
  go_wp2_with fail
  refine (awake_18 _ (HL.out.later HB2.out)).mono ?_
  rintro e3 w3 ⟨rfl, hb3⟩
  have HB3 := Lib.hid (below_step HB2.out hb3)
  clear hb3
  go_wp2_with fail
  go_ret
  exact ⟨rfl, HB3.out⟩
set_option maxRecDepth 100000 in
set_option maxHeartbeats 8000000 in
theorem ari_pure (n : Int) (l : List Dat) (A : Option Addr) (c : Nat) (w : World) (h : Laid18 w) (hC : Kd.C kD w A l.length l) (hb : ∀ x ∈ l, bndX x) (hf : fewL l = true) (hp : pureB n = true) : Calls Tryz.prog 5 #[.int .i64 n, .slice A l.length c] w (Giv (.bool true) w) := by
  have HL := Lib.hid h
  have HB0 := Lib.hid (Below.refl w.heap.size w)
  have HC := Lib.hid (fun w' (hb : Below w.heap.size w w') => Kd.C_below hC hb)
  have hfl := few_len hf
  have hfp := few_parts hf
  obtain ⟨L, hl, hN, hA, hOk⟩ := args_nd l A c w hC hb (fun x hx => by have := (hfp x hx).2.1; omega)
  have hany := any_plain hl hN
  have HE := Lib.hid (fun w' (hb : Below w.heap.size w w') => (EvArgs.mk (hA.later hb) (fun d hd => by obtain ⟨p, h⟩ := hOk d hd; exact ⟨p, h.later hb⟩) (by omega) (spt_below h.spt hb) (tab_below h.tab hb) : EvArgs L (.slice A l.length c) w'))
  have HEv := Lib.hid (fun w' hb (hall : l.all plainX = true) => eval_all n L _ w' (HE.out w' hb) hp (by rw [hany, hall]; rfl))
  have HAr := Lib.hid (fun w' (hb : Below w.heap.size w w') => arity_pure n w' (spt_below h.spt hb) hp)
  have HP := Lib.hid hp
  have HF := Lib.hid hf
  have HFP := Lib.hid hfp
  have HLL := Lib.hid hl
  have h63 : l.length ≤ 9223372036854775807 := hC.2.1
  have hK : (kindsN n).length ≤ 3 := by
    rcases pure_cases hp with rfl | rfl | rfl | rfl | rfl | rfl | rfl | rfl | rfl | rfl | rfl | rfl | rfl | rfl | rfl | rfl | rfl | rfl | rfl <;> decide
  have HKL := Lib.hid hK
  clear h hC hf hp hfp hb hN hA hOk hany hl hK HE hfl
  go_enter Tryz.func5, Tryz.ntmps5
  go_wp2_with fail
  refine (awake_18 _ (HL.out.later HB0.out)).mono ?_
  rintro e1 w1 ⟨rfl, hb1⟩
  have HB1 := Lib.hid (below_step HB0.out hb1)
  clear hb1
  go_wp2_with fail
  refine (few_any l A c _ (HC.out _ HB1.out)).mono ?_
  rintro e2 w2 ⟨rfl, hb2⟩
  have HB2 := Lib.hid (below_step HB1.out hb2)
  clear hb2
  rw [HF.out]
  go_wp2_with fail
  refine (pure_of n _).mono ?_
  rintro e9 w9 ⟨rfl, rfl⟩
  rw [HP.out]
  go_wp2_with fail
  go_loopw [26] (fun i wr => ∃ j : Nat, j ≤ l.length ∧ i = .int .i64 (j : Nat) ∧ Hid (Below w.heap.size w wr) ∧ Hid (l.all plainX = (l.drop j).all plainX)) (fun i _ => l.length - (intOf i).toNat)
  case atStart => exact ⟨0, Nat.zero_le _, rfl, HB2, Lib.hid rfl⟩
  case round =>
    obtain ⟨j, hj, rfl, HB, HR⟩ := hrel
    by_cases hlt : j < l.length
    · obtain ⟨ad, rfl, A', c', hDj⟩ := dat_item (HC.out _ HB.out) j hlt hlt
      have HLT := Lib.hid hlt
      have hs : l.all plainX = (plainX (l[j]'hlt) && (l.drop (j + 1)).all plainX) := by rw [HR.out, List.drop_eq_getElem_cons hlt, List.all_cons]
      have hpx := (HFP.out _ (List.getElem_mem hlt)).2.2
      obtain ⟨x, hx⟩ : ∃ x, l[j]'hlt = x := ⟨_, rfl⟩
      rw [hx] at hDj hs hpx
      have HS := Lib.hid hs
      have HPX := Lib.hid hpx
      have d0 := hDj.c0
      have d1 := hDj.c1
      have d2 := hDj.c2
      have d3 := hDj.c3
      have hlx := hDj.len
      obtain ⟨W1, hW1⟩ : ∃ W1, W1 = wr.alloc (.cells #[.int .i64 x.f0, .int .i64 x.f1, .string x.f2, .slice A' x.f3.length c'] 26) := ⟨_, rfl⟩
      have hbw : Below wr.heap.size wr W1 := by rw [hW1]; exact (Below.refl _ _).alloc (Nat.le_refl _) _
      have HBW := Lib.hid hbw
      have HCx := Lib.hid (fun w' (hb : Below wr.heap.size wr w') => Kd.C_below hDj.items hb)
      have HW := Lib.hid hW1
      clear hDj hx hW1 hs hbw hpx
      go_wp2_with fail
      refine (spindleref18_Plain.calls (5 * szD x) x.f0 x.f1 x.f2 A' c' x.f3 _ _ (HCx.out _ (by rw [← HW.out]; exact HBW.out)) hlx (plain_f x _ (by have := HPX.out; omega) (Nat.le_refl _))).mono ?_
      rintro e w2 ⟨rfl, hb2⟩
      rw [← HW.out] at hb2
      have HB2 := Lib.hid (below_trans HB.out (below_trans HBW.out hb2))
      have hsm : plainX x = true ∨ plainX x = false := by cases plainX x <;> simp
      clear d0 d1 d2 d3 hb2
      rcases hsm with hsm | hsm
      · have HN := Lib.hid (show l.all plainX = (l.drop (j + 1)).all plainX by rw [HS.out, hsm, Bool.true_and])
        rw [hsm]
        clear hsm
        go_wp2_with fail
        go_roundw
        case rel => exact ⟨j + 1, HLT.out, by go_num, HB2, HN⟩
        case measure => have := HLT.out; simp [intOf]; omega
      · rw [hsm]
        clear hsm
        go_wp2_with fail
        go_ret
        exact ⟨rfl, HB2.out⟩
    · obtain rfl : j = l.length := by omega
      have HN := Lib.hid (show l.all plainX = true by rw [HR.out, List.drop_length]; rfl)
      have HB3 := HB
      go_wp2_with fail
      refine (HAr.out _ HB3.out).mono ?_
      rintro e4 w4 ⟨rfl, hb4⟩
      have HB4 := Lib.hid (below_step HB3.out hb4)
      clear hb4
      have hcase : (L.length ≠ (kindsN n).length ∧ resL n L = errR 10) ∨ (L.length = (kindsN n).length ∧ (resL n L).e = 0) ∨ (L.length = (kindsN n).length ∧ (resL n L).e ≠ 0 ∧ (resL n L).e ≠ 10) := by
        by_cases h1 : L.length = (kindsN n).length
        · by_cases h2 : (resL n L).e = 0
          · exact .inr (.inl ⟨h1, h2⟩)
          · exact .inr (.inr ⟨h1, h2, res_e10 h1⟩)
        · exact .inl ⟨h1, res_len h1⟩
      have HEv2 := Lib.hid (HEv.out _ HB4.out HN.out)
      rw [HLL.out] at hcase
      have hK := HKL.out
      generalize (kindsN n).length = K at hcase hK ⊢
      rcases hcase with ⟨h1, h2⟩ | ⟨h1, h2⟩ | ⟨h1, h2, h3⟩
      · rw [h2, outV_err _ _ (by decide)] at HEv2
        by_cases hlt2 : l.length < K
        · have t1 : decide (l.length < K) = true := decide_eq_true (by omega)
          clear h1 h2 hlt2
          go_wp2_with fail
          refine HEv2.out.mono ?_
          rintro e5 w5 ⟨rfl, hb5⟩
          have HB5 := Lib.hid (below_step HB4.out hb5)
          clear hb5
          go_wp2_with fail
          refine (is_ab _ 10 10 _).mono ?_
          rintro e6 w6 ⟨rfl, hb6⟩
          have HB6 := Lib.hid (below_step (below_alloc HB5.out _) hb6)
          clear hb6
          go_wp2_with fail
          go_ret
          exact ⟨rfl, HB6.out⟩
        · have t1 : decide (l.length < K) = false := decide_eq_false (by omega)
          have t2 : decide (K < l.length) = true := decide_eq_true (by omega)
          clear h1 h2 hlt2
          go_wp2_with fail
          refine HEv2.out.mono ?_
          rintro e5 w5 ⟨rfl, hb5⟩
          have HB5 := Lib.hid (below_step HB4.out hb5)
          clear hb5
          go_wp2_with fail
          refine (is_ab _ 10 10 _).mono ?_
          rintro e6 w6 ⟨rfl, hb6⟩
          have HB6 := Lib.hid (below_step (below_alloc HB5.out _) hb6)
          clear hb6
          go_wp2_with fail
          go_ret
          exact ⟨rfl, HB6.out⟩
      · unfold outV at HEv2
        rw [if_pos h2] at HEv2
        have t1 : decide (l.length < K) = false := decide_eq_false (by omega)
        have t2 : decide (K < l.length) = false := decide_eq_false (by omega)
        clear h1 h2
        go_wp2_with fail
        refine HEv2.out.mono ?_
        rintro e5 w5 ⟨rfl, hb5⟩
        have HB5 := Lib.hid (below_step HB4.out hb5)
        clear hb5
        go_wp2_with fail
        refine (is_nil 10 _).mono ?_
        rintro e6 w6 ⟨rfl, rfl⟩
        go_wp2_with fail
        go_ret
        exact ⟨rfl, below_alloc HB5.out _⟩
      · unfold outV at HEv2
        rw [if_neg h2] at HEv2
        generalize (resL n L).e = ee at HEv2 h3
        have hee : (ee == 10) = false := beq_eq_false_iff_ne.2 h3
        have t1 : decide (l.length < K) = false := decide_eq_false (by omega)
        have t2 : decide (K < l.length) = false := decide_eq_false (by omega)
        clear h1 h2 h3
        go_wp2_with fail
        refine HEv2.out.mono ?_
        rintro e5 w5 ⟨rfl, hb5⟩
        have HB5 := Lib.hid (below_step HB4.out hb5)
        clear hb5
        go_wp2_with fail
        refine (is_ab _ ee 10 _).mono ?_
        rintro e6 w6 ⟨rfl, hb6⟩
        have HB6 := Lib.hid (below_step (below_alloc HB5.out _) hb6)
        clear hb6
        rw [hee]
        go_wp2_with fail
        go_ret
        exact ⟨rfl, HB6.out⟩

theorem ari_all (n : Int) (l : List Dat) (A : Option Addr) (c : Nat) (w : World) (h : Laid18 w) (hC : Kd.C kD w A l.length l) (hb : ∀ x ∈ l, bndX x) : Calls Tryz.prog 5 #[.int .i64 n, .slice A l.length c] w (Giv (.bool true) w) := by
  by_cases hf : fewL l = true
  · by_cases hp : pureB n = true
    · exact ari_pure n l A c w h hC hb hf hp
    · exact ari_impure n l A c w h hC hf (by simpa using hp)
  · exact ari_not n l A c w h hC (by simpa using hf)

set_option maxRecDepth 16000 in
theorem PrimArities_top {H : Type} {enc : TypeId × Value → H} (W : World) (base : Nat) (v0 v1 : Value) (d0 d1 : DataW H) (p0 p1 : List MemPlace) (hv0 : Value.okWide Tryz.prog W .any base 3 v0) (hv1 : Value.okWide Tryz.prog W .any base 22 v1)
    (h0 : DataW.Trod enc Tryz.prog W 0 (fun _ => true) true 3 v0 d0 p0) (h1 : DataW.Trod enc Tryz.prog W 0 (fun _ => true) true 22 v1 d1 p1)
    {ts : List TypeId} {ds : List (DataW H)} (_ : (DataW.weightsEach Tryz.prog ts ds).all (· ≤ reachBytes) = true) (hT : Laid18 W) :
    Calls Tryz.prog 5 #[v0, v1] W fun e w' => e = .returned (.bool true) ∧ Below W.heap.size W w' := by
  obtain ⟨n, rfl, rfl, rfl, _⟩ := open_int Tryz.underlying3 hv0 h0
  obtain ⟨a, len, cap, rfl⟩ := okWide_slice Tryz.underlying22 hv1
  obtain ⟨m, hm⟩ := h1
  obtain ⟨A, c, l, he, _, hC, hb⟩ := (dat_readB m).2 _ _ hm
  rw [he]
  exact (ari_all n l A c W hT hC hb).mono fun e w' h => ⟨h.ret, h.below⟩
end Go.Proofs.YtneokkhnjnomdaaGreatDoor
