/-
  The law PrimEvals.
-/
import Derived.Test.YtneokkhnjnomdaaGreatDoorGD1
import Derived.Test.YtneokkhnjnomdaaGreatDoorPrI
import Derived.Test.YtneokkhnjnomdaaGreatDoorGB2
import Derived.Test.YtneokkhnjnomdaaGreatDoorGrD
namespace Go.Proofs.YtneokkhnjnomdaaGreatDoor
open Go.RowKit Go.Proofs.YtneokkhnjnomdaaGreatDoor.PSh Go.Proofs.YtneokkhnjnomdaaGreatDoorW.PrintWords Go.ChangeShapes Go.WideShapes Go.ChangeAt

/-- What stands at every round's head. -/
structure OwR (W : World) (l : List Dat) (j : Nat) (v : Value) (wr : World) : Prop where
  own : Kd.R kD 26 wr W.heap.size (fun _ => True) v (l.take j)
  below : Below W.heap.size W wr

set_option maxRecDepth 100000 in
set_option maxHeartbeats 40000000 in
theorem evals_not (n : Int) (l : List Dat) (A : Option Addr) (c : Nat) (w : World) (h : Laid18 w) (hC : Kd.C kD w A l.length l) (hf : fewL l = false) : Calls Tryz.prog 3 #[.int .i64 n, .slice A l.length c] w (Giv (.bool true) w) := by
  have HL := Lib.hid h
  have HB0 := Lib.hid (Below.refl w.heap.size w)
  have HC := Lib.hid (fun w' (hb : Below w.heap.size w w') => Kd.C_below hC hb)
  have HF := Lib.hid hf
  clear h hC hf
  go_enter Tryz.func3, Tryz.ntmps3
  go_wp2_with fail
  refine (awake_18 _ (HL.out.later HB0.out)).mono ?_
  rintro e1 w1 ⟨rfl, hb1⟩
  have HB1 := Lib.hid (below_step HB0.out hb1)
  clear hb1
  go_wp2_with fail
  refine (few_any l A c _ (HC.out _ HB1.out)).mono ?_
  rintro e2 w2 ⟨rfl, hb2⟩
  have HB2 := Lib.hid (below_step HB1.out hb2)
  clear hb2
  rw [HF.out]
  go_wp2_with fail
  refine (awake_18 _ (HL.out.later HB2.out)).mono ?_
  rintro e3 w3 ⟨rfl, hb3⟩
  have HB3 := Lib.hid (below_step HB2.out hb3)
  clear hb3
  go_wp2_with fail
  go_ret
  exact ⟨rfl, HB3.out⟩
set_option maxRecDepth 100000 in
set_option maxHeartbeats 40000000 in
theorem evals_few (n : Int) (l : List Dat) (A : Option Addr) (c : Nat) (w : World) (h : Laid18 w) (hC : Kd.C kD w A l.length l) (hb : ∀ x ∈ l, bndX x) (hf : fewL l = true) : Calls Tryz.prog 3 #[.int .i64 n, .slice A l.length c] w (Giv (.bool true) w) := by
  have HL := Lib.hid h
  have HB0 := Lib.hid (Below.refl w.heap.size w)
  have HC := Lib.hid (fun w' (hb : Below w.heap.size w w') => Kd.C_below hC hb)
  have hfl := few_len hf
  have hfp := few_parts hf
  obtain ⟨L', hl', hN', hA', _⟩ := args_nd l A c w hC hb (fun x hx => by have := (hfp x hx).2.1; omega)
  have HRef := Lib.hid (fun w' (hb2 : Below w.heap.size w w') (hp : pureB n = true) (hall : l.all plainX = true) => reval_all n L' _ w' (hA'.later hb2) hp (by rw [any_plain hl' hN', hall]; rfl))
  have HRes : Hid (∀ (L : List Nd) (hl : L.length = l.length), (∀ j (h : j < l.length), NdIs (L[j]'(Nat.lt_of_lt_of_eq h hl.symm)) l[j]) → resL n L = resL n L') := Lib.hid (fun L hl hN => res_nd hl hN hl' hN')
  have HRok := Lib.hid (resL_r n L')
  generalize resL n L' = R at HRef HRes HRok
  have HBD := Lib.hid hb
  have HCN := Lib.hid (fun x (hx : x ∈ l) => show cnt x 0 ≤ 4000 by have := (hfp x hx).2.1; omega)
  have HPR := Lib.hid (fun x (hx : x ∈ l) => show prt x ≤ 4999 by have := (hfp x hx).2.2; omega)
  have HF := Lib.hid hf
  have h63 : l.length ≤ 40 := hfl
  clear h hC hf hfp hb hl' hN' hA' hfl
  go_enter Tryz.func3, Tryz.ntmps3
  go_wp2_with fail
  refine (awake_18 _ (HL.out.later HB0.out)).mono ?_
  rintro e1 w1 ⟨rfl, hb1⟩
  have HB1 := Lib.hid (below_step HB0.out hb1)
  clear hb1
  go_wp2_with fail
  refine (few_any l A c _ (HC.out _ HB1.out)).mono ?_
  rintro e2 w2 ⟨rfl, hb2⟩
  have HB2 := Lib.hid (below_step HB1.out hb2)
  clear hb2
  rw [HF.out]
  go_wp2_with fail
  go_loopw [25, 5, 6] (fun i v p wr => ∃ (j : Nat) (b : Bool), j ≤ l.length ∧ i = .int .i64 (j : Nat) ∧ p = .bool b ∧ Hid (b = (l.take j).all plainX) ∧ Hid (OwR w l j v wr)) (fun i _ _ _ => l.length - (intOf i).toNat)
  case atStart => exact ⟨0, true, Nat.zero_le _, rfl, rfl, Lib.hid rfl, Lib.hid ⟨Kd.R_nil _ _ _ _ _, HB2.out⟩⟩
  case round =>
    obtain ⟨j, b, hj, rfl, rfl, HPB, HR⟩ := hrel
    by_cases hlt : j < l.length
    · obtain ⟨ad, rfl, A', c', hD0⟩ := dat_item (HC.out w (Below.refl _ _)) j hlt hlt
      have HLT := Lib.hid hlt
      have hin := List.getElem_mem hlt
      have hpx := HPR.out _ hin
      have hts : (l.take (j + 1)).all plainX = ((l.take j).all plainX && plainX (l[j]'hlt)) := by rw [List.take_succ_eq_append_getElem hlt, List.all_append]; simp
      have htk : l.take (j + 1) = l.take j ++ [l[j]'hlt] := List.take_succ_eq_append_getElem hlt
      obtain ⟨x, hx⟩ : ∃ x, l[j]'hlt = x := ⟨_, rfl⟩
      rw [hx] at hD0 hpx hts htk
      have hDj := hD0.below HR.out.below
      have HD0 := Lib.hid hD0
      have HTS := Lib.hid hts
      have HTK := Lib.hid htk
      have HPX := Lib.hid hpx
      have d0 := hDj.c0
      have d1 := hDj.c1
      have d2 := hDj.c2
      have d3 := hDj.c3
      have hlx := hDj.len
      obtain ⟨W1, hW1⟩ : ∃ W1, W1 = wr.alloc (.cells #[.int .i64 x.f0, .int .i64 x.f1, .string x.f2, .slice A' x.f3.length c'] 26) := ⟨_, rfl⟩
      have HBX := Lib.hid (fun (w' : World) (hb : Below W1.heap.size W1 w') => box_cells wr (.int .i64 x.f0) (.int .i64 x.f1) (.string x.f2) (.slice A' x.f3.length c') 26 w' (by rw [← hW1]; exact hb))
      have hbw : Below wr.heap.size wr W1 := by rw [hW1]; exact (Below.refl _ _).alloc (Nat.le_refl _) _
      have HBW := Lib.hid hbw
      have HSZ := Lib.hid (show wr.heap.size < W1.heap.size by rw [hW1]; simp)
      have HW := Lib.hid hW1
      clear hD0 hDj hx hW1 hts htk hbw hpx hin
      go_wp2_with fail
      refine (own_made x A' c' _ hlx (Kd.C_below HD0.out.items (below_trans HR.out.below (by rw [← HW.out]; exact HBW.out))) HPX.out).mono ?_
      rintro e w7 ⟨v7, rfl, hv7, hb7⟩
      rw [← HW.out] at hv7 hb7
      have HV7 := Lib.hid hv7
      have HB17 := Lib.hid hb7
      have HX7 := Lib.hid (HBX.out w7 hb7)
      clear d0 d1 d2 d3 hv7 hb7
      cases b
      · go_wp2_with (first | ((with_reducible refine gate_builtin (b := .append) (xs := #[.tmp 29, .tmp 32]) rfl ?_); at_builtin; refine Kd.R_append kD (w0 := w) w.heap.size rfl (.tmp 29) (.tmp 32) 22 26 (.agg #[.int .i64 0, .int .i64 0, .string ⟨#[]⟩, .slice none 0 0]) 56 rfl Tryz.underlying22 info_dat rfl (by decide) (by omega) u5 (l.take j) x [.int .i64 x.f0, .int .i64 x.f1, .string x.f2, v7] (fun _ => True) (fun k_ => W1.heap.size ≤ k_) rfl rfl ?aP ?aK (fun _ _ => trivial) ?aO ?aB ?aS ?aL ?_; (case aP => exact k26_mkM _ _ _ x (Kd.R_lower HV7.out (below_size (below_trans HR.out.below HBW.out)))); (case aK => exact (fun k_ hk => ⟨trivial, fun he => by have h1 := Kd.R_lt HR.out.own k_ he.symm; have h2 := below_size HBW.out; omega⟩)); (case aO => exact Kd.R_below HR.out.own (below_trans HBW.out HB17.out)); (case aB => exact below_trans HR.out.below (below_trans HBW.out HB17.out)); (case aS => exact below_size (below_trans HR.out.below (below_trans HBW.out HB17.out))); (case aL => simp only [List.length_take]; omega); intro v8 w8 ho hb8 hg hat; have HO8 := Lib.hid ho; have HB8 := Lib.hid hb8; have HK8 : Hid (∀ i, w8.cell? ⟨wr.heap.size, i, none⟩ = w7.cell? ⟨wr.heap.size, i, none⟩) := Lib.hid (fun i => World.cell?_of_block (a := ⟨wr.heap.size, i, none⟩) (hg.block wr.heap.size (Nat.lt_of_lt_of_le HSZ.out (below_size HB17.out)) (fun e => Nat.lt_irrefl _ (Kd.R_lt HR.out.own _ e.symm)))); have e0 := (HK8.out 0).trans HX7.out.1; have e1 := (HK8.out 1).trans HX7.out.2.1; have e2 := (HK8.out 2).trans HX7.out.2.2.1; have e3 := (HK8.out 3).trans HX7.out.2.2.2; clear ho hb8 hg hat))
        clear e0 e1 e2 e3
        go_roundw
        case rel => exact ⟨j + 1, false, HLT.out, by go_num, rfl, Lib.hid (by rw [HTS.out, ← HPB.out]; rfl), Lib.hid ⟨by rw [HTK.out]; exact HO8.out, HB8.out⟩⟩
        case measure => have := HLT.out; simp [intOf]; omega
      · go_wp2_with (first | ((with_reducible refine gate_builtin (b := .append) (xs := #[.tmp 29, .tmp 32]) rfl ?_); at_builtin; refine Kd.R_append kD (w0 := w) w.heap.size rfl (.tmp 29) (.tmp 32) 22 26 (.agg #[.int .i64 0, .int .i64 0, .string ⟨#[]⟩, .slice none 0 0]) 56 rfl Tryz.underlying22 info_dat rfl (by decide) (by omega) u5 (l.take j) x [.int .i64 x.f0, .int .i64 x.f1, .string x.f2, v7] (fun _ => True) (fun k_ => W1.heap.size ≤ k_) rfl rfl ?aP ?aK (fun _ _ => trivial) ?aO ?aB ?aS ?aL ?_; (case aP => exact k26_mkM _ _ _ x (Kd.R_lower HV7.out (below_size (below_trans HR.out.below HBW.out)))); (case aK => exact (fun k_ hk => ⟨trivial, fun he => by have h1 := Kd.R_lt HR.out.own k_ he.symm; have h2 := below_size HBW.out; omega⟩)); (case aO => exact Kd.R_below HR.out.own (below_trans HBW.out HB17.out)); (case aB => exact below_trans HR.out.below (below_trans HBW.out HB17.out)); (case aS => exact below_size (below_trans HR.out.below (below_trans HBW.out HB17.out))); (case aL => simp only [List.length_take]; omega); intro v8 w8 ho hb8 hg hat; have HO8 := Lib.hid ho; have HB8 := Lib.hid hb8; have HK8 : Hid (∀ i, w8.cell? ⟨wr.heap.size, i, none⟩ = w7.cell? ⟨wr.heap.size, i, none⟩) := Lib.hid (fun i => World.cell?_of_block (a := ⟨wr.heap.size, i, none⟩) (hg.block wr.heap.size (Nat.lt_of_lt_of_le HSZ.out (below_size HB17.out)) (fun e => Nat.lt_irrefl _ (Kd.R_lt HR.out.own _ e.symm)))); have e0 := (HK8.out 0).trans HX7.out.1; have e1 := (HK8.out 1).trans HX7.out.2.1; have e2 := (HK8.out 2).trans HX7.out.2.2.1; have e3 := (HK8.out 3).trans HX7.out.2.2.2; clear ho hb8 hg hat))
        refine (spindleref18_Plain.calls (5 * szD x) x.f0 x.f1 x.f2 A' c' x.f3 _ _ (Kd.C_below HD0.out.items HB8.out) hlx (plain_f x _ (by have := HPX.out; omega) (Nat.le_refl _))).mono ?_
        rintro e w9 ⟨rfl, hb9⟩
        have HB9 := Lib.hid (below_step HB8.out hb9)
        have HO9 := Lib.hid (Kd.R_below HO8.out hb9)
        clear e0 e1 e2 e3 hb9
        go_wp2_with fail
        go_roundw
        case rel => exact ⟨j + 1, plainX x, HLT.out, by go_num, rfl, Lib.hid (by rw [HTS.out, ← HPB.out, Bool.true_and]), Lib.hid ⟨by rw [HTK.out]; exact HO9.out, HB9.out⟩⟩
        case measure => have := HLT.out; simp [intOf]; omega
    · obtain rfl : j = l.length := by omega
      have hown := HR.out.own
      rw [List.take_length] at hown
      obtain ⟨A6, c6, rfl, hl6, hC6⟩ := Kd.R_reads hown
      have hpb := HPB.out
      rw [List.take_length] at hpb
      have HPB2 := Lib.hid hpb
      have HB3 := Lib.hid HR.out.below
      obtain ⟨L, hl, hN, hA, hOk⟩ := args_nd l A6 c6 wr hC6 HBD.out HCN.out
      have hany := any_plain hl hN
      have hres := HRes.out L hl hN
      have hE : EvArgs L (.slice A6 l.length c6) wr := ⟨hA, hOk, by omega, spt_below HL.out.spt HB3.out, tab_below HL.out.tab HB3.out⟩
      clear hown hC6 hpb HR HPB hlt hj hA hOk hN HRes
      have hcase : pureB n = false ∨ (pureB n = true ∧ b = false) ∨ (pureB n = true ∧ b = true) := by
        cases pureB n <;> cases b <;> simp
      rcases hcase with hp | ⟨hp, rfl⟩ | ⟨hp, rfl⟩
      · have cE := Lib.hid (eval_impure n L _ wr hE hp)
        have HP := Lib.hid hp
        clear hp hE hl hany hres
        go_wp2_with fail
        refine (cE.out).mono ?_
        rintro e4 w4 ⟨rfl, hb4⟩
        have HB4 := Lib.hid (below_step HB3.out hb4)
        clear hb4
        have HDd := Lib.hid (blk_new w4 (.cells #[.int .i64 0, .int .i64 0, .string ⟨#[]⟩, .slice none 0 0] 26 (0, 0)))
        have HB5 := Lib.hid (below_alloc HB4.out (.cells #[.int .i64 0, .int .i64 0, .string ⟨#[]⟩, .slice none 0 0] 26))
        go_upto_region 12 with (fail)
        generalize w4.alloc (.cells #[.int .i64 0, .int .i64 0, .string ⟨#[]⟩, .slice none 0 0] 26) = w5 at HDd HB5 ⊢
        generalize w4.heap.size = bDd at HDd  ⊢
        go_wp2_with fail
        refine (name_kind 2 (by decide) _ (HL.out.later HB5.out).et).mono ?_
        rintro e6 w6 ⟨rfl, hb6⟩
        have HB6 := Lib.hid (below_step HB5.out hb6)
        have HDd := Lib.hid (blk_below HDd.out hb6)
        clear hb6
        have ltDdDf : bDd < w6.heap.size := blk_lt HDd.out
        have HDf := Lib.hid (blk_new w6 (.cells #[.int .i64 2, .string ⟨#[]⟩] 34 (0, 0)))
        have HB7 := Lib.hid (below_alloc HB6.out (.cells #[.int .i64 2, .string ⟨#[]⟩] 34))
        have geDf : w.heap.size ≤ w6.heap.size := HB6.out.size
        have HDd := Lib.hid (blk_alloc HDd.out (.cells #[.int .i64 2, .string ⟨#[]⟩] 34))
        go_upto_region 13 with (fail)
        generalize w6.alloc (.cells #[.int .i64 2, .string ⟨#[]⟩] 34) = w7 at HDd HDf HB7 ⊢
        generalize w6.heap.size = bDf at HDf geDf ltDdDf ⊢
        go_wp2_with fail
        refine (refpure_of n _).mono ?_
        rintro e99 w99 ⟨rfl, hw99⟩
        rw [hw99, HP.out]
        clear hw99 w99
        have a0 : w7.cell? ⟨bDd, 0, none⟩ = some (.int .i64 0) := blk_cell HDd.out 0
        have a1 : w7.cell? ⟨bDd, 1, none⟩ = some (.int .i64 0) := blk_cell HDd.out 1
        have a2 : w7.cell? ⟨bDd, 2, none⟩ = some (.string ⟨#[]⟩) := blk_cell HDd.out 2
        have a3 : w7.cell? ⟨bDd, 3, none⟩ = some (.slice none 0 0) := blk_cell HDd.out 3
        go_wp2_with fail
        refine (same_leaf 0 0 ⟨#[]⟩ _).mono ?_
        rintro e8 w8 ⟨rfl, hb8⟩
        have HB8 := Lib.hid (below_step HB7.out hb8)
        have HDd := Lib.hid (blk_below HDd.out hb8)
        have HDf := Lib.hid (blk_below HDf.out hb8)
        clear hb8
        clear a0 a1 a2 a3
        have f0 : w8.cell? ⟨bDf, 0, none⟩ = some (.int .i64 2) := blk_cell HDf.out 0
        have f1 : w8.cell? ⟨bDf, 1, none⟩ = some (.string ⟨#[]⟩) := blk_cell HDf.out 1
        have heq : ∀ w, (binOp .eql 34 (nameV 2 ⟨#[]⟩) (nameV 2 ⟨#[]⟩)).run Tryz.prog w = .ok (.bool true) w := fun w => name_eql 2 ⟨#[]⟩ w
        go_wp2_with fail
        go_ret
        exact ⟨rfl, HB8.out⟩
      · have cE := Lib.hid (eval_unplain n L _ wr hE hp (by rw [hany, ← HPB2.out]; rfl))
        have HP := Lib.hid hp
        clear hp hE hl hany hres
        go_wp2_with fail
        refine (cE.out).mono ?_
        rintro e4 w4 ⟨rfl, hb4⟩
        have HB4 := Lib.hid (below_step HB3.out hb4)
        clear hb4
        have HDd := Lib.hid (blk_new w4 (.cells #[.int .i64 0, .int .i64 0, .string ⟨#[]⟩, .slice none 0 0] 26 (0, 0)))
        have HB5 := Lib.hid (below_alloc HB4.out (.cells #[.int .i64 0, .int .i64 0, .string ⟨#[]⟩, .slice none 0 0] 26))
        go_upto_region 12 with (fail)
        generalize w4.alloc (.cells #[.int .i64 0, .int .i64 0, .string ⟨#[]⟩, .slice none 0 0] 26) = w5 at HDd HB5 ⊢
        generalize w4.heap.size = bDd at HDd  ⊢
        go_wp2_with fail
        refine (name_kind 2 (by decide) _ (HL.out.later HB5.out).et).mono ?_
        rintro e6 w6 ⟨rfl, hb6⟩
        have HB6 := Lib.hid (below_step HB5.out hb6)
        have HDd := Lib.hid (blk_below HDd.out hb6)
        clear hb6
        have ltDdDf : bDd < w6.heap.size := blk_lt HDd.out
        have HDf := Lib.hid (blk_new w6 (.cells #[.int .i64 2, .string ⟨#[]⟩] 34 (0, 0)))
        have HB7 := Lib.hid (below_alloc HB6.out (.cells #[.int .i64 2, .string ⟨#[]⟩] 34))
        have geDf : w.heap.size ≤ w6.heap.size := HB6.out.size
        have HDd := Lib.hid (blk_alloc HDd.out (.cells #[.int .i64 2, .string ⟨#[]⟩] 34))
        go_upto_region 13 with (fail)
        generalize w6.alloc (.cells #[.int .i64 2, .string ⟨#[]⟩] 34) = w7 at HDd HDf HB7 ⊢
        generalize w6.heap.size = bDf at HDf geDf ltDdDf ⊢
        go_wp2_with fail
        refine (refpure_of n _).mono ?_
        rintro e99 w99 ⟨rfl, hw99⟩
        rw [hw99, HP.out]
        clear hw99 w99
        have a0 : w7.cell? ⟨bDd, 0, none⟩ = some (.int .i64 0) := blk_cell HDd.out 0
        have a1 : w7.cell? ⟨bDd, 1, none⟩ = some (.int .i64 0) := blk_cell HDd.out 1
        have a2 : w7.cell? ⟨bDd, 2, none⟩ = some (.string ⟨#[]⟩) := blk_cell HDd.out 2
        have a3 : w7.cell? ⟨bDd, 3, none⟩ = some (.slice none 0 0) := blk_cell HDd.out 3
        go_wp2_with fail
        refine (same_leaf 0 0 ⟨#[]⟩ _).mono ?_
        rintro e8 w8 ⟨rfl, hb8⟩
        have HB8 := Lib.hid (below_step HB7.out hb8)
        have HDd := Lib.hid (blk_below HDd.out hb8)
        have HDf := Lib.hid (blk_below HDf.out hb8)
        clear hb8
        clear a0 a1 a2 a3
        have f0 : w8.cell? ⟨bDf, 0, none⟩ = some (.int .i64 2) := blk_cell HDf.out 0
        have f1 : w8.cell? ⟨bDf, 1, none⟩ = some (.string ⟨#[]⟩) := blk_cell HDf.out 1
        have heq : ∀ w, (binOp .eql 34 (nameV 2 ⟨#[]⟩) (nameV 2 ⟨#[]⟩)).run Tryz.prog w = .ok (.bool true) w := fun w => name_eql 2 ⟨#[]⟩ w
        go_wp2_with fail
        go_ret
        exact ⟨rfl, HB8.out⟩
      · have cE := Lib.hid (eval_all n L _ wr hE hp (by rw [hany, ← HPB2.out]; rfl))
        have hRk := HRok.out
        rw [hres] at cE
        have HRef2 := Lib.hid (fun w' hb2 => HRef.out w' hb2 hp HPB2.out.symm)
        clear HRef
        rcases hRk with hR | ⟨E, hE1, hE2, rfl⟩
        · obtain ⟨k, N, t, ee⟩ := R
          obtain rfl : ee = 0 := hR
          rw [outV_ok] at cE
          have HP := Lib.hid hp
          clear hp hE hl hany hres
          go_wp2_with fail
          refine (cE.out).mono ?_
          rintro e4 w4 ⟨rfl, hb4⟩
          have HB4 := Lib.hid (below_step HB3.out hb4)
          clear hb4
          have HDd := Lib.hid (blk_new w4 (.cells #[.int .i64 k, .int .i64 N, .string t, .slice none 0 0] 26 (0, 0)))
          have HB5 := Lib.hid (below_alloc HB4.out (.cells #[.int .i64 k, .int .i64 N, .string t, .slice none 0 0] 26))
          go_upto_region 12 with (fail)
          generalize w4.alloc (.cells #[.int .i64 k, .int .i64 N, .string t, .slice none 0 0] 26) = w5 at HDd HB5 ⊢
          generalize w4.heap.size = bDd at HDd  ⊢
          go_wp2_with fail
          refine (name_nil _).mono ?_
          rintro e6 w6 ⟨rfl, hb6⟩
          have HB6 := Lib.hid (below_step HB5.out hb6)
          have HDd := Lib.hid (blk_below HDd.out hb6)
          clear hb6
          have ltDdDf : bDd < w6.heap.size := blk_lt HDd.out
          have HDf := Lib.hid (blk_new w6 (.cells #[.int .i64 0, .string ⟨#[]⟩] 34 (0, 0)))
          have HB7 := Lib.hid (below_alloc HB6.out (.cells #[.int .i64 0, .string ⟨#[]⟩] 34))
          have geDf : w.heap.size ≤ w6.heap.size := HB6.out.size
          have HDd := Lib.hid (blk_alloc HDd.out (.cells #[.int .i64 0, .string ⟨#[]⟩] 34))
          go_upto_region 13 with (fail)
          generalize w6.alloc (.cells #[.int .i64 0, .string ⟨#[]⟩] 34) = w7 at HDd HDf HB7 ⊢
          generalize w6.heap.size = bDf at HDf geDf ltDdDf ⊢
          go_wp2_with fail
          refine (refpure_of n _).mono ?_
          rintro e99 w99 ⟨rfl, hw99⟩
          rw [hw99, HP.out]
          clear hw99 w99
          go_wp2_with fail
          refine (HRef2.out _ HB7.out).mono ?_
          rintro e8 w8 ⟨rfl, hb8⟩
          have HB8 := Lib.hid (below_step HB7.out hb8)
          have HDd := Lib.hid (blk_below HDd.out hb8)
          have HDf := Lib.hid (blk_below HDf.out hb8)
          clear hb8
          unfold resRV
          have ltDdDx : bDd < w8.heap.size := blk_lt HDd.out
          have ltDfDx : bDf < w8.heap.size := blk_lt HDf.out
          have HDx := Lib.hid (blk_new w8 (.cells #[.int .i64 k, .int .i64 N, .string t, .slice none 0 0] 26 (0, 0)))
          have HB9 := Lib.hid (below_alloc HB8.out (.cells #[.int .i64 k, .int .i64 N, .string t, .slice none 0 0] 26))
          have HDd := Lib.hid (blk_alloc HDd.out (.cells #[.int .i64 k, .int .i64 N, .string t, .slice none 0 0] 26))
          have HDf := Lib.hid (blk_alloc HDf.out (.cells #[.int .i64 k, .int .i64 N, .string t, .slice none 0 0] 26))
          go_upto_region 16 with (fail)
          generalize w8.alloc (.cells #[.int .i64 k, .int .i64 N, .string t, .slice none 0 0] 26) = w9 at HDd HDf HDx HB9 ⊢
          generalize w8.heap.size = bDx at HDx ltDdDx ltDfDx ⊢
          have ltDdDw : bDd < w9.heap.size := blk_lt HDd.out
          have ltDfDw : bDf < w9.heap.size := blk_lt HDf.out
          have ltDxDw : bDx < w9.heap.size := blk_lt HDx.out
          have HDw := Lib.hid (blk_new w9 (.cells #[.int .i64 0, .string ⟨#[]⟩] 34 (0, 0)))
          have HB10 := Lib.hid (below_alloc HB9.out (.cells #[.int .i64 0, .string ⟨#[]⟩] 34))
          have geDw : w.heap.size ≤ w9.heap.size := HB9.out.size
          have HDd := Lib.hid (blk_alloc HDd.out (.cells #[.int .i64 0, .string ⟨#[]⟩] 34))
          have HDf := Lib.hid (blk_alloc HDf.out (.cells #[.int .i64 0, .string ⟨#[]⟩] 34))
          have HDx := Lib.hid (blk_alloc HDx.out (.cells #[.int .i64 0, .string ⟨#[]⟩] 34))
          go_upto_region 17 with (fail)
          generalize w9.alloc (.cells #[.int .i64 0, .string ⟨#[]⟩] 34) = w10 at HDd HDf HDx HDw HB10 ⊢
          generalize w9.heap.size = bDw at HDw geDw ltDdDw ltDfDw ltDxDw ⊢
          have a0 : w10.cell? ⟨bDd, 0, none⟩ = some (.int .i64 k) := blk_cell HDd.out 0
          have a1 : w10.cell? ⟨bDd, 1, none⟩ = some (.int .i64 N) := blk_cell HDd.out 1
          have a2 : w10.cell? ⟨bDd, 2, none⟩ = some (.string t) := blk_cell HDd.out 2
          have a3 : w10.cell? ⟨bDd, 3, none⟩ = some (.slice none 0 0) := blk_cell HDd.out 3
          have y0 : w10.cell? ⟨bDx, 0, none⟩ = some (.int .i64 k) := blk_cell HDx.out 0
          have y1 : w10.cell? ⟨bDx, 1, none⟩ = some (.int .i64 N) := blk_cell HDx.out 1
          have y2 : w10.cell? ⟨bDx, 2, none⟩ = some (.string t) := blk_cell HDx.out 2
          have y3 : w10.cell? ⟨bDx, 3, none⟩ = some (.slice none 0 0) := blk_cell HDx.out 3
          go_wp2_with fail
          refine (same_leaf k N t _).mono ?_
          rintro e11 w11 ⟨rfl, hb11⟩
          have HB11 := Lib.hid (below_step HB10.out hb11)
          have HDd := Lib.hid (blk_below HDd.out hb11)
          have HDf := Lib.hid (blk_below HDf.out hb11)
          have HDx := Lib.hid (blk_below HDx.out hb11)
          have HDw := Lib.hid (blk_below HDw.out hb11)
          clear hb11
          clear a0 a1 a2 a3 y0 y1 y2 y3
          have f0 : w11.cell? ⟨bDf, 0, none⟩ = some (.int .i64 0) := blk_cell HDf.out 0
          have f1 : w11.cell? ⟨bDf, 1, none⟩ = some (.string ⟨#[]⟩) := blk_cell HDf.out 1
          have g0 : w11.cell? ⟨bDw, 0, none⟩ = some (.int .i64 0) := blk_cell HDw.out 0
          have g1 : w11.cell? ⟨bDw, 1, none⟩ = some (.string ⟨#[]⟩) := blk_cell HDw.out 1
          have heq : ∀ w, (binOp .eql 34 (nameV 0 ⟨#[]⟩) (nameV 0 ⟨#[]⟩)).run Tryz.prog w = .ok (.bool true) w := fun w => name_eql 0 ⟨#[]⟩ w
          go_wp2_with fail
          go_ret
          exact ⟨rfl, HB11.out⟩
        · rw [outV_err _ _ (by omega)] at cE
          have HNM := Lib.hid (fun w => refname_of n w)
          generalize nameS (nameN n) = s at cE HNM
          have hE0 : (E == 0) = false := beq_eq_false_iff_ne.2 (by omega)
          have HEB := Lib.hid (show 1 ≤ E ∧ E ≤ 20 from ⟨hE1, hE2⟩)
          clear hE1 hE2 HRok
          have HP := Lib.hid hp
          clear hp hE hl hany hres
          go_wp2_with fail
          refine (cE.out).mono ?_
          rintro e4 w4 ⟨rfl, hb4⟩
          have HB4 := Lib.hid (below_step HB3.out hb4)
          clear hb4
          have HDd := Lib.hid (blk_new w4 (.cells #[.int .i64 0, .int .i64 0, .string ⟨#[]⟩, .slice none 0 0] 26 (0, 0)))
          have HB5 := Lib.hid (below_alloc HB4.out (.cells #[.int .i64 0, .int .i64 0, .string ⟨#[]⟩, .slice none 0 0] 26))
          go_upto_region 12 with (fail)
          generalize w4.alloc (.cells #[.int .i64 0, .int .i64 0, .string ⟨#[]⟩, .slice none 0 0] 26) = w5 at HDd HB5 ⊢
          generalize w4.heap.size = bDd at HDd  ⊢
          go_wp2_with fail
          refine (name_ab s E HEB.out _ (HL.out.later HB5.out).et).mono ?_
          rintro e6 w6 ⟨rfl, hb6⟩
          have HB6 := Lib.hid (below_step HB5.out hb6)
          have HDd := Lib.hid (blk_below HDd.out hb6)
          clear hb6
          have ltDdDf : bDd < w6.heap.size := blk_lt HDd.out
          have HDf := Lib.hid (blk_new w6 (.cells #[.int .i64 E, .string s] 34 (0, 0)))
          have HB7 := Lib.hid (below_alloc HB6.out (.cells #[.int .i64 E, .string s] 34))
          have geDf : w.heap.size ≤ w6.heap.size := HB6.out.size
          have HDd := Lib.hid (blk_alloc HDd.out (.cells #[.int .i64 E, .string s] 34))
          go_upto_region 13 with (fail)
          generalize w6.alloc (.cells #[.int .i64 E, .string s] 34) = w7 at HDd HDf HB7 ⊢
          generalize w6.heap.size = bDf at HDf geDf ltDdDf ⊢
          go_wp2_with fail
          refine (refpure_of n _).mono ?_
          rintro e99 w99 ⟨rfl, hw99⟩
          rw [hw99, HP.out]
          clear hw99 w99
          go_wp2_with fail
          refine (HRef2.out _ HB7.out).mono ?_
          rintro e8 w8 ⟨rfl, hb8⟩
          have HB8 := Lib.hid (below_step HB7.out hb8)
          have HDd := Lib.hid (blk_below HDd.out hb8)
          have HDf := Lib.hid (blk_below HDf.out hb8)
          clear hb8
          unfold resRV errR
          have ltDdDx : bDd < w8.heap.size := blk_lt HDd.out
          have ltDfDx : bDf < w8.heap.size := blk_lt HDf.out
          have HDx := Lib.hid (blk_new w8 (.cells #[.int .i64 0, .int .i64 0, .string ⟨#[]⟩, .slice none 0 0] 26 (0, 0)))
          have HB9 := Lib.hid (below_alloc HB8.out (.cells #[.int .i64 0, .int .i64 0, .string ⟨#[]⟩, .slice none 0 0] 26))
          have HDd := Lib.hid (blk_alloc HDd.out (.cells #[.int .i64 0, .int .i64 0, .string ⟨#[]⟩, .slice none 0 0] 26))
          have HDf := Lib.hid (blk_alloc HDf.out (.cells #[.int .i64 0, .int .i64 0, .string ⟨#[]⟩, .slice none 0 0] 26))
          go_upto_region 16 with (fail)
          generalize w8.alloc (.cells #[.int .i64 0, .int .i64 0, .string ⟨#[]⟩, .slice none 0 0] 26) = w9 at HDd HDf HDx HB9 ⊢
          generalize w8.heap.size = bDx at HDx ltDdDx ltDfDx ⊢
          have ltDdDw : bDd < w9.heap.size := blk_lt HDd.out
          have ltDfDw : bDf < w9.heap.size := blk_lt HDf.out
          have ltDxDw : bDx < w9.heap.size := blk_lt HDx.out
          have HDw := Lib.hid (blk_new w9 (.cells #[.int .i64 0, .string ⟨#[]⟩] 34 (0, 0)))
          have HB10 := Lib.hid (below_alloc HB9.out (.cells #[.int .i64 0, .string ⟨#[]⟩] 34))
          have geDw : w.heap.size ≤ w9.heap.size := HB9.out.size
          have HDd := Lib.hid (blk_alloc HDd.out (.cells #[.int .i64 0, .string ⟨#[]⟩] 34))
          have HDf := Lib.hid (blk_alloc HDf.out (.cells #[.int .i64 0, .string ⟨#[]⟩] 34))
          have HDx := Lib.hid (blk_alloc HDx.out (.cells #[.int .i64 0, .string ⟨#[]⟩] 34))
          go_upto_region 17 with (fail)
          generalize w9.alloc (.cells #[.int .i64 0, .string ⟨#[]⟩] 34) = w10 at HDd HDf HDx HDw HB10 ⊢
          generalize w9.heap.size = bDw at HDw geDw ltDdDw ltDfDw ltDxDw ⊢
          go_wp2_with fail
          refine (HNM.out _).mono ?_
          rintro e11 w11 ⟨rfl, hb11⟩
          have HB11 := Lib.hid (below_step HB10.out hb11)
          have HDd := Lib.hid (blk_below HDd.out hb11)
          have HDf := Lib.hid (blk_below HDf.out hb11)
          have HDx := Lib.hid (blk_below HDx.out hb11)
          have HDw := Lib.hid (blk_below HDw.out hb11)
          clear hb11
          have g0 : w11.cell? ⟨bDw, 0, none⟩ = some (.int .i64 0) := blk_cell HDw.out 0
          have g1 : w11.cell? ⟨bDw, 1, none⟩ = some (.string ⟨#[]⟩) := blk_cell HDw.out 1
          have g2 := blk_frozen HDw.out 0
          have g3 := blk_frozen HDw.out 1
          go_upto_region 19 with (fail)
          have HDw2 := Lib.hid (nam_put HDw.out E s)
          have HB12 := Lib.hid (below_nam HB11.out geDw E s)
          have HDd2 : Hid (((w11.setCell ⟨bDw, 0, none⟩ (.int .i64 E)).setCell ⟨bDw, 1, none⟩ (.string s)).heap[bDd]? = _) := Lib.hid (blk_far (blk_far HDd.out (fun e => by simp at e; omega) _) (fun e => by simp at e; omega) _)
          have HDf2 : Hid (((w11.setCell ⟨bDw, 0, none⟩ (.int .i64 E)).setCell ⟨bDw, 1, none⟩ (.string s)).heap[bDf]? = _) := Lib.hid (blk_far (blk_far HDf.out (fun e => by simp at e; omega) _) (fun e => by simp at e; omega) _)
          have HDx2 : Hid (((w11.setCell ⟨bDw, 0, none⟩ (.int .i64 E)).setCell ⟨bDw, 1, none⟩ (.string s)).heap[bDx]? = _) := Lib.hid (blk_far (blk_far HDx.out (fun e => by simp at e; omega) _) (fun e => by simp at e; omega) _)
          clear g0 g1 g2 g3 HDd HDf HDx HDw
          generalize ((w11.setCell ⟨bDw, 0, none⟩ (.int .i64 E)).setCell ⟨bDw, 1, none⟩ (.string s)) = w12 at HDw2 HDd2 HDf2 HDx2 HB12 ⊢
          have HDd := HDd2
          have HDf := HDf2
          have HDx := HDx2
          have HDw := HDw2
          clear HDd2 HDf2 HDx2 HDw2
          have a0 : w12.cell? ⟨bDd, 0, none⟩ = some (.int .i64 0) := blk_cell HDd.out 0
          have a1 : w12.cell? ⟨bDd, 1, none⟩ = some (.int .i64 0) := blk_cell HDd.out 1
          have a2 : w12.cell? ⟨bDd, 2, none⟩ = some (.string ⟨#[]⟩) := blk_cell HDd.out 2
          have a3 : w12.cell? ⟨bDd, 3, none⟩ = some (.slice none 0 0) := blk_cell HDd.out 3
          have y0 : w12.cell? ⟨bDx, 0, none⟩ = some (.int .i64 0) := blk_cell HDx.out 0
          have y1 : w12.cell? ⟨bDx, 1, none⟩ = some (.int .i64 0) := blk_cell HDx.out 1
          have y2 : w12.cell? ⟨bDx, 2, none⟩ = some (.string ⟨#[]⟩) := blk_cell HDx.out 2
          have y3 : w12.cell? ⟨bDx, 3, none⟩ = some (.slice none 0 0) := blk_cell HDx.out 3
          go_wp2_with fail
          refine (same_leaf 0 0 ⟨#[]⟩ _).mono ?_
          rintro e13 w13 ⟨rfl, hb13⟩
          have HB13 := Lib.hid (below_step HB12.out hb13)
          have HDd := Lib.hid (blk_below HDd.out hb13)
          have HDf := Lib.hid (blk_below HDf.out hb13)
          have HDx := Lib.hid (blk_below HDx.out hb13)
          have HDw := Lib.hid (blk_below HDw.out hb13)
          clear hb13
          clear a0 a1 a2 a3 y0 y1 y2 y3
          have f0 : w13.cell? ⟨bDf, 0, none⟩ = some (.int .i64 E) := blk_cell HDf.out 0
          have f1 : w13.cell? ⟨bDf, 1, none⟩ = some (.string s) := blk_cell HDf.out 1
          have g0 : w13.cell? ⟨bDw, 0, none⟩ = some (.int .i64 E) := blk_cell HDw.out 0
          have g1 : w13.cell? ⟨bDw, 1, none⟩ = some (.string s) := blk_cell HDw.out 1
          have heq : ∀ w, (binOp .eql 34 (nameV E s) (nameV E s)).run Tryz.prog w = .ok (.bool true) w := fun w => name_eql E s w
          go_wp2_with fail
          go_ret
          exact ⟨rfl, HB13.out⟩

theorem evals_all (n : Int) (l : List Dat) (A : Option Addr) (c : Nat) (w : World) (h : Laid18 w) (hC : Kd.C kD w A l.length l) (hb : ∀ x ∈ l, bndX x) : Calls Tryz.prog 3 #[.int .i64 n, .slice A l.length c] w (Giv (.bool true) w) := by
  by_cases hf : fewL l = true
  · exact evals_few n l A c w h hC hb hf
  · exact evals_not n l A c w h hC (by simpa using hf)

set_option maxRecDepth 16000 in
theorem PrimEvals_top {H : Type} {enc : TypeId × Value → H} (W : World) (base : Nat) (v0 v1 : Value) (d0 d1 : DataW H) (p0 p1 : List MemPlace) (hv0 : Value.okWide Tryz.prog W .any base 3 v0) (hv1 : Value.okWide Tryz.prog W .any base 22 v1)
    (h0 : DataW.Trod enc Tryz.prog W 0 (fun _ => true) true 3 v0 d0 p0) (h1 : DataW.Trod enc Tryz.prog W 0 (fun _ => true) true 22 v1 d1 p1)
    {ts : List TypeId} {ds : List (DataW H)} (_ : (DataW.weightsEach Tryz.prog ts ds).all (· ≤ reachBytes) = true) (hT : Laid18 W) :
    Calls Tryz.prog 3 #[v0, v1] W fun e w' => e = .returned (.bool true) ∧ Below W.heap.size W w' := by
  obtain ⟨n, rfl, rfl, rfl, _⟩ := open_int Tryz.underlying3 hv0 h0
  obtain ⟨a, len, cap, rfl⟩ := okWide_slice Tryz.underlying22 hv1
  obtain ⟨m, hm⟩ := h1
  obtain ⟨A, c, l, he, _, hC, hb⟩ := (dat_readB m).2 _ _ hm
  rw [he]
  exact (evals_all n l A c W hT hC hb).mono fun e w' h => ⟨h.ret, h.below⟩
end Go.Proofs.YtneokkhnjnomdaaGreatDoor
