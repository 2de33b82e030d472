/-
  The law ShowLists, plain and walked.
-/
import Derived.Test.YthighbbikpnpgaaDoorSB3

/-! ShP -/
namespace Go.Proofs.YthighbbikpnpgaaDoor
open Go.RowKit Go.Proofs.YthighbbikpnpgaaDoor.PSh Go.Proofs.YthighbbikpnpgaaDoorW.PrintWords

theorem fits_shift (m : Nat) : ∀ x : Dat, szD x < m → ∀ (a b k f : Nat), fitsD x a = true → dpt x f ≤ k → k ≤ f → b + k ≤ 64 → fitsD x b = true := by
  induction m with
  | zero => intro x h; omega
  | succ m ih =>
    intro x hx a b k f hf hd hkf hb
    have hxs : ∀ y ∈ x.f3, szD y < m := fun y hy => by have := dat_lt hy; omega
    obtain ⟨q, n, t, l⟩ := x
    rw [dpt] at hd
    rw [fitsD] at hf ⊢
    have hk1 : 1 ≤ k := by omega
    rw [if_neg (by omega)] at hd
    rw [decide_eq_false (show ¬ 64 ≤ b by omega), Bool.not_false, Bool.true_and]
    simp only [Bool.and_eq_true] at hf
    obtain ⟨_, hf⟩ := hf
    have hl : ∀ l : List Dat, (∀ y ∈ l, szD y < m) → dptL l (f - 1) ≤ k - 1 → fitsL l (a + 1) = true → fitsL l (b + 1) = true := by
      intro l
      induction l with
      | nil => intro _ _ _; rw [fitsL]
      | cons y r ihr =>
        intro hs hdl hfl
        rw [dptL] at hdl
        rw [fitsL] at hfl ⊢
        simp only [Bool.and_eq_true] at hfl ⊢
        exact ⟨ih y (hs y (by simp)) (a + 1) (b + 1) (k - 1) (f - 1) hfl.1 (by omega) (by omega) (by omega), ihr (fun z hz => hs z (by simp [hz])) (by omega) hfl.2⟩
    have hl' := hl l hxs (by omega)
    by_cases k1 : q = 1
    · rw [if_pos k1] at hf ⊢; exact hf
    rw [if_neg k1] at hf ⊢
    by_cases k2 : q = 2
    · rw [if_pos k2] at hf ⊢; exact hf
    rw [if_neg k2] at hf ⊢
    by_cases k3 : q = 3
    · rw [if_pos k3] at hf ⊢; exact hf
    rw [if_neg k3] at hf ⊢
    by_cases k4 : q = 4
    · rw [if_pos k4] at hf ⊢; exact hf
    rw [if_neg k4] at hf ⊢
    by_cases k5 : q = 5
    · rw [if_pos k5] at hf ⊢; exact hf
    rw [if_neg k5] at hf ⊢
    by_cases k7 : q = 7
    · rw [if_pos k7] at hf ⊢
      simp only [Bool.and_eq_true] at hf ⊢
      exact ⟨⟨⟨hf.1.1.1, hl' hf.1.1.2⟩, hf.1.2⟩, hf.2⟩
    rw [if_neg k7] at hf ⊢
    by_cases k68 : q = 6 ∨ q = 8
    · rw [if_pos k68] at hf ⊢
      simp only [Bool.and_eq_true] at hf ⊢
      exact ⟨⟨hl' hf.1.1, hf.1.2⟩, hf.2⟩
    · rw [if_neg k68] at hf; cases hf

theorem cntL_few (l : List Dat) : ∀ (n : Nat), (∀ x ∈ l, prt x ≤ 200) → n + 200 * l.length ≤ 4000 → cntL l n ≤ n + 200 * l.length := by
  induction l with
  | nil => intro n _ _; rw [cntL]; omega
  | cons y r ih =>
    intro n h hn
    simp only [List.length_cons] at hn ⊢
    rw [cntL_next _ _ _ (by omega)]
    have h1 := h y (by simp)
    have hcy : cnt y n ≤ n + 200 := by
      have hb := cnt_bound (szD y + 1) y (by omega) n (by omega)
      by_cases h5 : cnt y n ≤ 4999
      · have := cnt_prt (szD y + 1) y (by omega) n h5
        omega
      · -- the count would be capped, though it has few parts
        exfalso
        have : ∀ (m : Nat) (x : Dat), szD x < m → ∀ n, n + prt x ≤ 4999 → cnt x n = n + prt x := by
          intro m
          induction m with
          | zero => intro x h; omega
          | succ m ihm =>
            intro x hx n hn
            have hxs : ∀ y ∈ x.f3, szD y < m := fun y hy => by have := dat_lt hy; omega
            obtain ⟨a, b, c, L⟩ := x
            rw [prt] at hn
            rw [cnt, prt]
            have hl : ∀ (L : List Dat), (∀ y ∈ L, szD y < m) → ∀ k, k + prtL L ≤ 4999 → cntL L k = k + prtL L := by
              intro L
              induction L with
              | nil => intro _ k _; rw [cntL, prtL]; omega
              | cons z s ihs =>
                intro hs k hk
                rw [prtL] at hk
                rw [cntL_next _ _ _ (by omega), ihm z (hs z (by simp)) k (by omega), ihs (fun u hu => hs u (by simp [hu])) _ (by omega), prtL]
                omega
            rw [hl L hxs (n + 1) (by omega)]
            omega
        have := this (szD y + 1) y (by omega) n (by omega)
        omega
    have := ih (cnt y n) (fun z hz => h z (by simp [hz])) (by omega)
    omega

theorem list_right (l : List Dat) (h : ∀ x ∈ l, rightD x = true ∧ prt x ≤ 200 ∧ dpt x 70 ≤ 60) (hl : l.length ≤ 15) : rightD ⟨6, 0, ⟨#[]⟩, l⟩ = true := by
  unfold rightD
  rw [cnt]
  have h1 := cntL_few l (0 + 1) (fun x hx => (h x hx).2.1) (by omega)
  rw [decide_eq_true (by omega), Bool.true_and, fitsD]
  have h2 : fitsL l (0 + 1) = true := by
    have : ∀ l : List Dat, (∀ x ∈ l, rightD x = true ∧ prt x ≤ 200 ∧ dpt x 70 ≤ 60) → fitsL l (0 + 1) = true := by
      intro l
      induction l with
      | nil => intro _; rw [fitsL]
      | cons y r ih =>
        intro h
        rw [fitsL, ih (fun z hz => h z (by simp [hz])), Bool.and_true]
        obtain ⟨h1, _, h3⟩ := h y (by simp)
        unfold rightD at h1
        simp only [Bool.and_eq_true] at h1
        exact fits_shift (szD y + 1) y (by omega) 0 (0 + 1) 60 70 h1.2 h3 (by omega) (by omega)
    exact this l h
  rw [h2]
  have : ((⟨#[]⟩ : ByteArray).toList) = [] := by rw [ByteArray.toList_eq]
  simp [this]
end Go.Proofs.YthighbbikpnpgaaDoor

/-! ShQ -/
namespace Go.Proofs.YthighbbikpnpgaaDoor
open Go.RowKit Go.Proofs.YthighbbikpnpgaaDoor.PSh Go.Proofs.YthighbbikpnpgaaDoorW.PrintWords Go.ChangeShapes Go.WideShapes

/-- What stands at every round's head. -/
structure ListR (W : World) (l : List Dat) (j : Nat) (acc : ByteArray) (v : Value) (wr : World) : Prop where
  text : acc.data.toList ++ itemsL false (j == 0) (l.drop j) false = 40 :: itemsL false true l false
  few : acc.size ≤ 1 + 500000 * j
  own : Kd.R kD 84 wr W.heap.size (fun _ => True) v (l.take j)
  below : Below W.heap.size W wr
  right : ∀ x ∈ l.take j, rightD x = true ∧ prt x ≤ 200 ∧ dpt x 70 ≤ 60

/-- A round's end. -/
theorem ListR.next {W : World} {l : List Dat} {j : Nat} {acc acc' : ByteArray} {v v1 : Value} {wr w1 : World} (h : ListR W l j acc v wr) (hj : j < l.length) (hr : rightD l[j] = true ∧ prt l[j] ≤ 200 ∧ dpt l[j] 70 ≤ 60)
    (ha : acc'.data.toList = acc.data.toList ++ (preL false (j == 0) (decide (l.drop (j + 1) = [])) ++ txtD l[j] false))
    (ho : Kd.R kD 84 w1 W.heap.size (fun _ => True) v1 (l.take j ++ [l[j]])) (hb : Below W.heap.size W w1) : ListR W l (j + 1) acc' v1 w1 := by
  refine ⟨?_, ?_, ?_, hb, ?_⟩
  · have := acc_step (p := false) (T := 40 :: itemsL false true l false) hj h.text ha
    exact this
  · have h1 := h.few
    have h2 := txt_len (szD l[j] + 1) l[j] (by omega) 0 false (by have := hr.1; unfold rightD at this; simp only [Bool.and_eq_true] at this; exact this.2)
    have h3 := congrArg List.length ha
    simp only [List.length_append] at h3
    have h4 : (preL false (j == 0) (decide (l.drop (j + 1) = []))).length ≤ 1 := by unfold preL; simp; split <;> simp
    have e1 : acc.size = acc.data.toList.length := by simp
    have e2 : acc'.size = acc'.data.toList.length := by simp
    have h5 := hr.2.1
    omega
  · rw [List.take_succ_eq_append_getElem hj]; exact ho
  · rw [List.take_succ_eq_append_getElem hj]
    intro x hx
    rcases List.mem_append.1 hx with hx | hx
    · exact h.right x hx
    · simp at hx; subst hx; exact hr

/-- Own's result, made by the call. -/
def OwnRTo (x : Dat) (w : World) (e : Ending) (w' : World) : Prop :=
  ∃ v, e = .returned (.agg #[.int .i64 x.f0, .int .i64 x.f1, .string x.f2, v]) ∧ Kd.R kD 84 w' w.heap.size (fun k => w.heap.size ≤ k) v x.f3 ∧ Below w.heap.size w w'
theorem own_made (x : Dat) (A : Option Addr) (c : Nat) (w : World) (hl : x.f3.length ≤ c) (hC : Kd.C kD w A x.f3.length x.f3) (hp : prt x ≤ 4999) :
    Calls Tryd.prog 44 #[.agg #[.int .i64 x.f0, .int .i64 x.f1, .string x.f2, .slice A x.f3.length c]] w (OwnRTo x w) := by
  refine (spindleref08_Own.calls (3 * szD x) x.f0 x.f1 x.f2 A c x.f3 _ _ _ _ w hC hl (own_f (szD x + 1) x (by omega) _ (by omega) (Nat.le_refl _))).mono ?_
  rintro e w' ⟨v, rfl, hR, hb⟩
  exact ⟨v, rfl, Kd.R_mono (Kd.R_bound hR) (fun k hk => hk.2.1), hb⟩

theorem info_dat : (Tryd.prog.info? 84).map (fun i => (i.zero, i.size, i.bytes)) = some (some (.agg #[.int .i64 0, .int .i64 0, .string ⟨#[]⟩, .slice none 0 0]), kD.sz, 56) := by kernel_rfl

theorem txtD_list (n : Int) (t : ByteArray) (l : List Dat) (p : Bool) : txtD ⟨6, n, t, l⟩ p = 40 :: itemsL false true l p := by
  rw [txtD]; simp

set_option maxRecDepth 400000 in
set_option maxHeartbeats 8000000 in
theorem lists_walk (l : List Dat) (A : Option Addr) (c : Nat) (W : World) (hC : Kd.C kD W A l.length l) (hl60 : l.length ≤ 60) (htab : Tab W) :
    Calls Tryd.prog 14 #[.slice A l.length c] W fun e w' => e = .returned (.bool true) ∧ Below W.heap.size W w' := by
  have HC := Lib.hid (fun w' (hb : Below W.heap.size W w') => Kd.C_below hC hb)
  have HTab := Lib.hid htab
  have t1 : decide ((60 : Int) < l.length) = false := by simp; omega
  have hnew := fun (W2 : World) => ListR.mk (W := W) (l := l) (j := 0) (acc := ⟨#[40]⟩) (v := .slice none 0 0) (wr := W2) rfl (by decide) (Kd.R_nil _ _ _ _ _)
  have HN := Lib.hid hnew
  clear hC htab hnew
  go_enter Tryd.func14, Tryd.ntmps14
  go_wp2_with fail
  refine (awake_show _ HTab.out).mono ?_
  rintro e w1 ⟨rfl, hb1⟩
  have HB1 := Lib.hid hb1
  clear hb1
  go_wp2_with fail
  go_loopw [21, 3, 4] (fun i s v wr => ∃ (j : Nat) (acc : ByteArray), j ≤ l.length ∧ i = .int .i64 (j : Nat) ∧ s = .string acc ∧ Hid (ListR W l j acc v wr)) (fun i _ _ _ => l.length - (intOf i).toNat)
  case atStart => exact ⟨0, _, Nat.zero_le _, rfl, rfl, Lib.hid (HN.out _ HB1.out (by simp))⟩
  case round =>
    obtain ⟨j, acc, hj, rfl, rfl, HR⟩ := hrel
    have hac : acc.size ≤ 40000000 := by have := HR.out.few; omega
    by_cases hlt : j < l.length
    · obtain ⟨ad, rfl, A', c', hDj⟩ := dat_item (HC.out _ HR.out.below) j hlt hlt
      have HLT := Lib.hid hlt
      have HX0 : Hid (∃ x, l[j]'hlt = x ∧ DatAt wr (ad.add (j * 4)) x A' c') := Lib.hid ⟨_, rfl, hDj⟩
      clear hDj
      obtain ⟨x, hx, hDj⟩ := HX0.out
      have HX := Lib.hid hx
      have d0 := hDj.c0
      have d1 := hDj.c1
      have d2 := hDj.c2
      have d3 := hDj.c3
      have hlx := hDj.len
      obtain ⟨W1, hW1⟩ : ∃ W1, W1 = wr.alloc (.cells #[.int .i64 x.f0, .int .i64 x.f1, .string x.f2, .slice A' x.f3.length c'] 84) := ⟨_, rfl⟩
      have HBX := Lib.hid (fun (w' : World) (hb : Below W1.heap.size W1 w') => box_cells wr (.int .i64 x.f0) (.int .i64 x.f1) (.string x.f2) (.slice A' x.f3.length c') 84 w' (by rw [← hW1]; exact hb))
      have hbw : Below wr.heap.size wr W1 := by rw [hW1]; exact (Below.refl _ _).alloc (Nat.le_refl _) _
      have HCx := Lib.hid (fun w' (hb : Below wr.heap.size wr w') => Kd.C_below hDj.items hb)
      have HW := Lib.hid hW1
      clear hDj hx hW1
      go_wp2_with fail
      refine (spindleref08_Small.calls (3 * szD x) x.f0 x.f1 x.f2 A' c' x.f3 _ _ (HCx.out _ (by rw [← HW.out]; exact hbw)) hlx (small_f x _ (Nat.le_refl _))).mono ?_
      rintro e w2 ⟨rfl, hb2⟩
      rw [← HW.out] at hb2
      have hb02 := below_trans hbw hb2
      have hsm : smallD x = true ∨ smallD x = false := by cases smallD x <;> simp
      clear d0 d1 d2 d3
      rcases hsm with hsm | hsm
      · rw [hsm]
        have HP := Lib.hid (small_prt hsm)
        clear hsm
        obtain ⟨e0, e1, e2, e3⟩ := HBX.out w2 hb2
        go_wp2_with fail
        refine (spindleref08_Parts.calls (3 * szD x) x.f0 x.f1 x.f2 A' c' x.f3 _ _ (HCx.out _ hb02) hlx (parts_f x _ (Nat.le_refl _))).mono ?_
        rintro e w3 ⟨rfl, hb3⟩
        have hb13 := below_trans hb2 hb3
        have hb03 := below_trans hbw hb13
        clear hb2 hb3 hb02 e0 e1 e2 e3
        by_cases h200 : (200 : Int) < (cnt x 0 : Nat)
        · have t2 : decide ((200 : Int) < (cnt x 0 : Nat)) = true := decide_eq_true h200
          clear h200
          go_wp2_with fail
          go_ret
          exact ⟨rfl, below_trans HR.out.below hb03⟩
        · have t2 : decide ((200 : Int) < (cnt x 0 : Nat)) = false := decide_eq_false h200
          have hq200 := Lib.hid (show prt x ≤ 200 by have := cnt_prt (szD x + 1) x (by omega) 0 (by omega); omega)
          clear h200
          obtain ⟨e0, e1, e2, e3⟩ := HBX.out w3 hb13
          go_wp2_with fail
          refine (spindleref08_Depth.calls (3 * szD x) x.f0 x.f1 x.f2 A' c' x.f3 _ _ _ (HCx.out _ hb03) hlx (depth_70 x _ (by have := HP.out; omega) (Nat.le_refl _))).mono ?_
          rintro e w4 ⟨rfl, hb4⟩
          have hb14 := below_trans hb13 hb4
          have hb04 := below_trans hbw hb14
          clear hb13 hb4 hb03 e0 e1 e2 e3 t2
          by_cases h60 : (60 : Int) < (dpt x 70 : Nat)
          · have t3 : decide ((60 : Int) < (dpt x 70 : Nat)) = true := decide_eq_true h60
            clear h60
            go_wp2_with fail
            go_ret
            exact ⟨rfl, below_trans HR.out.below hb04⟩
          · have t3 : decide ((60 : Int) < (dpt x 70 : Nat)) = false := decide_eq_false h60
            have hq60 := Lib.hid (show dpt x 70 ≤ 60 by omega)
            clear h60
            obtain ⟨e0, e1, e2, e3⟩ := HBX.out w4 hb14
            go_wp2_with fail
            refine (own_any x A' c' _ hlx (HCx.out _ hb04) HP.out).mono ?_
            rintro e w5 ⟨A5, c5, rfl, hl5, hC5, hb5⟩
            have HC5 := Lib.hid hC5
            have hb15 := below_trans hb14 hb5
            have hb05 := below_trans hbw hb15
            clear hb14 hb5 hb04 e0 e1 e2 e3 hC5 t3
            go_wp2_with fail
            refine (write_any x A5 c5 _ hl5 HC5.out (tab_below HTab.out (below_trans HR.out.below hb05))).mono ?_
            rintro e w6 ⟨rfl, hb6⟩
            have hb16 := below_trans hb15 hb6
            have hb06 := below_trans hbw hb16
            clear hb15 hb6 hb05
            have hR : rightD x = true ∨ rightD x = false := by cases rightD x <;> simp
            rcases hR with hR | hR
            · rw [textV_right hR]
              have hyl := (right_len hR false).2
              have HRt := Lib.hid hR
              obtain ⟨y, hy⟩ : ∃ y, txtD x false = y := ⟨_, rfl⟩
              have HY := Lib.hid hy
              rw [hy] at hyl ⊢
              have HBX6 := Lib.hid (HBX.out w6 hb16)
              clear hR hy
              obtain ⟨e0, e1, e2, e3⟩ := HBX6.out
              by_cases hj0 : (0 : Int) < (j : Nat)
              · have h1 : (0 : Int) < j := hj0
                have HJ := Lib.hid (show preL false (j == 0) (decide (l.drop (j + 1) = [])) = [32] by rw [beq_eq_false_iff_ne.2 (show j ≠ 0 by omega)]; simp [preL])
                clear hj0
                go_wp2_with fail
                refine (own_made x A' c' _ hlx (HCx.out _ hb06) (by have := hq200.out; omega)).mono ?_
                rintro e w7 ⟨v7, rfl, hv7, hb7⟩
                have HV7 := Lib.hid hv7
                have hb17 := below_trans hb16 hb7
                have hb07 := below_trans hbw hb17
                have HB6 := Lib.hid hb06
                clear hb16 hb7 hb06 e0 e1 e2 e3 hv7
                go_wp2_with (first | ((with_reducible refine gate_builtin (b := .append) (xs := #[.tmp 54, .tmp 57]) rfl ?_); at_builtin; refine Kd.R_append kD (w0 := W) W.heap.size rfl (.tmp 54) (.tmp 57) 82 84 (.agg #[.int .i64 0, .int .i64 0, .string ⟨#[]⟩, .slice none 0 0]) 56 rfl Tryd.underlying82 info_dat rfl (by decide) (by omega) u4 (l.take j) x [.int .i64 x.f0, .int .i64 x.f1, .string x.f2, v7] (fun _ => True) (fun k_ => w6.heap.size ≤ k_) rfl rfl ?aP ?aK (fun _ _ => trivial) ?aO ?aB ?aS ?aL ?_; (case aP => exact k84_mkM _ _ _ x (Kd.R_lower HV7.out (below_size (below_trans HR.out.below HB6.out)))); (case aK => exact (fun k_ hk => ⟨trivial, fun he => by have h1 := Kd.R_lt HR.out.own k_ he.symm; have h2 := below_size HB6.out; omega⟩)); (case aO => exact Kd.R_below HR.out.own hb07); (case aB => exact below_trans HR.out.below hb07); (case aS => exact below_size (below_trans HR.out.below hb07)); (case aL => simp only [List.length_take]; omega); intro v8 w8 ho hb hg hat; have HO8 := Lib.hid ho; have HB8 := Lib.hid hb; clear ho hb hg hat))
                go_roundw
                case rel =>
                  refine ⟨j + 1, _, HLT.out, by go_num, rfl, Lib.hid (HR.out.next HLT.out (by rw [HX.out]; exact ⟨HRt.out, hq200.out, hq60.out⟩) ?_ (by rw [HX.out]; exact HO8.out) HB8.out)⟩
                  rw [HJ.out, HX.out, HY.out]
                  simp
                case measure => have := HLT.out; simp [intOf]; omega
              · have h1 : (j : Int) ≤ 0 := by omega
                have HJ := Lib.hid (show preL false (j == 0) (decide (l.drop (j + 1) = [])) = [] by rw [beq_iff_eq.2 (show j = 0 by omega)]; simp [preL])
                clear hj0
                go_wp2_with fail
                refine (own_made x A' c' _ hlx (HCx.out _ hb06) (by have := hq200.out; omega)).mono ?_
                rintro e w7 ⟨v7, rfl, hv7, hb7⟩
                have HV7 := Lib.hid hv7
                have hb17 := below_trans hb16 hb7
                have hb07 := below_trans hbw hb17
                have HB6 := Lib.hid hb06
                clear hb16 hb7 hb06 e0 e1 e2 e3 hv7
                go_wp2_with (first | ((with_reducible refine gate_builtin (b := .append) (xs := #[.tmp 54, .tmp 57]) rfl ?_); at_builtin; refine Kd.R_append kD (w0 := W) W.heap.size rfl (.tmp 54) (.tmp 57) 82 84 (.agg #[.int .i64 0, .int .i64 0, .string ⟨#[]⟩, .slice none 0 0]) 56 rfl Tryd.underlying82 info_dat rfl (by decide) (by omega) u4 (l.take j) x [.int .i64 x.f0, .int .i64 x.f1, .string x.f2, v7] (fun _ => True) (fun k_ => w6.heap.size ≤ k_) rfl rfl ?aP ?aK (fun _ _ => trivial) ?aO ?aB ?aS ?aL ?_; (case aP => exact k84_mkM _ _ _ x (Kd.R_lower HV7.out (below_size (below_trans HR.out.below HB6.out)))); (case aK => exact (fun k_ hk => ⟨trivial, fun he => by have h1 := Kd.R_lt HR.out.own k_ he.symm; have h2 := below_size HB6.out; omega⟩)); (case aO => exact Kd.R_below HR.out.own hb07); (case aB => exact below_trans HR.out.below hb07); (case aS => exact below_size (below_trans HR.out.below hb07)); (case aL => simp only [List.length_take]; omega); intro v8 w8 ho hb hg hat; have HO8 := Lib.hid ho; have HB8 := Lib.hid hb; clear ho hb hg hat))
                go_roundw
                case rel =>
                  refine ⟨j + 1, _, HLT.out, by go_num, rfl, Lib.hid (HR.out.next HLT.out (by rw [HX.out]; exact ⟨HRt.out, hq200.out, hq60.out⟩) ?_ (by rw [HX.out]; exact HO8.out) HB8.out)⟩
                  rw [HJ.out, HX.out, HY.out]
                  simp
                case measure => have := HLT.out; simp [intOf]; omega
            · rw [textV_bad hR]
              clear hR
              go_wp2_with fail
              go_ret
              exact ⟨rfl, below_trans HR.out.below hb06⟩
      · rw [hsm]
        clear hsm
        go_wp2_with fail
        go_ret
        exact ⟨rfl, below_trans HR.out.below hb02⟩
    · obtain rfl : j = l.length := by omega
      have hown := HR.out.own
      rw [List.take_length] at hown
      obtain ⟨A6, c6, rfl, hl6, hC6⟩ := Kd.R_reads hown
      have HC6 := Lib.hid hC6
      have hRs := HR.out.right
      rw [List.take_length] at hRs
      have HE := Lib.hid (show (acc ++ ⟨#[41]⟩ : ByteArray) = ⟨(txtD ⟨6, 0, ⟨#[]⟩, l⟩ false).toArray⟩ by
        have h1 := HR.out.text
        rw [List.drop_length, itemsL] at h1
        apply ByteArray.ext
        apply Array.ext'
        rw [txtD_list, ← h1]
        simp)
      have HLR := Lib.hid (fun (h : rightD ⟨6, 0, ⟨#[]⟩, l⟩ = false) => show 15 < l.length by
        by_cases h1 : l.length ≤ 15
        · rw [list_right l hRs h1] at h; cases h
        · omega)
      clear hown hC6 hRs
      go_wp2_with fail
      refine (write_any ⟨6, 0, ⟨#[]⟩, l⟩ A6 c6 _ hl6 HC6.out (tab_below HTab.out HR.out.below)).mono ?_
      rintro e w6 ⟨rfl, hb6⟩
      have hR : rightD ⟨6, 0, ⟨#[]⟩, l⟩ = true ∨ rightD ⟨6, 0, ⟨#[]⟩, l⟩ = false := by cases rightD ⟨6, 0, ⟨#[]⟩, l⟩ <;> simp
      rcases hR with hR | hR
      · rw [textV_right hR, ← HE.out]
        clear hR
        go_wp2_with fail
        go_ret
        exact ⟨rfl, below_trans HR.out.below hb6⟩
      · rw [textV_bad hR]
        have h15 := HLR.out hR
        have t5 : decide ((15 : Int) < (l.length : Nat)) = true := decide_eq_true (by omega)
        clear hR h15
        go_wp2_with fail
        go_ret
        exact ⟨rfl, below_trans HR.out.below hb6⟩

set_option maxRecDepth 400000 in
set_option maxHeartbeats 8000000 in
theorem lists_great (l : List Dat) (A : Option Addr) (c : Nat) (W : World) (hl60 : 60 < l.length) (htab : Tab W) :
    Calls Tryd.prog 14 #[.slice A l.length c] W fun e w' => e = .returned (.bool true) ∧ Below W.heap.size W w' := by
  have HTab := Lib.hid htab
  have t1 : decide ((60 : Int) < l.length) = true := decide_eq_true (by omega)
  clear htab hl60
  go_enter Tryd.func14, Tryd.ntmps14
  go_wp2_with fail
  refine (awake_show _ HTab.out).mono ?_
  rintro e w1 ⟨rfl, hb1⟩
  have HB1 := Lib.hid hb1
  clear hb1
  go_wp2_with fail
  refine (awake_show _ (tab_below HTab.out HB1.out)).mono ?_
  rintro e w2 ⟨rfl, hb2⟩
  have HB2 := Lib.hid hb2
  clear hb2
  go_wp2_with fail
  go_ret
  exact ⟨rfl, below_trans HB1.out HB2.out⟩

set_option maxRecDepth 16000 in
theorem ShowLists_top {H : Type} {enc : TypeId × Value → H} (W : World) (base : Nat) (v0 : Value) (d0 : DataW H) (p0 : List MemPlace) (hv0 : Value.okWide Tryd.prog W .any base 82 v0) (h0 : DataW.Trod enc Tryd.prog W 0 (fun _ => true) true 82 v0 d0 p0)
    {ts : List TypeId} {ds : List (DataW H)} (_ : (DataW.weightsEach Tryd.prog ts ds).all (· ≤ reachBytes) = true) (hT : Tab W) :
    Calls Tryd.prog 14 #[v0] W fun e w' => e = .returned (.bool true) ∧ Below W.heap.size W w' := by
  obtain ⟨a, len, cap, rfl⟩ := okWide_slice Tryd.underlying82 hv0
  obtain ⟨m, hm⟩ := h0
  obtain ⟨A, c, l, he, _, hC⟩ := (dat_read m).2 _ _ hm
  rw [he]
  by_cases h : l.length ≤ 60
  · exact lists_walk l A c W hC h hT
  · exact lists_great l A c W (by omega) hT
end Go.Proofs.YthighbbikpnpgaaDoor
