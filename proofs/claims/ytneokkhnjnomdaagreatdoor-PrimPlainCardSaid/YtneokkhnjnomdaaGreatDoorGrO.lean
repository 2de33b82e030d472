/-
  The law PrimPlain.
-/
import Derived.Test.YtneokkhnjnomdaaGreatDoorGrN
import Derived.Deep.RegionHeld3
import Derived.Deep.DeepCutAuto
namespace Go.Proofs.YtneokkhnjnomdaaGreatDoor
open Go.RowKit Go.Proofs.YtneokkhnjnomdaaGreatDoor.PSh Go.Proofs.YtneokkhnjnomdaaGreatDoorW.PrintWords Go.ChangeShapes Go.WideShapes Go.ChangeAt

/-- Either something came, or nothing did. -/
def okR2 (r : Res) : Prop := r.e = 0 ∨ r.e ≠ 0
theorem resL_two (n : Int) (L : List Nd) : okR2 (resL n L) := by
  unfold okR2
  omega
theorem keep_al {w : World} {p : Addr} {v : Value} {o : Obj} (h : w.cell? p = some v) : (w.alloc o).cell? p = some v := (World.cell?_alloc_some w p o (by rw [h]; rfl)).trans h
theorem keep_dr {w : World} {p : Addr} {v : Value} (h : w.cell? p = some v) : w.drew.cell? p = some v := h
theorem keep_st {w : World} {p q : Addr} {v u : Value} (hne : q.block ≠ p.block) (h : w.cell? p = some v) : (w.setCell q u).cell? p = some v := (World.cell?_setCell_far w q p u hne).trans h

set_option maxRecDepth 100000 in
set_option maxHeartbeats 40000000 in
theorem plain_not (n : Int) (l : List Dat) (A : Option Addr) (c : Nat) (k : Int) (s : ByteArray) (w : World) (h : Laid18 w) (hC : Kd.C kD w A l.length l) (hf : fewL l = false) : Calls Tryz.prog 4 #[.int .i64 n, .slice A l.length c, .int .i64 k, .string s] w (Giv (.bool true) w) := by
  have HL := Lib.hid h
  have HB0 := Lib.hid (Below.refl w.heap.size w)
  have HC := Lib.hid (fun w' (hb : Below w.heap.size w w') => Kd.C_below hC hb)
  have HF := Lib.hid hf
  clear h hC hf
  go_enter Tryz.func4, Tryz.ntmps4
  go_wp2_with fail
  refine (awake_18 _ (HL.out.later HB0.out)).mono ?_
  rintro e1 w1 ⟨rfl, hb1⟩
  have HB1 := Lib.hid (below_step HB0.out hb1)
  clear hb1
  go_wp2_with fail
  refine (few_any l A c _ (HC.out _ HB1.out)).mono ?_
  rintro e2 w2 ⟨rfl, hb2⟩
  have HB2 := Lib.hid (below_step HB1.out hb2)
  clear hb2
  rw [HF.out]
  go_wp2_with fail
  refine (awake_18 _ (HL.out.later HB2.out)).mono ?_
  rintro e3 w3 ⟨rfl, hb3⟩
  have HB3 := Lib.hid (below_step HB2.out hb3)
  clear hb3
  go_wp2_with fail
  go_ret
  exact ⟨rfl, HB3.out⟩
set_option maxRecDepth 100000 in
set_option maxHeartbeats 40000000 in
theorem plain_long (n : Int) (l : List Dat) (A : Option Addr) (c : Nat) (k : Int) (s : ByteArray) (w : World) (h : Laid18 w) (hC : Kd.C kD w A l.length l) (hf : fewL l = true) (hs : 500 < s.size) : Calls Tryz.prog 4 #[.int .i64 n, .slice A l.length c, .int .i64 k, .string s] w (Giv (.bool true) w) := by
  have HL := Lib.hid h
  have HB0 := Lib.hid (Below.refl w.heap.size w)
  have HC := Lib.hid (fun w' (hb : Below w.heap.size w w') => Kd.C_below hC hb)
  have HF := Lib.hid hf
  have t5 : decide ((500 : Int) < (s.size : Nat)) = true := decide_eq_true (by omega)
  clear h hC hf hs
  go_enter Tryz.func4, Tryz.ntmps4
  go_wp2_with fail
  refine (awake_18 _ (HL.out.later HB0.out)).mono ?_
  rintro e1 w1 ⟨rfl, hb1⟩
  have HB1 := Lib.hid (below_step HB0.out hb1)
  clear hb1
  go_wp2_with fail
  refine (few_any l A c _ (HC.out _ HB1.out)).mono ?_
  rintro e2 w2 ⟨rfl, hb2⟩
  have HB2 := Lib.hid (below_step HB1.out hb2)
  clear hb2
  rw [HF.out]
  go_wp2_with fail
  refine (awake_18 _ (HL.out.later HB2.out)).mono ?_
  rintro e3 w3 ⟨rfl, hb3⟩
  have HB3 := Lib.hid (below_step HB2.out hb3)
  clear hb3
  go_wp2_with fail
  go_ret
  exact ⟨rfl, HB3.out⟩
set_option maxRecDepth 100000 in
set_option maxHeartbeats 40000000 in
theorem plain_few (n : Int) (l : List Dat) (A : Option Addr) (c : Nat) (k : Int) (s : ByteArray) (w : World) (h : Laid18 w) (hC : Kd.C kD w A l.length l) (hb : ∀ x ∈ l, bndX x) (hk : -9223372036854775808 ≤ k ∧ k ≤ 9223372036854775807) (hf : fewL l = true) (hs : s.size ≤ 500) : Calls Tryz.prog 4 #[.int .i64 n, .slice A l.length c, .int .i64 k, .string s] w (Giv (.bool true) w) := by
  have HL := Lib.hid h
  have HB0 := Lib.hid (Below.refl w.heap.size w)
  have HC := Lib.hid (fun w' (hb : Below w.heap.size w w') => Kd.C_below hC hb)
  have hfl := few_len hf
  have hfp := few_parts hf
  obtain ⟨L, hl, hN, hA, hOk⟩ := args_nd l A c w hC hb (fun x hx => by have := (hfp x hx).2.1; omega)
  have HE := Lib.hid (fun w' (hb : Below w.heap.size w w') => (EvArgs.mk (hA.later hb) (fun d hd => by obtain ⟨p, h⟩ := hOk d hd; exact ⟨p, h.later hb⟩) (by omega) (spt_below h.spt hb) (tab_below h.tab hb) : EvArgs L (.slice A l.length c) w'))
  have hcase : (∀ w', Below w.heap.size w w' → Calls Tryz.prog 10 #[.int .i64 n, .slice A l.length c] w' (Giv (.tuple #[datV 0 0 ⟨#[]⟩, kindV 2]) w')) ∨ (∀ w', Below w.heap.size w w' → Calls Tryz.prog 10 #[.int .i64 n, .slice A l.length c] w' (Giv (outV n (resL n L)) w')) ∧ goodR (resL n L) ∧ okR2 (resL n L) := by
    cases hp : pureB n
    · exact .inl (fun w' hb' => eval_impure n L _ w' (HE.out w' hb') hp)
    cases hq : L.any (fun d => !plainN d)
    · exact .inr ⟨fun w' hb' => eval_all n L _ w' (HE.out w' hb') hp hq, goodL n L hp (plain_bound hq), resL_two n L⟩
    · exact .inl (fun w' hb' => eval_unplain n L _ w' (HE.out w' hb') hp hq)
  generalize resL n L = R at hcase
  have HCS := Lib.hid hcase
  have HF := Lib.hid hf
  have t5 : decide ((500 : Int) < (s.size : Nat)) = false := decide_eq_false (by omega)
  have HS := Lib.hid hs
  have HK := Lib.hid hk
  have hkc : (Num k = false) ∨ (Num k = true ∧ 0 ≤ k ∧ k ≤ 255) ∨ (Num k = true ∧ ¬ (0 ≤ k ∧ k ≤ 255)) := by
    by_cases h1 : Num k = true
    · by_cases h2 : 0 ≤ k ∧ k ≤ 255
      · exact .inr (.inl ⟨h1, h2⟩)
      · exact .inr (.inr ⟨h1, h2⟩)
    · exact .inl (by simpa using h1)
  have HKC := Lib.hid hkc
  clear h hC hf hfp hb hl hN hA hOk HE hfl hcase hs hk hkc
  go_enter Tryz.func4, Tryz.ntmps4
  go_wp2_with fail
  refine (awake_18 _ (HL.out.later HB0.out)).mono ?_
  rintro e1 w1 ⟨rfl, hb1⟩
  have HB1 := Lib.hid (below_step HB0.out hb1)
  clear hb1
  go_wp2_with fail
  refine (few_any l A c _ (HC.out _ HB1.out)).mono ?_
  rintro e2 w2 ⟨rfl, hb2⟩
  have HB2 := Lib.hid (below_step HB1.out hb2)
  clear hb2
  rw [HF.out]
  go_upto_region 3 with (fail)
  rename_i K2 hK2
  go_cut [9, 10] (fun s9 s10 wx => ∃ g : Nat, s9 = .pointer (some ⟨g, 0, none⟩) ∧ Hid (Below w.heap.size w wx) ∧ ((s10 = .nilIface ∧ ∃ k' N t, Hid (DZ g k' N t wx) ∧ Hid (plainN ⟨k', N, t, none, 0, 0⟩ = true)) ∨ (∃ T u, s10 = .iface T u ∧ Hid (DZ g 0 0 ⟨#[]⟩ wx))))
  case first =>
    have hcs := HCS.out
    rcases hcs with hcs | ⟨hcs, hgd, hok⟩
    · have cE := Lib.hid (hcs _ HB2.out)
      clear hcs
      go_wp2_with fail
      refine (cE.out).mono ?_
      rintro e3 w3 ⟨rfl, hb3⟩
      have HB3 := Lib.hid (below_step HB2.out hb3)
      clear hb3
      go_wp2_with fail
      go_meet
      exact ⟨_, rfl, Lib.hid (below_alloc HB3.out _), .inr ⟨_, _, rfl, Lib.hid (blk_new w3 _)⟩⟩
    · by_cases hR : R.e = 0
      · have cE := Lib.hid (hcs _ HB2.out)
        clear hcs
        unfold outV at cE
        rw [if_pos hR] at cE
        have hgd2 := hgd hR
        go_wp2_with fail
        refine (cE.out).mono ?_
        rintro e3 w3 ⟨rfl, hb3⟩
        have HB3 := Lib.hid (below_step HB2.out hb3)
        clear hb3
        go_wp2_with fail
        go_meet
        exact ⟨_, rfl, Lib.hid (below_alloc HB3.out _), .inl ⟨rfl, _, _, _, Lib.hid (blk_new w3 _), Lib.hid hgd2⟩⟩
      · have cE := Lib.hid (hcs _ HB2.out)
        clear hcs
        unfold outV at cE
        rw [if_neg hR] at cE
        go_wp2_with fail
        refine (cE.out).mono ?_
        rintro e3 w3 ⟨rfl, hb3⟩
        have HB3 := Lib.hid (below_step HB2.out hb3)
        clear hb3
        go_wp2_with fail
        go_meet
        exact ⟨_, rfl, Lib.hid (below_alloc HB3.out _), .inr ⟨_, _, rfl, Lib.hid (blk_new w3 _)⟩⟩
  case rest =>
    clear HCS
    obtain ⟨g, rfl, HBc, hd⟩ := hcut
    refine hK2 _ _ ?_
    clear hK2 K2
    refine wp_seq_k (fun K3 hK3 => ?_)
    go_cut [] (fun wx => Hid (Below w.heap.size w wx))
    case first =>
      rcases hd with ⟨rfl, k', N, t, HD, HPN⟩ | ⟨T, u, rfl, HD⟩
      · have a0 : wc.cell? ⟨g, 0, none⟩ = some (.int .i64 k') := blk_cell HD.out 0
        have a1 : wc.cell? ⟨g, 1, none⟩ = some (.int .i64 N) := blk_cell HD.out 1
        have a2 : wc.cell? ⟨g, 2, none⟩ = some (.string t) := blk_cell HD.out 2
        have a3 : wc.cell? ⟨g, 3, none⟩ = some (.slice none 0 0) := blk_cell HD.out 3
        go_wp2_with fail
        refine (plain_leaf k' N t _ HPN.out).mono ?_
        rintro e9 w9 ⟨rfl, hb9⟩
        have HB9 := Lib.hid (below_step HBc.out hb9)
        clear hb9 a0 a1 a2 a3
        go_wp2_with fail
        go_meet
        exact HB9
      · go_wp2_with fail
        go_meet
        exact HBc
    case rest =>
      have HBm := hcut
      clear hd HBc hcut
      refine hK3 _ _ ?_
      clear hK3 K3
      refine wp_seq_k (fun K4 hK4 => ?_)
      go_cut [] (fun wx => Hid (Below w.heap.size w wx))
      case first =>
        by_cases hk : Num k = true
        · have hit := itoa_size hk
          have c34 := Lib.hid (fun v w hL hA => ev_one 34 (numN k) (strR ⟨(Lib.itoa k).toArray⟩) rfl HK.out.1 HK.out.2 (by rw [plain_num]; exact hk) rfl (by rw [resL_1 rfl rfl]; rfl) v w hL hA)
          have c35 := Lib.hid (fun v w hL hA => ev_one 35 (strN ⟨(Lib.itoa k).toArray⟩) ⟨1, k, ⟨#[]⟩, 0⟩ rfl (show (-9223372036854775808 : Int) ≤ 0 by omega) (show (0 : Int) ≤ 9223372036854775807 by omega) (by rw [plain_str]; exact decide_eq_true hit) rfl (by
            rw [resL_1 rfl rfl]
            show parseR (parseL (Lib.itoa k)) = _
            rw [parse_itoa k HK.out.1 HK.out.2]
            unfold fitL
            rw [if_pos hk]
            rfl) v w hL hA)
          simp only [strR, outV_ok] at c34 c35
          generalize (⟨(Lib.itoa k).toArray⟩ : ByteArray) = T at c34 c35
          clear hit hk
          have HB100 := HBm
          go_wp2_with fail
          refine (num_of k _).mono ?_
          rintro e101 w101 ⟨rfl, hb101⟩
          have HB101 := Lib.hid (below_step HB100.out hb101)
          clear hb101
          go_wp2_with fail
          have hba : Below w.heap.size w (w101.alloc (.cells #[.int .i64 (numN k).k, .int .i64 (numN k).n, .string (numN k).t, .slice (numN k).a (numN k).m (numN k).c] 26)) := below_alloc HB101.out _
          refine (c34.out _ _ (HL.out.later hba) (args_new1 (numN k) w101)).mono ?_
          rintro e102 w102 ⟨rfl, hb102⟩
          have HB102 := Lib.hid (below_step hba hb102)
          clear hb102 hba
          have HDa := Lib.hid (blk_new w102 (.cells #[.int .i64 4, .int .i64 0, .string T, .slice none 0 0] 26 (0, 0)))
          have HB103 := Lib.hid (below_alloc HB102.out (.cells #[.int .i64 4, .int .i64 0, .string T, .slice none 0 0] 26))
          go_upto_region 7 with (fail)
          generalize w102.alloc (.cells #[.int .i64 4, .int .i64 0, .string T, .slice none 0 0] 26) = w103 at HDa HB103 ⊢
          generalize w102.heap.size = bDa at HDa ⊢
          have a0 : w103.cell? ⟨bDa, 0, none⟩ = some (.int .i64 4) := blk_cell HDa.out 0
          have a1 : w103.cell? ⟨bDa, 1, none⟩ = some (.int .i64 0) := blk_cell HDa.out 1
          have a2 : w103.cell? ⟨bDa, 2, none⟩ = some (.string T) := blk_cell HDa.out 2
          have a3 : w103.cell? ⟨bDa, 3, none⟩ = some (.slice none 0 0) := blk_cell HDa.out 3
          go_wp2_with fail
          have hba : Below w.heap.size w (w103.alloc (.cells #[.int .i64 (strN T).k, .int .i64 (strN T).n, .string (strN T).t, .slice (strN T).a (strN T).m (strN T).c] 26)) := below_alloc HB103.out _
          refine (c35.out _ _ (HL.out.later hba) (args_new1 (strN T) w103)).mono ?_
          rintro e104 w104 ⟨rfl, hb104⟩
          have HB104 := Lib.hid (below_step hba hb104)
          have HDa := Lib.hid (blk_below (blk_alloc HDa.out (.cells #[.int .i64 (strN T).k, .int .i64 (strN T).n, .string (strN T).t, .slice (strN T).a (strN T).m (strN T).c] 26)) hb104)
          clear hb104 hba
          clear a0 a1 a2 a3
          have HDb := Lib.hid (blk_new w104 (.cells #[.int .i64 1, .int .i64 k, .string ⟨#[]⟩, .slice none 0 0] 26 (0, 0)))
          have HB105 := Lib.hid (below_alloc HB104.out (.cells #[.int .i64 1, .int .i64 k, .string ⟨#[]⟩, .slice none 0 0] 26))
          have HDa := Lib.hid (blk_alloc HDa.out (.cells #[.int .i64 1, .int .i64 k, .string ⟨#[]⟩, .slice none 0 0] 26))
          go_upto_region 9 with (fail)
          generalize w104.alloc (.cells #[.int .i64 1, .int .i64 k, .string ⟨#[]⟩, .slice none 0 0] 26) = w105 at HDa HDb HB105 ⊢
          generalize w104.heap.size = bDb at HDb ⊢
          have lb : bDb < w105.heap.size := blk_lt HDb.out
          have y0 : w105.cell? ⟨bDb, 0, none⟩ = some (.int .i64 1) := blk_cell HDb.out 0
          have y1 : w105.cell? ⟨bDb, 1, none⟩ = some (.int .i64 k) := blk_cell HDb.out 1
          have y2 : w105.cell? ⟨bDb, 2, none⟩ = some (.string ⟨#[]⟩) := blk_cell HDb.out 2
          have y3 : w105.cell? ⟨bDb, 3, none⟩ = some (.slice none 0 0) := blk_cell HDb.out 3
          go_region_held3 (fun w' => w'.cell? ⟨bDb, 0, none⟩ = some (.int .i64 1) ∧ w'.cell? ⟨bDb, 1, none⟩ = some (.int .i64 k) ∧ w'.cell? ⟨bDb, 2, none⟩ = some (.string ⟨#[]⟩) ∧ w'.cell? ⟨bDb, 3, none⟩ = some (.slice none 0 0))
            ((repeat (first | (with_reducible assumption) | (with_reducible refine And.intro ?_ ?_) | (with_reducible refine keep_al ?_) | (with_reducible refine keep_dr ?_) | (with_reducible refine keep_st ?_ ?_) | (intro eqb; simp at eqb <;> omega))))
            (first
              | (go_at_call 16; refine (num_of k _).mono ?_; rintro e5 w5 ⟨rfl, hb5⟩; have u0 : w5.cell? ⟨bDb, 0, none⟩ = some (.int .i64 1) := (hb5.cell (p := ⟨bDb, 0, none⟩) (by first | exact lb | (simp; omega))).trans (by (repeat (first | (with_reducible assumption) | (with_reducible refine And.intro ?_ ?_) | (with_reducible refine keep_al ?_) | (with_reducible refine keep_dr ?_) | (with_reducible refine keep_st ?_ ?_) | (intro eqb; simp at eqb <;> omega)))); have u1 : w5.cell? ⟨bDb, 1, none⟩ = some (.int .i64 k) := (hb5.cell (p := ⟨bDb, 1, none⟩) (by first | exact lb | (simp; omega))).trans (by (repeat (first | (with_reducible assumption) | (with_reducible refine And.intro ?_ ?_) | (with_reducible refine keep_al ?_) | (with_reducible refine keep_dr ?_) | (with_reducible refine keep_st ?_ ?_) | (intro eqb; simp at eqb <;> omega)))); have u2 : w5.cell? ⟨bDb, 2, none⟩ = some (.string ⟨#[]⟩) := (hb5.cell (p := ⟨bDb, 2, none⟩) (by first | exact lb | (simp; omega))).trans (by (repeat (first | (with_reducible assumption) | (with_reducible refine And.intro ?_ ?_) | (with_reducible refine keep_al ?_) | (with_reducible refine keep_dr ?_) | (with_reducible refine keep_st ?_ ?_) | (intro eqb; simp at eqb <;> omega)))); have u3 : w5.cell? ⟨bDb, 3, none⟩ = some (.slice none 0 0) := (hb5.cell (p := ⟨bDb, 3, none⟩) (by first | exact lb | (simp; omega))).trans (by (repeat (first | (with_reducible assumption) | (with_reducible refine And.intro ?_ ?_) | (with_reducible refine keep_al ?_) | (with_reducible refine keep_dr ?_) | (with_reducible refine keep_st ?_ ?_) | (intro eqb; simp at eqb <;> omega)))))
              | (go_at_call 13; refine (same_leaf 1 k ⟨#[]⟩ _).mono ?_; rintro e6 w6 ⟨rfl, hb6⟩; have z0 : w6.cell? ⟨bDb, 0, none⟩ = some (.int .i64 1) := (hb6.cell (p := ⟨bDb, 0, none⟩) (by first | exact Nat.lt_of_lt_of_le lb hb5.size | (simp; omega))).trans (by (repeat (first | (with_reducible assumption) | (with_reducible refine And.intro ?_ ?_) | (with_reducible refine keep_al ?_) | (with_reducible refine keep_dr ?_) | (with_reducible refine keep_st ?_ ?_) | (intro eqb; simp at eqb <;> omega)))); have z1 : w6.cell? ⟨bDb, 1, none⟩ = some (.int .i64 k) := (hb6.cell (p := ⟨bDb, 1, none⟩) (by first | exact Nat.lt_of_lt_of_le lb hb5.size | (simp; omega))).trans (by (repeat (first | (with_reducible assumption) | (with_reducible refine And.intro ?_ ?_) | (with_reducible refine keep_al ?_) | (with_reducible refine keep_dr ?_) | (with_reducible refine keep_st ?_ ?_) | (intro eqb; simp at eqb <;> omega)))); have z2 : w6.cell? ⟨bDb, 2, none⟩ = some (.string ⟨#[]⟩) := (hb6.cell (p := ⟨bDb, 2, none⟩) (by first | exact Nat.lt_of_lt_of_le lb hb5.size | (simp; omega))).trans (by (repeat (first | (with_reducible assumption) | (with_reducible refine And.intro ?_ ?_) | (with_reducible refine keep_al ?_) | (with_reducible refine keep_dr ?_) | (with_reducible refine keep_st ?_ ?_) | (intro eqb; simp at eqb <;> omega)))); have z3 : w6.cell? ⟨bDb, 3, none⟩ = some (.slice none 0 0) := (hb6.cell (p := ⟨bDb, 3, none⟩) (by first | exact Nat.lt_of_lt_of_le lb hb5.size | (simp; omega))).trans (by (repeat (first | (with_reducible assumption) | (with_reducible refine And.intro ?_ ?_) | (with_reducible refine keep_al ?_) | (with_reducible refine keep_dr ?_) | (with_reducible refine keep_st ?_ ?_) | (intro eqb; simp at eqb <;> omega))))))
          all_goals (have B6 : Below w.heap.size w w6 := by first | exact below_step (below_step HB105.out hb5) hb6 | exact below_step (below_step (below_drew HB105.out) hb5) hb6 | exact below_step (below_drew (below_step HB105.out hb5)) hb6)
          all_goals go_wp2_with fail
          all_goals go_meet
          all_goals exact Lib.hid B6
        · have c34 := Lib.hid (fun v w hL hA => ev_one_bad 34 (numN k) rfl HK.out.1 HK.out.2 (by rw [plain_num]; simpa using hk) rfl v w hL hA)
          clear hk
          have HB100 := HBm
          go_wp2_with fail
          refine (num_of k _).mono ?_
          rintro e101 w101 ⟨rfl, hb101⟩
          have HB101 := Lib.hid (below_step HB100.out hb101)
          clear hb101
          go_wp2_with fail
          have hba : Below w.heap.size w (w101.alloc (.cells #[.int .i64 (numN k).k, .int .i64 (numN k).n, .string (numN k).t, .slice (numN k).a (numN k).m (numN k).c] 26)) := below_alloc HB101.out _
          refine (c34.out _ _ (HL.out.later hba) (args_new1 (numN k) w101)).mono ?_
          rintro e102 w102 ⟨rfl, hb102⟩
          have HB102 := Lib.hid (below_step hba hb102)
          clear hb102 hba
          go_wp2_with fail
          go_meet
          exact Lib.hid (below_alloc HB102.out _)
      case rest =>
        have HBm2 := hcut
        clear HBm hcut
        have HBm := HBm2
        clear HBm2
        refine hK4 _ _ ?_
        clear hK4 K4
        refine wp_seq_k (fun K5 hK5 => ?_)
        go_cut [] (fun wx => Hid (Below w.heap.size w wx))
        case first =>
          have hps : plainN (strN s) = true := by rw [plain_str]; exact decide_eq_true HS.out
          by_cases hy : symL s.data.toList = true
          · have c37 := Lib.hid (fun v w hL hA => ev_one 37 (strN s) ⟨5, 0, s, 0⟩ rfl (show (-9223372036854775808 : Int) ≤ 0 by omega) (show (0 : Int) ≤ 9223372036854775807 by omega) hps rfl (by rw [resL_1 rfl rfl]; show symR s = _; unfold symR; rw [if_pos hy]) v w hL hA)
            have c36 := Lib.hid (fun v w hL hA => ev_one 36 ⟨5, 0, s, none, 0, 0⟩ (strR s) rfl (show (-9223372036854775808 : Int) ≤ 0 by omega) (show (0 : Int) ≤ 9223372036854775807 by omega) (by simp [plainN, hy]) rfl (by rw [resL_1 rfl rfl]; rfl) v w hL hA)
            simp only [strR, outV_ok] at c37 c36
            clear hy hps
            have HB100 := HBm
            go_wp2_with fail
            refine (lawstr_of s _).mono ?_
            rintro e101 w101 ⟨rfl, hb101⟩
            have HB101 := Lib.hid (below_step HB100.out hb101)
            clear hb101
            go_wp2_with fail
            have hba : Below w.heap.size w (w101.alloc (.cells #[.int .i64 (strN s).k, .int .i64 (strN s).n, .string (strN s).t, .slice (strN s).a (strN s).m (strN s).c] 26)) := below_alloc HB101.out _
            refine (c37.out _ _ (HL.out.later hba) (args_new1 (strN s) w101)).mono ?_
            rintro e102 w102 ⟨rfl, hb102⟩
            have HB102 := Lib.hid (below_step hba hb102)
            clear hb102 hba
            have HDa := Lib.hid (blk_new w102 (.cells #[.int .i64 5, .int .i64 0, .string s, .slice none 0 0] 26 (0, 0)))
            have HB103 := Lib.hid (below_alloc HB102.out (.cells #[.int .i64 5, .int .i64 0, .string s, .slice none 0 0] 26))
            go_upto_region 12 with (fail)
            generalize w102.alloc (.cells #[.int .i64 5, .int .i64 0, .string s, .slice none 0 0] 26) = w103 at HDa HB103 ⊢
            generalize w102.heap.size = bDa at HDa ⊢
            have a0 : w103.cell? ⟨bDa, 0, none⟩ = some (.int .i64 5) := blk_cell HDa.out 0
            have a1 : w103.cell? ⟨bDa, 1, none⟩ = some (.int .i64 0) := blk_cell HDa.out 1
            have a2 : w103.cell? ⟨bDa, 2, none⟩ = some (.string s) := blk_cell HDa.out 2
            have a3 : w103.cell? ⟨bDa, 3, none⟩ = some (.slice none 0 0) := blk_cell HDa.out 3
            go_wp2_with fail
            have hba : Below w.heap.size w (w103.alloc (.cells #[.int .i64 (⟨5, 0, s, none, 0, 0⟩ : Nd).k, .int .i64 (⟨5, 0, s, none, 0, 0⟩ : Nd).n, .string (⟨5, 0, s, none, 0, 0⟩ : Nd).t, .slice (⟨5, 0, s, none, 0, 0⟩ : Nd).a (⟨5, 0, s, none, 0, 0⟩ : Nd).m (⟨5, 0, s, none, 0, 0⟩ : Nd).c] 26)) := below_alloc HB103.out _
            refine (c36.out _ _ (HL.out.later hba) (args_new1 (⟨5, 0, s, none, 0, 0⟩ : Nd) w103)).mono ?_
            rintro e104 w104 ⟨rfl, hb104⟩
            have HB104 := Lib.hid (below_step hba hb104)
            have HDa := Lib.hid (blk_below (blk_alloc HDa.out (.cells #[.int .i64 (⟨5, 0, s, none, 0, 0⟩ : Nd).k, .int .i64 (⟨5, 0, s, none, 0, 0⟩ : Nd).n, .string (⟨5, 0, s, none, 0, 0⟩ : Nd).t, .slice (⟨5, 0, s, none, 0, 0⟩ : Nd).a (⟨5, 0, s, none, 0, 0⟩ : Nd).m (⟨5, 0, s, none, 0, 0⟩ : Nd).c] 26)) hb104)
            clear hb104 hba
            clear a0 a1 a2 a3
            have HDb := Lib.hid (blk_new w104 (.cells #[.int .i64 4, .int .i64 0, .string s, .slice none 0 0] 26 (0, 0)))
            have HB105 := Lib.hid (below_alloc HB104.out (.cells #[.int .i64 4, .int .i64 0, .string s, .slice none 0 0] 26))
            have HDa := Lib.hid (blk_alloc HDa.out (.cells #[.int .i64 4, .int .i64 0, .string s, .slice none 0 0] 26))
            go_upto_region 14 with (fail)
            generalize w104.alloc (.cells #[.int .i64 4, .int .i64 0, .string s, .slice none 0 0] 26) = w105 at HDa HDb HB105 ⊢
            generalize w104.heap.size = bDb at HDb ⊢
            have y0 : w105.cell? ⟨bDb, 0, none⟩ = some (.int .i64 4) := blk_cell HDb.out 0
            have y1 : w105.cell? ⟨bDb, 1, none⟩ = some (.int .i64 0) := blk_cell HDb.out 1
            have y2 : w105.cell? ⟨bDb, 2, none⟩ = some (.string s) := blk_cell HDb.out 2
            have y3 : w105.cell? ⟨bDb, 3, none⟩ = some (.slice none 0 0) := blk_cell HDb.out 3
            go_wp2_with fail
            go_meet
            exact HB105
          · have c37 := Lib.hid (fun v w hL hA => ev_one 37 (strN s) (errR 9) rfl (show (-9223372036854775808 : Int) ≤ 0 by omega) (show (0 : Int) ≤ 9223372036854775807 by omega) hps rfl (by rw [resL_1 rfl rfl]; show symR s = _; unfold symR; rw [if_neg hy]) v w hL hA)
            rw [outV_err 37 9 (by decide)] at c37
            clear hy hps
            have HB100 := HBm
            go_wp2_with fail
            refine (lawstr_of s _).mono ?_
            rintro e101 w101 ⟨rfl, hb101⟩
            have HB101 := Lib.hid (below_step HB100.out hb101)
            clear hb101
            go_wp2_with fail
            have hba : Below w.heap.size w (w101.alloc (.cells #[.int .i64 (strN s).k, .int .i64 (strN s).n, .string (strN s).t, .slice (strN s).a (strN s).m (strN s).c] 26)) := below_alloc HB101.out _
            refine (c37.out _ _ (HL.out.later hba) (args_new1 (strN s) w101)).mono ?_
            rintro e102 w102 ⟨rfl, hb102⟩
            have HB102 := Lib.hid (below_step hba hb102)
            clear hb102 hba
            go_wp2_with fail
            go_meet
            exact Lib.hid (below_alloc HB102.out _)
        case rest =>
          have HBm2 := hcut
          clear HBm hcut
          have HBm := HBm2
          clear HBm2
          refine hK5 _ _ ?_
          clear hK5 K5
          have hkc := HKC.out
          rcases hkc with hk | ⟨hk, h0, h1⟩ | ⟨hk, h2⟩
          · have c39 := Lib.hid (fun v w hL hA => ev_one_bad 39 (numN k) rfl HK.out.1 HK.out.2 (by rw [plain_num]; exact hk) rfl v w hL hA)
            clear hk
            have HB100 := HBm
            go_wp2_with fail
            refine (num_of k _).mono ?_
            rintro e101 w101 ⟨rfl, hb101⟩
            have HB101 := Lib.hid (below_step HB100.out hb101)
            clear hb101
            go_wp2_with fail
            have hba : Below w.heap.size w (w101.alloc (.cells #[.int .i64 (numN k).k, .int .i64 (numN k).n, .string (numN k).t, .slice (numN k).a (numN k).m (numN k).c] 26)) := below_alloc HB101.out _
            refine (c39.out _ _ (HL.out.later hba) (args_new1 (numN k) w101)).mono ?_
            rintro e102 w102 ⟨rfl, hb102⟩
            have HB102 := Lib.hid (below_step hba hb102)
            clear hb102 hba
            go_wp2_with fail
            refine (is_kind 2 13 _).mono ?_
            rintro e97 w97 ⟨rfl, rfl⟩
            go_wp2_with fail
            refine (is_kind 2 2 _).mono ?_
            rintro e98 w98 ⟨rfl, rfl⟩
            go_wp2_with fail
            go_ret
            exact ⟨rfl, below_alloc HB102.out _⟩
          · have c39 := Lib.hid (fun v w hL hA => ev_one 39 (numN k) ⟨3, k, ⟨#[]⟩, 0⟩ rfl HK.out.1 HK.out.2 (by rw [plain_num]; exact hk) rfl (by rw [resL_1 rfl rfl]; show byteR k = _; unfold byteR; rw [if_pos ⟨h0, h1⟩]) v w hL hA)
            have c38 := Lib.hid (fun v w hL hA => ev_one 38 ⟨3, k, ⟨#[]⟩, none, 0, 0⟩ ⟨1, k, ⟨#[]⟩, 0⟩ rfl HK.out.1 HK.out.2 (by simp [plainN, h0, h1]) rfl (by rw [resL_1 rfl rfl]; rfl) v w hL hA)
            simp only [outV_ok] at c39 c38
            clear hk h0 h1
            have HB100 := HBm
            go_wp2_with fail
            refine (num_of k _).mono ?_
            rintro e101 w101 ⟨rfl, hb101⟩
            have HB101 := Lib.hid (below_step HB100.out hb101)
            clear hb101
            go_wp2_with fail
            have hba : Below w.heap.size w (w101.alloc (.cells #[.int .i64 (numN k).k, .int .i64 (numN k).n, .string (numN k).t, .slice (numN k).a (numN k).m (numN k).c] 26)) := below_alloc HB101.out _
            refine (c39.out _ _ (HL.out.later hba) (args_new1 (numN k) w101)).mono ?_
            rintro e102 w102 ⟨rfl, hb102⟩
            have HB102 := Lib.hid (below_step hba hb102)
            clear hb102 hba
            have HDa := Lib.hid (blk_new w102 (.cells #[.int .i64 3, .int .i64 k, .string ⟨#[]⟩, .slice none 0 0] 26 (0, 0)))
            have HB103 := Lib.hid (below_alloc HB102.out (.cells #[.int .i64 3, .int .i64 k, .string ⟨#[]⟩, .slice none 0 0] 26))
            go_upto_region 17 with (fail)
            generalize w102.alloc (.cells #[.int .i64 3, .int .i64 k, .string ⟨#[]⟩, .slice none 0 0] 26) = w103 at HDa HB103 ⊢
            generalize w102.heap.size = bDa at HDa ⊢
            have a0 : w103.cell? ⟨bDa, 0, none⟩ = some (.int .i64 3) := blk_cell HDa.out 0
            have a1 : w103.cell? ⟨bDa, 1, none⟩ = some (.int .i64 k) := blk_cell HDa.out 1
            have a2 : w103.cell? ⟨bDa, 2, none⟩ = some (.string ⟨#[]⟩) := blk_cell HDa.out 2
            have a3 : w103.cell? ⟨bDa, 3, none⟩ = some (.slice none 0 0) := blk_cell HDa.out 3
            go_wp2_with fail
            have hba : Below w.heap.size w (w103.alloc (.cells #[.int .i64 (⟨3, k, ⟨#[]⟩, none, 0, 0⟩ : Nd).k, .int .i64 (⟨3, k, ⟨#[]⟩, none, 0, 0⟩ : Nd).n, .string (⟨3, k, ⟨#[]⟩, none, 0, 0⟩ : Nd).t, .slice (⟨3, k, ⟨#[]⟩, none, 0, 0⟩ : Nd).a (⟨3, k, ⟨#[]⟩, none, 0, 0⟩ : Nd).m (⟨3, k, ⟨#[]⟩, none, 0, 0⟩ : Nd).c] 26)) := below_alloc HB103.out _
            refine (c38.out _ _ (HL.out.later hba) (args_new1 (⟨3, k, ⟨#[]⟩, none, 0, 0⟩ : Nd) w103)).mono ?_
            rintro e104 w104 ⟨rfl, hb104⟩
            have HB104 := Lib.hid (below_step hba hb104)
            have HDa := Lib.hid (blk_below (blk_alloc HDa.out (.cells #[.int .i64 (⟨3, k, ⟨#[]⟩, none, 0, 0⟩ : Nd).k, .int .i64 (⟨3, k, ⟨#[]⟩, none, 0, 0⟩ : Nd).n, .string (⟨3, k, ⟨#[]⟩, none, 0, 0⟩ : Nd).t, .slice (⟨3, k, ⟨#[]⟩, none, 0, 0⟩ : Nd).a (⟨3, k, ⟨#[]⟩, none, 0, 0⟩ : Nd).m (⟨3, k, ⟨#[]⟩, none, 0, 0⟩ : Nd).c] 26)) hb104)
            clear hb104 hba
            clear a0 a1 a2 a3
            have HDb := Lib.hid (blk_new w104 (.cells #[.int .i64 1, .int .i64 k, .string ⟨#[]⟩, .slice none 0 0] 26 (0, 0)))
            have HB105 := Lib.hid (below_alloc HB104.out (.cells #[.int .i64 1, .int .i64 k, .string ⟨#[]⟩, .slice none 0 0] 26))
            have HDa := Lib.hid (blk_alloc HDa.out (.cells #[.int .i64 1, .int .i64 k, .string ⟨#[]⟩, .slice none 0 0] 26))
            go_upto_region 20 with (fail)
            generalize w104.alloc (.cells #[.int .i64 1, .int .i64 k, .string ⟨#[]⟩, .slice none 0 0] 26) = w105 at HDa HDb HB105 ⊢
            generalize w104.heap.size = bDb at HDb ⊢
            have y0 : w105.cell? ⟨bDb, 0, none⟩ = some (.int .i64 1) := blk_cell HDb.out 0
            have y1 : w105.cell? ⟨bDb, 1, none⟩ = some (.int .i64 k) := blk_cell HDb.out 1
            have y2 : w105.cell? ⟨bDb, 2, none⟩ = some (.string ⟨#[]⟩) := blk_cell HDb.out 2
            have y3 : w105.cell? ⟨bDb, 3, none⟩ = some (.slice none 0 0) := blk_cell HDb.out 3
            go_wp2_with fail
            go_ret
            exact ⟨rfl, HB105.out⟩
          · have c39 := Lib.hid (fun v w hL hA => ev_one 39 (numN k) (errR 13) rfl HK.out.1 HK.out.2 (by rw [plain_num]; exact hk) rfl (by rw [resL_1 rfl rfl]; show byteR k = _; unfold byteR; rw [if_neg h2]) v w hL hA)
            rw [outV_err 39 13 (by decide)] at c39
            generalize nameS (nameN 39) = nm at c39
            clear hk h2
            have HB100 := HBm
            go_wp2_with fail
            refine (num_of k _).mono ?_
            rintro e101 w101 ⟨rfl, hb101⟩
            have HB101 := Lib.hid (below_step HB100.out hb101)
            clear hb101
            go_wp2_with fail
            have hba : Below w.heap.size w (w101.alloc (.cells #[.int .i64 (numN k).k, .int .i64 (numN k).n, .string (numN k).t, .slice (numN k).a (numN k).m (numN k).c] 26)) := below_alloc HB101.out _
            refine (c39.out _ _ (HL.out.later hba) (args_new1 (numN k) w101)).mono ?_
            rintro e102 w102 ⟨rfl, hb102⟩
            have HB102 := Lib.hid (below_step hba hb102)
            clear hb102 hba
            go_wp2_with fail
            refine (is_ab nm 13 13 _).mono ?_
            rintro e97 w97 ⟨rfl, hb97⟩
            have HB97 := Lib.hid (below_step (below_alloc HB102.out _) hb97)
            clear hb97
            go_wp2_with fail
            go_ret
            exact ⟨rfl, HB97.out⟩

theorem plain_all (n : Int) (l : List Dat) (A : Option Addr) (c : Nat) (k : Int) (s : ByteArray) (w : World) (h : Laid18 w) (hC : Kd.C kD w A l.length l) (hb : ∀ x ∈ l, bndX x) (hk : -9223372036854775808 ≤ k ∧ k ≤ 9223372036854775807) : Calls Tryz.prog 4 #[.int .i64 n, .slice A l.length c, .int .i64 k, .string s] w (Giv (.bool true) w) := by
  by_cases hf : fewL l = true
  · by_cases hs : s.size ≤ 500
    · exact plain_few n l A c k s w h hC hb hk hf hs
    · exact plain_long n l A c k s w h hC hf (by omega)
  · exact plain_not n l A c k s w h hC (by simpa using hf)

set_option maxRecDepth 16000 in
theorem PrimPlain_top {H : Type} {enc : TypeId × Value → H} (W : World) (base : Nat) (v0 v1 v2 v3 : Value) (d0 d1 d2 d3 : DataW H) (p0 p1 p2 p3 : List MemPlace) (hv0 : Value.okWide Tryz.prog W .any base 3 v0) (hv1 : Value.okWide Tryz.prog W .any base 22 v1) (hv2 : Value.okWide Tryz.prog W .any base 3 v2) (hv3 : Value.okWide Tryz.prog W .any base 9 v3)
    (h0 : DataW.Trod enc Tryz.prog W 0 (fun _ => true) true 3 v0 d0 p0) (h1 : DataW.Trod enc Tryz.prog W 0 (fun _ => true) true 22 v1 d1 p1) (h2 : DataW.Trod enc Tryz.prog W 0 (fun _ => true) true 3 v2 d2 p2) (h3 : DataW.Trod enc Tryz.prog W 0 (fun _ => true) true 9 v3 d3 p3)
    {ts : List TypeId} {ds : List (DataW H)} (_ : (DataW.weightsEach Tryz.prog ts ds).all (· ≤ reachBytes) = true) (hT : Laid18 W) :
    Calls Tryz.prog 4 #[v0, v1, v2, v3] W fun e w' => e = .returned (.bool true) ∧ Below W.heap.size W w' := by
  obtain ⟨n, rfl, rfl, rfl, _⟩ := open_int Tryz.underlying3 hv0 h0
  obtain ⟨k, rfl, rfl, rfl, hk⟩ := open_int Tryz.underlying3 hv2 h2
  obtain ⟨s, rfl, rfl, rfl, _⟩ := Go.ChangeMaps.open_string Tryz.underlying9 hv3 h3
  obtain ⟨a, len, cap, rfl⟩ := okWide_slice Tryz.underlying22 hv1
  obtain ⟨m, hm⟩ := h1
  obtain ⟨A, c, l, he, _, hC, hb⟩ := (dat_readB m).2 _ _ hm
  rw [he]
  exact (plain_all n l A c k s W hT hC hb (wf_bnd (k := 0) (t := ⟨#[]⟩) (l := []) hk)).mono fun e w' h => ⟨h.ret, h.below⟩
end Go.Proofs.YtneokkhnjnomdaaGreatDoor
