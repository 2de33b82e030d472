/-
  Layer 11: awake.
-/
import Derived.Test.YthighbbikpnpgaaDoorEvJ
namespace Go.Proofs.YthighbbikpnpgaaDoor
open Go.RowKit Go.Maps

def bx : ByteArray := ⟨#[120]⟩
def bx1 : ByteArray := ⟨#[120, 32, 49]⟩
theorem sym_x : symL bx.data.toList = true := by decide
theorem itoa_one : Lib.itoa 1 = [49] := by
  rw [show (1 : Int) = ((1 : Nat) : Int) from rfl, i_itoa_nat, dec_small (by decide)]; rfl
theorem alias_x : aliasB bx 0 = bx1 := by
  unfold aliasB
  rw [show ((0 : Nat) : Int) + 1 = 1 from rfl, itoa_one]
  rfl
def aP1 : Pl := ⟨0, bx, 1, 1⟩
def aP2 : Pl := ⟨0, bx, 1, 2⟩
def aA : Al := ⟨bx1, bx, bx, 1⟩
theorem aw_name0 : nameB [] bx = true := by simp [nameB, aliasOf, sym_x]
theorem aw_words1 : Words [aP1] [] := words_nil.place aP1 (by decide) (by decide) aw_name0
theorem aw_words2 : Words [aP1] [aA] := aw_words1.more aA sym_x alias_x.symm aw_name0 (by decide) (by decide)
theorem aw_name1 : nameB [aA] bx = true := by simp [nameB, sym_x]
theorem aw_name2 : nameB [aA] bx1 = true := by simp [nameB, aliasOf, aA]
theorem aw_words3 : Words [aP1, aP2] [aA] := aw_words2.place aP2 (by decide) (by decide) aw_name1
theorem aw_ne : ¬ bx = bx1 := by decide
theorem aw_al : aliasOf [aA] bx1 = some aA := by simp [aliasOf, aA]
theorem aw_al0 : aliasOf [aA] bx = none := by simp [aliasOf, aA]; decide
theorem aw_strip0 : stripL [] bx = bx := by simp [stripL, aliasOf, sym_x]
theorem aw_strip1 : stripL [aA] bx1 = bx := by rw [stripL, aw_al]; rfl
theorem up_20 : upP [aP1, aP2] bx1 2 = 0 := by
  rw [up_miss aw_words3.nest (by decide) (q := aP2) rfl aw_ne]; rfl
theorem up_21 : upP [aP1, aP2] bx 2 = 2 := up_hit (by decide) (q := aP2) rfl rfl
theorem up_11 : upP [aP1, aP2] bx 1 = 1 := up_hit (by decide) (q := aP1) rfl rfl
theorem aw_f1 (DT : DataW Value) : Finds [aP1, aP2] [aA] DT 2 bx1 1 1 :=
  ⟨upP [aP1, aP2] bx 1, bx, .via up_20 aw_al (.here (by rw [show aA.place.toNat = 1 from rfl]; show upP [aP1, aP2] bx 1 ≠ 0; rw [up_11]; decide)), .inl ⟨by rw [up_11]; decide, aP1, by rw [up_11]; rfl, rfl, rfl⟩⟩
theorem aw_f2 (DT : DataW Value) : Finds [aP1, aP2] [aA] DT 2 bx 1 2 :=
  ⟨upP [aP1, aP2] bx 2, bx, .here (by rw [up_21]; decide), .inl ⟨by rw [up_21]; decide, aP2, by rw [up_21]; rfl, rfl, rfl⟩⟩
theorem aw_f3 : Finds [aP1, aP2] [aA] (.map []) 0 bx 0 0 := ⟨0, bx, .bare rfl aw_al0, .inr ⟨rfl, rfl⟩⟩

theorem cell_alloc (w : World) (o : Obj) (a : Addr) (v : Value) (h : w.cell? a = some v) : (w.alloc o).cell? a = some v := by
  have hl := World.block_lt_of_cell? w a h
  have e : (w.alloc o).heap[a.block]? = w.heap[a.block]? := RowKit.Below.heap_alloc w o _ hl
  unfold World.cell? at h ⊢
  rw [e]
  exact h
theorem tab_belowAt {B : Nat} {w w' : World} (hb : Below B w w') (h : Tab w) (hB : w.heap.size ≤ B) : Tab w' := tab_below h (hb.mono hB)

set_option maxRecDepth 100000 in
set_option maxHeartbeats 2000000 in
theorem awake_env (W : World) (htab : Tab W) :
    Calls Tryd.prog 18 #[] W fun e w' => e = .returned (.bool true) ∧ Below W.heap.size W w' := by
  have HTab := Lib.hid htab
  clear htab
  go_enter Tryd.func18, Tryd.ntmps18
  go_wp2_with fail
  refine (new_any _).mono ?_
  rintro e w0 ⟨b, ba, bt, rfl, hT0, hb0, hB1, hB2, hB3⟩
  have HT0 := Lib.hid hT0
  obtain ⟨B, hB⟩ : ∃ B, B = w0.heap.size := ⟨_, rfl⟩
  rw [← hB] at HT0
  have hBW : W.heap.size ≤ B := by have := hb0.size; omega
  have HBle : B ≤ w0.heap.size := by omega
  clear hT0 hB
  go_wp2_with fail
  refine (extend_ok 0 bx 1 1 (by decide) w0 HT0.out HBle (by rw [aw_name0]; rfl)).mono ?_
  rintro e w1 ⟨rfl, v1, hT1, ht1⟩
  have HT1 := Lib.hid hT1
  have hb1 := ht1.below (B := W.heap.size) (by omega) (by rintro i (rfl | h); exact hB1; simp [Value.ownBlock] at h)
  have hb01 := hb0.trans hb1
  have hs1 := ht1.size
  clear hT1 ht1
  go_wp2_with fail
  refine (alias_ok aw_words1 1 bx (by decide) w1 HT1.out (tab_belowAt hb01 HTab.out (Nat.le_refl _)) (by rw [aw_name0]; rfl)).mono ?_
  rintro e w2 ⟨he, DA, hT2, ht2⟩
  rw [aw_strip0, show ([] : List Al).length = 0 from rfl, alias_x] at he hT2
  subst he
  have HT2 := Lib.hid hT2
  have hb2 := ht2.below (B := W.heap.size) (by omega) (by rintro i rfl; exact hB2)
  have hb02 := hb01.trans hb2
  have hs2 := ht2.size
  clear hT2 ht2
  go_wp2_with fail
  refine (extend_ok 0 bx 1 2 (by decide) w2 HT2.out (by omega) (by rw [show ([] ++ [(⟨bx1, bx, bx, 1⟩ : Al)]) = [aA] from rfl, aw_name1]; rfl)).mono ?_
  rintro e w3 ⟨rfl, v3, hT3, ht3⟩
  have HT3 := Lib.hid hT3
  have hb3 := ht3.below (B := W.heap.size) (by omega) (by
    rintro i (rfl | h)
    · exact hB1
    · have := (HT2.out.mem.row.lt i h.symm).1
      omega)
  have hb03 := hb02.trans hb3
  have hs3 := ht3.size
  clear hT3 ht3
  go_wp2_with fail
  refine (find_ok aw_words3 (by decide) 2 bx1 (by decide) (by decide) aw_name2 w3 HT3.out).mono ?_
  rintro e w4 ⟨k, n, hf, rfl, hb4⟩
  obtain ⟨rfl, rfl⟩ := hf.one (aw_f1 _)
  clear hf
  have HT4 := Lib.hid (HT3.out.below hb4)
  go_wp2_with fail
  refine (find_ok aw_words3 (by decide) 2 bx (by decide) (by decide) aw_name1 _ (HT4.out.below ((Below.refl _ _).alloc (Nat.le_refl _) _))).mono ?_
  rintro e w5 ⟨k, n, hf, rfl, hb5⟩
  obtain ⟨rfl, rfl⟩ := hf.one (aw_f2 _)
  clear hf
  obtain ⟨c40, c41, _, _, l4⟩ := new_cells2 w4 w5 _ _ _ hb5
  have hb45 : Below w4.heap.size w4 w5 := below_trans ((Below.refl _ _).alloc (Nat.le_refl _) _) hb5
  have HT5 := Lib.hid (HT4.out.below hb45)
  clear hb5
  go_wp2_with fail
  refine (find_ok aw_words3 (by decide) 0 bx (by decide) (by decide) aw_name1 _ (HT5.out.below ((Below.refl _ _).alloc (Nat.le_refl _) _))).mono ?_
  rintro e w6 ⟨k, n, hf, rfl, hb6⟩
  obtain ⟨rfl, rfl⟩ := hf.one aw_f3
  clear hf
  obtain ⟨c50, c51, _, _, l5⟩ := new_cells2 w5 w6 _ _ _ hb6
  have hb56 : Below w5.heap.size w5 w6 := below_trans ((Below.refl _ _).alloc (Nat.le_refl _) _) hb6
  have HT6 := Lib.hid (HT5.out.below hb56)
  have c60 := (hb56.cell (p := ⟨w4.heap.size, 0, none⟩) l4).trans c40
  have c61 := (hb56.cell (p := ⟨w4.heap.size, 1, none⟩) l4).trans c41
  clear hb6 c40 c41
  go_wp2_with fail
  have e3 : thereK 3 [aP1, aP2].length (nameB [aA] bx) = 3 := by rw [thereK, if_pos (.inr (by decide))]
  have cF := find_bad 3 bx (by decide) _ (HT6.out.below ((Below.refl _ _).alloc (Nat.le_refl _) (.cells #[.int .i64 0, .int .i64 0] 27))) (by rw [show ([aP1] ++ [(⟨0, bx, 1, 2⟩ : Pl)]).length = [aP1, aP2].length from rfl]; rw [show ([] ++ [(⟨bx1, bx, bx, 1⟩ : Al)]) = [aA] from rfl, e3]; decide)
  rw [show thereK 3 ([aP1] ++ [(⟨0, bx, 1, 2⟩ : Pl)]).length (nameB ([] ++ [(⟨bx1, bx, bx, 1⟩ : Al)]) bx) = 3 from e3] at cF
  refine cF.mono ?_
  clear cF e3
  rintro e w7 ⟨rfl, hb7⟩
  obtain ⟨c70, c71, _, _, l6⟩ := new_cells2 w6 w7 _ _ _ hb7
  have hb67 : Below w6.heap.size w6 w7 := below_trans ((Below.refl _ _).alloc (Nat.le_refl _) _) hb7
  have HT7 := Lib.hid (HT6.out.below hb67)
  have d60 := (hb67.cell (p := ⟨w4.heap.size, 0, none⟩) (by show w4.heap.size < _; have := hb56.size; omega)).trans c60
  have d61 := (hb67.cell (p := ⟨w4.heap.size, 1, none⟩) (by show w4.heap.size < _; have := hb56.size; omega)).trans c61
  have d50 := (hb67.cell (p := ⟨w5.heap.size, 0, none⟩) l5).trans c50
  have d51 := (hb67.cell (p := ⟨w5.heap.size, 1, none⟩) l5).trans c51
  have hb47 := below_trans hb45 (below_trans hb56 hb67)
  have m45 := hb45.size
  have m56 := hb56.size
  have m67 := hb67.size
  clear hb7 c50 c51 c60 c61 hb45 hb56 hb67
  have g61 := cell_alloc w7 (.cells #[.int .i64 0, .int .i64 0] 27) _ _ d61
  have g51 := cell_alloc w7 (.cells #[.int .i64 0, .int .i64 0] 27) _ _ d51
  have g70 := cell_alloc w7 (.cells #[.int .i64 0, .int .i64 0] 27) _ _ c70
  have s1 : (bx1.toList == [120, 32, 49]) = true := by rw [ByteArray.toList_eq]; rfl
  have s2 : (bx.toList == [120]) = true := by rw [ByteArray.toList_eq]; rfl
  clear c70 c71 d60 d61 d50 d51
  go_wp2_with fail
  refine (is_kind _ _ _).mono ?_
  rintro e w8 ⟨rfl, rfl⟩
  go_wp2_with fail
  refine (strip_any bx1 (by decide) _ (HT7.out.below ((Below.refl _ _).alloc (Nat.le_refl _) _))).mono ?_
  rintro e w9 ⟨rfl, hb9⟩
  rw [show stripL ([] ++ [(⟨bx1, bx, bx, 1⟩ : Al)]) bx1 = bx from aw_strip1]
  go_wp2_with fail
  go_ret
  exact ⟨rfl, hb03.trans ((below_trans hb4 (below_trans hb47 (below_trans ((Below.refl _ _).alloc (Nat.le_refl _) _) hb9))).mono hb03.size)⟩
end Go.Proofs.YthighbbikpnpgaaDoor
