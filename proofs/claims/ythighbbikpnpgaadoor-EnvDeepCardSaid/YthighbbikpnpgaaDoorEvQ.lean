/-
  Layer 11: the law EnvDeep, the walk.
-/
import Derived.Test.YthighbbikpnpgaaDoorEvO
namespace Go.Proofs.YthighbbikpnpgaaDoor
open Go.RowKit Go.Maps Go.ChangeShapes Go.WideShapes

theorem thereK_len (n : Nat) (y : Bool) : thereK (n : Int) n y = if y = true then 0 else 2 := by
  rw [thereK, if_neg (by omega)]
theorem extK_yes (n : Nat) (h : n < 65536) : extK (n : Int) n true 1 = 0 := by
  rw [extK, thereK_len]
  simp
  omega
theorem extK_no (n : Nat) : extK (n : Int) n false 1 = 2 := by
  rw [extK, thereK_len]
  simp

set_option maxRecDepth 100000 in
set_option maxHeartbeats 4000000 in
theorem deep_some (A : Option Addr) (len cap : Nat) (ss : List ByteArray) (ask : ByteArray) (W : World) (htab : Tab W) (hl60 : len ≤ 60) (hask : ask.size ≤ 100) (hlen : len ≤ ss.length)
    (hcell : ∀ i, i < ss.length → ∃ a, A = some a ∧ W.cell? (a.add i) = some (.string (ss.getD i ByteArray.empty))) (hsz : ∀ s ∈ ss, s.size ≤ maxLen) :
    Calls Tryd.prog 3 #[.slice A len cap, .string ask] W fun e w' => e = .returned (.bool true) ∧ Below W.heap.size W w' := by
  have HTab := Lib.hid htab
  have HC := Lib.hid hcell
  have HS := Lib.hid hsz
  have t1 : decide ((60 : Int) < len) = false := by simp; omega
  have t2 : decide ((100 : Int) < ask.size) = false := by simp; omega
  clear htab hcell hsz
  go_enter Tryd.func3, Tryd.ntmps3
  go_wp2_with fail
  refine (new_any _).mono ?_
  rintro e w0 ⟨b, ba, bt, rfl, hT0, hb0, hB1, hB2, hB3⟩
  have HT0 := Lib.hid hT0
  clear hT0
  go_wp2_with fail
  refine (awake_env _ (tab_below HTab.out hb0)).mono ?_
  rintro e w1 ⟨rfl, hb1⟩
  have hb01 := below_trans hb0 hb1
  have HT1 := Lib.hid (HT0.out.below hb1)
  have hs0 := hb0.size
  have hs1 := hb1.size
  clear hb1
  go_wp2_with fail
  have HW0 := Lib.hid (show DeepR W w1.heap.size b ba bt ask 0 [] (.slice none 0 0) 0 0 (w1.alloc (.cells #[.int .i64 0, .int .i64 0] 27)) by
    obtain ⟨c0, c1, f0, f1, hl⟩ := new_cells2 w1 _ (.int .i64 0) (.int .i64 0) 27 (Below.refl _ _)
    exact ⟨(HT1.out.below ((Below.refl _ _).alloc (Nat.le_refl _) _)).rebase (by omega), words_nil, Nat.zero_le _, c0, c1, f0, f1, hl, want_nil ask, below_trans hb01 ((Below.refl _ _).alloc (Nat.le_refl _) _), by have := hb01.size; omega, hB1, hB2, hB3⟩)
  have hbX := Lib.hid (show w1.heap.size ≠ b ∧ w1.heap.size ≠ ba ∧ w1.heap.size ≠ bt by have := HT1.out.mem.low; omega)
  obtain ⟨X, hX⟩ : ∃ X, X = w1.heap.size := ⟨_, rfl⟩
  rw [← hX] at HW0 hbX ⊢
  clear hX HT1 HT0 hs0 hs1
  go_loopw [40, 6] (fun i at_ wr => ∃ (k : Nat) (PL : List Pl) (v : Value) (wk wn : Int), k ≤ len ∧ i = .int .i64 (k : Nat) ∧ at_ = .int .i64 (PL.length : Nat) ∧ Hid (DeepR W X b ba bt ask k PL v wk wn wr)) (fun i _ _ => len - (intOf i).toNat)
  case atStart => exact ⟨0, [], _, 0, 0, Nat.zero_le _, rfl, rfl, HW0⟩
  case round =>
    obtain ⟨k, PL, v, wk, wn, hk, rfl, rfl, HD⟩ := hrel
    clear HW0
    by_cases hlt : k < len
    · obtain ⟨a, rfl, hcW⟩ := HC.out k (by omega)
      have hca : wr.cell? (a.add k) = some (.string (ss.getD k ByteArray.empty)) := (HD.out.below.cell (World.block_lt_of_cell? W _ hcW)).trans hcW
      have hsm := HS.out (ss.getD k ByteArray.empty) (by rw [List.getD_eq_getElem?_getD, List.getElem?_eq_getElem (by omega)]; exact List.getElem_mem _)
      generalize ss.getD k ByteArray.empty = s at hcW hca hsm
      clear hcW
      by_cases h100 : (100 : Int) < s.size
      · go_wp2_with fail
        go_ret
        exact ⟨rfl, HD.out.below⟩
      · have t3 : decide ((100 : Int) < s.size) = false := decide_eq_false h100
        have hB : X + 1 ≤ (wr.alloc (.cells #[.int .i64 1, .int .i64 (k : Nat)] 27)).heap.size := by have := HD.out.lt; simp; omega
        have hbm : Below wr.heap.size wr (wr.alloc (.cells #[.int .i64 1, .int .i64 (k : Nat)] 27)) := (Below.refl _ _).alloc (Nat.le_refl _) _
        have hbm' := hbm
        have hnew := heap_alloc_new wr (.cells #[.int .i64 1, .int .i64 (k : Nat)] 27)
        have HNEW := Lib.hid hnew
        have hfew := HD.out.few
        have hnm : nameB [] s = true ∨ nameB [] s = false := by cases nameB [] s <;> simp
        clear hnew h100
        rcases hnm with hn | hn
        · have hE : extK (PL.length : Int) PL.length (nameB [] s) 1 = 0 := by
            rw [hn]
            exact extK_yes _ (by omega)
          have cE := Lib.hid (extend_ok (PL.length : Int) s 1 (k : Nat) hsm _ (HD.out.tab.below hbm) hB hE)
          have HN := Lib.hid hn
          clear hE hn
          go_wp2_with fail
          refine cE.out.mono ?_
          rintro e w2 ⟨rfl, v', hT, ht⟩
          obtain ⟨c0, c1, f0, f1, hl2, hb2⟩ := HD.out.more hbm hT ht
          have hwords : Words (PL ++ [⟨(PL.length : Int), s, 1, (k : Nat)⟩]) [] := HD.out.words.place _ (by simp) (by simp) HN.out
          have hm : w2.heap[wr.heap.size]? = some (.cells #[.int .i64 1, .int .i64 (k : Nat)] 27 (0, 0)) := by
            refine (ht.block wr.heap.size (by simp) ?_).trans HNEW.out
            rintro (e | e)
            · have := heap_lt HD.out.tab.mem.own; omega
            · have := (HD.out.tab.mem.row.lt _ e.symm).2; omega
          have d0 : w2.cell? ⟨wr.heap.size, 0, none⟩ = some (.int .i64 1) := by rw [cell_of_row w2 _ _ _ _ (0, 0) hm]; rfl
          have d1 : w2.cell? ⟨wr.heap.size, 1, none⟩ = some (.int .i64 (k : Nat)) := by rw [cell_of_row w2 _ _ _ _ (0, 0) hm]; rfl
          have hll : (((PL ++ [(⟨(PL.length : Int), s, 1, (k : Nat)⟩ : Pl)]).length : Nat) : Int) = PL.length + 1 := by simp
          have HT := Lib.hid hT
          have HWd := Lib.hid hwords
          have HLL := Lib.hid hll
          clear hm hT ht hwords hll cE
          by_cases he : s = ask
          · have e1 : (s.toList == ask.toList) = true := ba_eq.2 he
            have HE := Lib.hid (DeepR.store (x := ⟨(PL.length : Int), s, 1, (k : Nat)⟩) HWd.out hfew he HT.out c0 c1 f0 f1 hl2 hb2 HD.out.high hbX.out.1 hbX.out.2.1 hbX.out.2.2)
            clear he
            go_wp2_with fail
            go_roundw
            case rel => exact ⟨k + 1, _, _, _, _, by omega, by go_num, by rw [HLL.out], HE⟩
            case measure => simp [intOf]; omega
          · have e1 : (s.toList == ask.toList) = false := by rw [← Bool.not_eq_true]; exact fun e => he (ba_eq.1 e)
            have HE : Hid (DeepR W X b ba bt ask (k + 1) (PL ++ [⟨(PL.length : Int), s, 1, (k : Nat)⟩]) v' wk wn w2) :=
              ⟨HT.out, HWd.out, by simp; omega, c0, c1, f0, f1, hl2, want_miss HD.out.words.nest _ rfl he HD.out.want, hb2, HD.out.high⟩
            clear he
            go_wp2_with fail
            go_roundw
            case rel => exact ⟨k + 1, _, _, _, _, by omega, by go_num, by rw [HLL.out], HE⟩
            case measure => simp [intOf]; omega
        · have hE : extK (PL.length : Int) PL.length (nameB [] s) 1 = 2 := by
            rw [hn]
            exact extK_no _
          have cE := Lib.hid (extend_bad (PL.length : Int) s 1 (k : Nat) hsm _ (HD.out.tab.below hbm) (by rw [hE]; decide))
          rw [hE, show errV 2 = kindV 2 from rfl] at cE
          clear hE hn
          go_wp2_with fail
          refine cE.out.mono ?_
          rintro e w2 ⟨rfl, hb2⟩
          have HE := Lib.hid (HD.out.below' (below_trans hbm hb2))
          clear cE
          go_wp2_with fail
          go_roundw
          case rel => exact ⟨k + 1, PL, v, wk, wn, by omega, by go_num, rfl, HE⟩
          case measure => simp [intOf]; omega
    · have hfew := HD.out.few
      have hnm : nameB [] ask = true ∨ nameB [] ask = false := by cases nameB [] ask <;> simp
      have hask' : ask.size ≤ maxLen := by unfold maxLen; omega
      rcases hnm with hn | hn
      · have cF := Lib.hid (find_ok HD.out.words (by omega) PL.length ask hask' (Nat.le_refl _) hn _ HD.out.tab)
        have hwant := Lib.hid (want_finds HD.out.want)
        clear hn
        go_wp2_with fail
        refine cF.out.mono ?_
        rintro e w2 ⟨k', n', hf, rfl, hb2⟩
        obtain ⟨rfl, rfl⟩ := hf.one hwant.out
        have HE := Lib.hid (HD.out.below' hb2)
        have c0 := cell_alloc w2 (.cells #[.int .i64 k', .int .i64 n'] 27) _ _ HE.out.c0
        have c1 := cell_alloc w2 (.cells #[.int .i64 k', .int .i64 n'] 27) _ _ HE.out.c1
        clear hf cF
        go_wp2_with fail
        go_ret
        exact ⟨by simp, below_trans HE.out.below ((Below.refl _ _).alloc (Nat.le_refl _) _)⟩
      · have hE : thereK (PL.length : Int) PL.length (nameB [] ask) = 2 := by
          rw [hn, thereK_len]; rfl
        have cF := Lib.hid (find_bad (PL.length : Int) ask hask' _ HD.out.tab (by rw [hE]; decide))
        rw [hE] at cF
        obtain ⟨rfl, rfl⟩ := want_none HD.out.words hn HD.out.want
        clear hE hn
        go_wp2_with fail
        refine cF.out.mono ?_
        rintro e w2 ⟨rfl, hb2⟩
        have HE := Lib.hid (HD.out.below' hb2)
        have c0 := cell_alloc w2 (.cells #[.int .i64 0, .int .i64 0] 27) _ _ HE.out.c0
        have c1 := cell_alloc w2 (.cells #[.int .i64 0, .int .i64 0] 27) _ _ HE.out.c1
        clear cF
        go_wp2_with fail
        refine (is_kind _ _ _).mono ?_
        rintro e w3 ⟨rfl, rfl⟩
        go_wp2_with fail
        go_ret
        exact ⟨by simp, below_trans HE.out.below ((Below.refl _ _).alloc (Nat.le_refl _) _)⟩

set_option maxRecDepth 100000 in
theorem deep_long (A : Option Addr) (len cap : Nat) (ask : ByteArray) (W : World) (htab : Tab W) (h : 60 < len ∨ 100 < ask.size) :
    Calls Tryd.prog 3 #[.slice A len cap, .string ask] W fun e w' => e = .returned (.bool true) ∧ Below W.heap.size W w' := by
  have HTab := Lib.hid htab
  have hc : (60 : Int) < len ∨ (¬ (60 : Int) < len ∧ (100 : Int) < ask.size) := by omega
  clear htab h
  rcases hc with h1 | ⟨h1, h2⟩
  · have t1 : decide ((60 : Int) < len) = true := decide_eq_true h1
    clear h1
    go_enter Tryd.func3, Tryd.ntmps3
    go_wp2_with fail
    refine (new_any _).mono ?_
    rintro e w0 ⟨b, ba, bt, rfl, _, hb0, _, _, _⟩
    go_wp2_with fail
    refine (awake_env _ (tab_below HTab.out hb0)).mono ?_
    rintro e w1 ⟨rfl, hb1⟩
    have hb01 := below_trans hb0 hb1
    go_wp2_with fail
    refine (awake_env _ (tab_below HTab.out hb01)).mono ?_
    rintro e w2 ⟨rfl, hb2⟩
    go_wp2_with fail
    go_ret
    exact ⟨rfl, below_trans hb01 hb2⟩
  · have t1 : decide ((60 : Int) < len) = false := decide_eq_false h1
    have t2 : decide ((100 : Int) < ask.size) = true := decide_eq_true h2
    clear h1 h2
    go_enter Tryd.func3, Tryd.ntmps3
    go_wp2_with fail
    refine (new_any _).mono ?_
    rintro e w0 ⟨b, ba, bt, rfl, _, hb0, _, _, _⟩
    go_wp2_with fail
    refine (awake_env _ (tab_below HTab.out hb0)).mono ?_
    rintro e w1 ⟨rfl, hb1⟩
    have hb01 := below_trans hb0 hb1
    go_wp2_with fail
    refine (awake_env _ (tab_below HTab.out hb01)).mono ?_
    rintro e w2 ⟨rfl, hb2⟩
    go_wp2_with fail
    go_ret
    exact ⟨rfl, below_trans hb01 hb2⟩

set_option maxRecDepth 16000 in
theorem EnvDeep_top {H : Type} {enc : TypeId × Value → H} (W : World) (base : Nat) (v0 v1 : Value) (d0 d1 : DataW H) (p0 p1 : List MemPlace) (hv0 : Value.okWide Tryd.prog W .any base 22 v0) (hv1 : Value.okWide Tryd.prog W .any base 9 v1)
    (h0 : DataW.Trod enc Tryd.prog W 0 (fun _ => true) true 22 v0 d0 p0) (h1 : DataW.Trod enc Tryd.prog W 0 (fun _ => true) true 9 v1 d1 p1)
    {ts : List TypeId} {ds : List (DataW H)} (_ : (DataW.weightsEach Tryd.prog ts ds).all (· ≤ reachBytes) = true) (hT : Tab W) :
    Calls Tryd.prog 3 #[v0, v1] W fun e w' => e = .returned (.bool true) ∧ Below W.heap.size W w' := by
  obtain ⟨A, len, cap, rfl⟩ := okWide_slice Tryd.underlying22 hv0
  obtain ⟨ask, rfl, rfl, rfl, _⟩ := Go.ChangeMaps.open_string Tryd.underlying9 hv1 h1
  by_cases hl : 60 < len ∨ 100 < ask.size
  · exact deep_long A len cap ask W hT hl
  · obtain ⟨fuel, hf⟩ := h0
    rcases open_strings Tryd.underlying22 Tryd.underlying9 (by kernel_rfl) hf with ⟨hcs, _⟩ | ⟨a, l, c, ss, hcs, _, hlc, _, hss, _, hcell, hsz⟩
    · simp [Value.cells] at hcs
      obtain ⟨rfl, rfl, rfl⟩ := hcs
      exact deep_some none 0 0 [] ask W hT (by omega) (by omega) (by simp) (by simp) (by simp)
    · simp [Value.cells] at hcs
      obtain ⟨rfl, rfl, rfl⟩ := hcs
      exact deep_some _ _ _ ss ask W hT (by omega) (by omega) (by simp at hss; omega) (fun i hi => ⟨a, rfl, hcell i hi⟩) hsz
end Go.Proofs.YthighbbikpnpgaaDoor
