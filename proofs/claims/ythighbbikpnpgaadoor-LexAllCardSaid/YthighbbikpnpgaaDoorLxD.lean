/-
  The reference's Symbol.
-/
import Derived.Test.YthighbbikpnpgaaDoorLB5
namespace Go.Proofs.YthighbbikpnpgaaDoor
open Go.RowKit

theorem mark_eq (x : UInt8) : markB x = (x == 40 || x == 41 || x == 34 || x == 59 || x == 39 || x == 44 || x == 96 || x == 35) := by
  by_cases h0 : x = 40; · subst h0; rfl
  by_cases h1 : x = 41; · subst h1; rfl
  by_cases h2 : x = 34; · subst h2; rfl
  by_cases h3 : x = 59; · subst h3; rfl
  by_cases h4 : x = 39; · subst h4; rfl
  by_cases h5 : x = 44; · subst h5; rfl
  by_cases h6 : x = 96; · subst h6; rfl
  by_cases h7 : x = 35; · subst h7; rfl
  have e0 : (40 == x) = false := by simpa using Ne.symm h0
  have e1 : (41 == x) = false := by simpa using Ne.symm h1
  have e2 : (34 == x) = false := by simpa using Ne.symm h2
  have e3 : (59 == x) = false := by simpa using Ne.symm h3
  have e4 : (39 == x) = false := by simpa using Ne.symm h4
  have e5 : (44 == x) = false := by simpa using Ne.symm h5
  have e6 : (96 == x) = false := by simpa using Ne.symm h6
  have e7 : (35 == x) = false := by simpa using Ne.symm h7
  simp only [markB, Lib.indexByte, e0, e1, e2, e3, e4, e5, e6, e7]
  simp [h0, h1, h2, h3, h4, h5, h6, h7]

theorem sym_yes {x : UInt8} (h : symCh x = true) : 33 ≤ x.toNat ∧ x.toNat ≤ 126 ∧ ((x.toNat : Int) == 40) = false ∧ ((x.toNat : Int) == 41) = false ∧ ((x.toNat : Int) == 34) = false ∧ ((x.toNat : Int) == 59) = false ∧
    ((x.toNat : Int) == 39) = false ∧ ((x.toNat : Int) == 44) = false ∧ ((x.toNat : Int) == 96) = false ∧ ((x.toNat : Int) == 35) = false := by
  rw [symCh, mark_eq] at h
  simp only [Bool.and_eq_true, decide_eq_true_eq, Bool.not_eq_true', Bool.or_eq_false_iff] at h
  obtain ⟨⟨h1, h2⟩, ⟨⟨⟨⟨⟨⟨⟨n0, n1⟩, n2⟩, n3⟩, n4⟩, n5⟩, n6⟩, n7⟩⟩ := h
  exact ⟨h1, h2, (u8beq x 40).trans n0, (u8beq x 41).trans n1, (u8beq x 34).trans n2, (u8beq x 59).trans n3, (u8beq x 39).trans n4, (u8beq x 44).trans n5, (u8beq x 96).trans n6, (u8beq x 35).trans n7⟩

theorem sym_no {x : UInt8} (h : symCh x = false) : x.toNat < 33 ∨ 126 < x.toNat ∨ x = 40 ∨ x = 41 ∨ x = 34 ∨ x = 59 ∨ x = 39 ∨ x = 44 ∨ x = 96 ∨ x = 35 := by
  by_cases h1 : x.toNat < 33
  · exact .inl h1
  by_cases h2 : 126 < x.toNat
  · exact .inr (.inl h2)
  rw [symCh, mark_eq, decide_eq_true (by omega : 33 ≤ x.toNat), decide_eq_true (by omega : x.toNat ≤ 126)] at h
  simp only [Bool.true_and, Bool.not_eq_false', Bool.or_eq_true, beq_iff_eq] at h
  rcases h with ((((((h | h) | h) | h) | h) | h) | h) | h <;> subst h <;> simp

set_option maxRecDepth 16000 in
theorem refsym_bytes (s : ByteArray) (h0 : s.data.toList ≠ []) (h1 : s.data.toList.length ≤ 60) (h2 : s.data.toList ≠ [46]) (hd : okL (bodyL s.data.toList) = false) (W : World) :
    Calls Tryd.prog 60 #[.string s] W fun e w' => e = .returned (.bool (s.data.toList.all symCh)) ∧ w' = W := by
  obtain ⟨R, hR⟩ : ∃ R, s.data.toList.all symCh = R := ⟨_, rfl⟩
  have HRR := Lib.hid hR
  rw [hR]
  clear hR
  have g0 : ¬ s.toList = [] := by rw [ByteArray.toList_eq]; exact h0
  have g2 : ¬ s.toList = [46] := by rw [ByteArray.toList_eq]; exact h2
  have g22 : (s.toList == [46]) = false := by simpa using g2
  have e2 : s.size = s.data.toList.length := by simp
  have hpos : s.data.toList.length ≠ 0 := fun e => h0 (List.length_eq_zero_iff.1 e)
  have g1 : ¬ (60 : Int) < s.size := by omega
  have g3 : ¬ (s.size : Int) < 1 := by omega
  have g1' : (s.size : Int) ≤ 60 := by omega
  have g11 : decide ((60 : Int) < s.size) = false := decide_eq_false g1
  have g33 : decide ((s.size : Int) < 1) = false := decide_eq_false g3
  have cD := Lib.hid (refdigits_any s (by omega) W)
  rw [hd] at cD
  have HE2 := Lib.hid e2
  clear h0 h1 h2 hd e2 hpos
  go_enter Tryd.func60, Tryd.ntmps60
  go_wp2_with fail
  refine cD.out.mono ?_
  rintro e w' ⟨rfl, rfl⟩
  go_wp2_with fail
  clear g0 g2 g22 cD g1 g3 g11 g33
  have e2 := HE2.out
  have hR := HRR.out
  clear HE2 HRR
  obtain ⟨⟨E⟩⟩ := s
  rw [show (ByteArray.mk ⟨E⟩).data.toList = E from rfl] at e2 hR
  have hEl : E.length ≤ (⟨⟨E⟩⟩ : ByteArray).size ∧ (⟨⟨E⟩⟩ : ByteArray).size ≤ E.length := by omega
  have hE60 : E.length ≤ 60 := by omega
  have HR := Lib.hid hR
  clear hR e2
  go_loop [3] (fun i => ∃ k : Nat, k ≤ E.length ∧ i = .int .i64 k ∧ (E.take k).all symCh = true) (fun i => E.length - (intOf i).toNat)
  case atStart => exact ⟨0, by omega, rfl, rfl⟩
  case round =>
    obtain ⟨k, hk, rfl, hall⟩ := hrel
    obtain ⟨hE1, hE2⟩ := hEl
    by_cases hlt : k < E.length
    · have hks : k < (⟨⟨E⟩⟩ : ByteArray).size := by omega
      have hks' : (k : Int) < ((⟨⟨E⟩⟩ : ByteArray).size : Nat) := by omega
      have htk := Lib.hid (List.take_succ_eq_append_getElem hlt)
      obtain ⟨x, hx0⟩ : ∃ x, E[k] = x := ⟨_, rfl⟩
      have hbx : ∀ h : k < (⟨⟨E⟩⟩ : ByteArray).size, (⟨⟨E⟩⟩ : ByteArray)[k]'h = x := fun _ => hx0
      rw [hx0] at htk
      clear hx0
      have hx256 : x.toNat < 256 := x.toNat_lt
      cases hx : symCh x
      · have hF := Lib.hid (show E.all symCh = false from take_all (k := k) (by rw [htk.out, List.all_append]; simp [hx]))
        have hno := sym_no hx
        clear htk hall hx
        rcases hno with h | h | h | h | h | h | h | h | h | h
        · have b1 : decide ((x.toNat : Int) < 33) = true := by simp; omega
          go_wp2_with fail
          go_ret
          exact ⟨by rw [← HR.out, hF.out]; rfl, rfl⟩
        · have b1 : decide ((x.toNat : Int) < 33) = false := by simp; omega
          have b2 : decide (126 < (x.toNat : Int)) = true := by simp; omega
          go_wp2_with fail
          go_ret
          exact ⟨by rw [← HR.out, hF.out]; rfl, rfl⟩
        all_goals
          subst h
          go_wp2_with fail
          go_ret
          exact ⟨by rw [← HR.out, hF.out]; rfl, rfl⟩
      · have HALL := Lib.hid (show (E.take (k + 1)).all symCh = true by rw [htk.out, List.all_append, hall]; simp [hx])
        obtain ⟨h1, h2, n0, n1, n2, n3, n4, n5, n6, n7⟩ := sym_yes hx
        have b1 : decide ((x.toNat : Int) < 33) = false := by simp; omega
        have b2 : decide (126 < (x.toNat : Int)) = false := by simp; omega
        clear htk hall hx
        go_wp2_with fail
        go_round
        case rel => exact ⟨k + 1, by omega, by go_num, HALL.out⟩
        case measure => simp [intOf]; omega
    · obtain rfl : k = E.length := by omega
      rw [List.take_length] at hall
      have HA := Lib.hid hall
      have hge : ¬ (E.length : Int) < ((⟨⟨E⟩⟩ : ByteArray).size : Nat) := by omega
      clear hall
      go_wp2_with fail
      go_ret
      exact ⟨by rw [← HR.out, HA.out]; rfl, rfl⟩

theorem refsymbol_any (s : ByteArray) (W : World) :
    Calls Tryd.prog 60 #[.string s] W fun e w' => e = .returned (.bool (symL s.data.toList)) ∧ w' = W := by
  have e2 : s.size = s.data.toList.length := by simp
  rcases symL_cases s.data.toList with ⟨h, e⟩ | ⟨h, e⟩ | ⟨h, e⟩ | ⟨h0, h1, h2, h3, e⟩ | ⟨h0, h1, h2, h3, e⟩
  · rw [e]
    obtain rfl : s = ⟨#[]⟩ := by apply ByteArray.ext; simpa using h
    clear e h e2
    go_enter Tryd.func60, Tryd.ntmps60
    go_wp2_with fail
    go_ret
    exact ⟨rfl, rfl⟩
  · rw [e]
    have h1 : (60 : Int) < s.size := by omega
    have h0 : ¬ (s.size : Int) < 1 := by omega
    clear h e e2
    go_enter Tryd.func60, Tryd.ntmps60
    go_wp2_with fail
    go_ret
    exact ⟨rfl, rfl⟩
  · rw [e]
    obtain rfl : s = ⟨#[46]⟩ := by apply ByteArray.ext; rw [← Array.toList_inj, h]
    clear e h e2
    go_enter Tryd.func60, Tryd.ntmps60
    go_wp2_with fail
    go_ret
    exact ⟨rfl, rfl⟩
  · rw [e]
    have g2 : ¬ s.toList = [46] := by rw [ByteArray.toList_eq]; exact h2
    have g22 : (s.toList == [46]) = false := by simpa using g2
    have hpos : s.data.toList.length ≠ 0 := fun e => h0 (List.length_eq_zero_iff.1 e)
    have g11 : decide ((60 : Int) < s.size) = false := decide_eq_false (by omega)
    have g33 : decide ((s.size : Int) < 1) = false := decide_eq_false (by omega)
    have g1 : ¬ (60 : Int) < s.size := by omega
    have g3 : ¬ (s.size : Int) < 1 := by omega
    have cD := Lib.hid (refdigits_any s (by omega) W)
    rw [h3] at cD
    clear h0 h1 h2 h3 e e2 hpos
    go_enter Tryd.func60, Tryd.ntmps60
    go_wp2_with fail
    refine cD.out.mono ?_
    rintro e w' ⟨rfl, rfl⟩
    go_wp2_with fail
    go_ret
    exact ⟨rfl, rfl⟩
  · rw [e]; exact refsym_bytes s h0 h1 h2 h3 W
end Go.Proofs.YthighbbikpnpgaaDoor
