/-
  lex.Symbol whole; the reference's digits and Symbol.
-/
import Derived.Test.YthighbbikpnpgaaDoorLxB
namespace Go.Proofs.YthighbbikpnpgaaDoor
open Go.RowKit

theorem symL_cases (l : List UInt8) : (l = [] ∧ symL l = false) ∨ (60 < l.length ∧ symL l = false) ∨ (l = [46] ∧ symL l = false) ∨
    (l ≠ [] ∧ l.length ≤ 60 ∧ l ≠ [46] ∧ okL (bodyL l) = true ∧ symL l = false) ∨ (l ≠ [] ∧ l.length ≤ 60 ∧ l ≠ [46] ∧ okL (bodyL l) = false ∧ symL l = l.all symCh) := by
  by_cases h0 : l = []
  · subst h0; exact .inl ⟨rfl, rfl⟩
  · by_cases h1 : 60 < l.length
    · refine .inr (.inl ⟨h1, ?_⟩)
      have : decide (l.length ≤ 60) = false := by simp; omega
      simp [symL, this]
    · by_cases h2 : l = [46]
      · subst h2; exact .inr (.inr (.inl ⟨rfl, rfl⟩))
      · have e1 : decide (1 ≤ l.length) = true := by cases l with | nil => exact absurd rfl h0 | cons _ _ => simp
        have e2 : decide (l.length ≤ 60) = true := by simp; omega
        have e3 : (l == [46]) = false := by simpa using h2
        cases hk : okL (bodyL l)
        · exact .inr (.inr (.inr (.inr ⟨h0, by omega, h2, rfl, by simp only [symL, e1, e2, e3, hk]; rfl⟩)))
        · exact .inr (.inr (.inr (.inl ⟨h0, by omega, h2, rfl, by simp only [symL, e1, e2, e3, hk]; rfl⟩)))

theorem symbol_any (s : ByteArray) (W : World) :
    Calls Tryd.prog 59 #[.string s] W fun e w' => e = .returned (.bool (symL s.data.toList)) ∧ Below W.heap.size W w' := by
  rcases symL_cases s.data.toList with ⟨h, e⟩ | ⟨h, e⟩ | ⟨h, e⟩ | ⟨h0, h1, h2, h3, e⟩ | ⟨h0, h1, h2, h3, e⟩
  · rw [e]; exact sym_short s h W
  · rw [e]; exact sym_long s h W
  · rw [e]
    obtain rfl : s = ⟨#[46]⟩ := by apply ByteArray.ext; rw [← Array.toList_inj, h]
    exact sym_dot W
  · rw [e]; exact sym_digits s h0 h1 h2 h3 W
  · rw [e]; exact sym_bytes s h0 h1 h2 h3 W

theorem refdig_minus (D : List UInt8) (hs : D.length ≤ 4611686018427387904) (W : World) :
    Calls Tryd.prog 81 #[.string ⟨⟨45 :: D⟩⟩] W fun e w' => e = .returned (.bool (okL D)) ∧ w' = W := by
  have eb := ba_zero 45 D
  have hext : (⟨⟨45 :: D⟩⟩ : ByteArray).extract 1 (D.length + 1) = ⟨⟨D⟩⟩ := by
    rw [Lib.extract_eq]; simp
  go_enter Tryd.func81, Tryd.ntmps81
  go_wp2_with fail
  clear eb hext
  go_loop [3] (fun i => ∃ k : Nat, k ≤ D.length ∧ i = .int .i64 k ∧ (D.take k).all digB = true) (fun i => D.length - (intOf i).toNat)
  case atStart => exact ⟨0, by omega, rfl, rfl⟩
  case round =>
    obtain ⟨k, hk, rfl, hall⟩ := hrel
    by_cases hlt : k < D.length
    · have htk := Lib.hid (List.take_succ_eq_append_getElem hlt)
      obtain ⟨x, hx0⟩ : ∃ x, D[k] = x := ⟨_, rfl⟩
      have hbx : ∀ h : k < (⟨⟨D⟩⟩ : ByteArray).size, (⟨⟨D⟩⟩ : ByteArray)[k]'h = x := fun _ => hx0
      rw [hx0] at htk
      clear hx0
      have hx256 : x.toNat < 256 := x.toNat_lt
      by_cases hd : digB x = true
      · obtain ⟨d1, d2⟩ := digB_iff.1 hd
        have b1 : decide ((x.toNat : Int) < 48) = false := by simp; omega
        have b2 : decide (57 < (x.toNat : Int)) = false := by simp; omega
        have HALL := Lib.hid (show (D.take (k + 1)).all digB = true by rw [htk.out, List.all_append, hall]; simp [hd])
        clear htk hall hd
        go_wp2_with fail
        go_round
        case rel => exact ⟨k + 1, by omega, by go_num, HALL.out⟩
        case measure => simp [intOf]; omega
      · have hF := Lib.hid (show okL D = false by
          have : D.all digB = false := take_all (k := k) (by rw [htk.out, List.all_append]; simp [hd])
          rw [okL, this]; simp)
        have hx : x.toNat < 48 ∨ 57 < x.toNat := by
          rcases Nat.lt_or_ge x.toNat 48 with h | h
          · exact .inl h
          · rcases Nat.lt_or_ge 57 x.toNat with h' | h'
            · exact .inr h'
            · exact absurd (digB_iff.2 ⟨h, h'⟩) hd
        clear htk hd hall
        rcases hx with h | h
        · have b1 : decide ((x.toNat : Int) < 48) = true := by simp; omega
          go_wp2_with fail
          go_ret
          exact ⟨by rw [hF.out]; rfl, rfl⟩
        · have b1 : decide ((x.toNat : Int) < 48) = false := by simp; omega
          have b2 : decide (57 < (x.toNat : Int)) = true := by simp; omega
          go_wp2_with fail
          go_ret
          exact ⟨by rw [hF.out]; rfl, rfl⟩
    · obtain rfl : k = D.length := by omega
      rw [List.take_length] at hall
      have hF := Lib.hid (show okL D = (decide (1 ≤ D.length) && decide (D.length ≤ 30)) by rw [okL, hall, Bool.and_true])
      clear hall
      by_cases l1 : 1 ≤ D.length
      · by_cases l2 : D.length ≤ 30
        · have m1 : decide (1 ≤ (D.length : Int)) = true := by simp; omega
          have m2 : decide ((D.length : Int) ≤ 30) = true := by simp; omega
          have hG := Lib.hid (show okL D = true by rw [hF.out, decide_eq_true l1, decide_eq_true l2]; rfl)
          clear hF
          go_wp2_with fail
          go_ret
          exact ⟨by rw [hG.out]; first | rfl | simp [m1, m2] | simp; omega, rfl⟩
        · have m1 : decide (1 ≤ (D.length : Int)) = true := by simp; omega
          have m2 : decide ((D.length : Int) ≤ 30) = false := by simp; omega
          have hG := Lib.hid (show okL D = false by rw [hF.out, decide_eq_false l2]; simp)
          clear hF
          go_wp2_with fail
          go_ret
          exact ⟨by rw [hG.out]; first | rfl | simp [m1, m2] | simp; omega, rfl⟩
      · have m1 : decide (1 ≤ (D.length : Int)) = false := by simp; omega
        have hG := Lib.hid (show okL D = false by rw [hF.out, decide_eq_false l1]; rfl)
        clear hF
        go_wp2_with fail
        go_ret
        exact ⟨by rw [hG.out]; first | rfl | simp [m1] | simp; omega, rfl⟩

theorem refdig_plus (D : List UInt8) (hs : D.length ≤ 4611686018427387904) (W : World) :
    Calls Tryd.prog 81 #[.string ⟨⟨43 :: D⟩⟩] W fun e w' => e = .returned (.bool (okL D)) ∧ w' = W := by
  have eb := ba_zero 43 D
  have hext : (⟨⟨43 :: D⟩⟩ : ByteArray).extract 1 (D.length + 1) = ⟨⟨D⟩⟩ := by
    rw [Lib.extract_eq]; simp
  go_enter Tryd.func81, Tryd.ntmps81
  go_wp2_with fail
  clear eb hext
  go_loop [3] (fun i => ∃ k : Nat, k ≤ D.length ∧ i = .int .i64 k ∧ (D.take k).all digB = true) (fun i => D.length - (intOf i).toNat)
  case atStart => exact ⟨0, by omega, rfl, rfl⟩
  case round =>
    obtain ⟨k, hk, rfl, hall⟩ := hrel
    by_cases hlt : k < D.length
    · have htk := Lib.hid (List.take_succ_eq_append_getElem hlt)
      obtain ⟨x, hx0⟩ : ∃ x, D[k] = x := ⟨_, rfl⟩
      have hbx : ∀ h : k < (⟨⟨D⟩⟩ : ByteArray).size, (⟨⟨D⟩⟩ : ByteArray)[k]'h = x := fun _ => hx0
      rw [hx0] at htk
      clear hx0
      have hx256 : x.toNat < 256 := x.toNat_lt
      by_cases hd : digB x = true
      · obtain ⟨d1, d2⟩ := digB_iff.1 hd
        have b1 : decide ((x.toNat : Int) < 48) = false := by simp; omega
        have b2 : decide (57 < (x.toNat : Int)) = false := by simp; omega
        have HALL := Lib.hid (show (D.take (k + 1)).all digB = true by rw [htk.out, List.all_append, hall]; simp [hd])
        clear htk hall hd
        go_wp2_with fail
        go_round
        case rel => exact ⟨k + 1, by omega, by go_num, HALL.out⟩
        case measure => simp [intOf]; omega
      · have hF := Lib.hid (show okL D = false by
          have : D.all digB = false := take_all (k := k) (by rw [htk.out, List.all_append]; simp [hd])
          rw [okL, this]; simp)
        have hx : x.toNat < 48 ∨ 57 < x.toNat := by
          rcases Nat.lt_or_ge x.toNat 48 with h | h
          · exact .inl h
          · rcases Nat.lt_or_ge 57 x.toNat with h' | h'
            · exact .inr h'
            · exact absurd (digB_iff.2 ⟨h, h'⟩) hd
        clear htk hd hall
        rcases hx with h | h
        · have b1 : decide ((x.toNat : Int) < 48) = true := by simp; omega
          go_wp2_with fail
          go_ret
          exact ⟨by rw [hF.out]; rfl, rfl⟩
        · have b1 : decide ((x.toNat : Int) < 48) = false := by simp; omega
          have b2 : decide (57 < (x.toNat : Int)) = true := by simp; omega
          go_wp2_with fail
          go_ret
          exact ⟨by rw [hF.out]; rfl, rfl⟩
    · obtain rfl : k = D.length := by omega
      rw [List.take_length] at hall
      have hF := Lib.hid (show okL D = (decide (1 ≤ D.length) && decide (D.length ≤ 30)) by rw [okL, hall, Bool.and_true])
      clear hall
      by_cases l1 : 1 ≤ D.length
      · by_cases l2 : D.length ≤ 30
        · have m1 : decide (1 ≤ (D.length : Int)) = true := by simp; omega
          have m2 : decide ((D.length : Int) ≤ 30) = true := by simp; omega
          have hG := Lib.hid (show okL D = true by rw [hF.out, decide_eq_true l1, decide_eq_true l2]; rfl)
          clear hF
          go_wp2_with fail
          go_ret
          exact ⟨by rw [hG.out]; first | rfl | simp [m1, m2] | simp; omega, rfl⟩
        · have m1 : decide (1 ≤ (D.length : Int)) = true := by simp; omega
          have m2 : decide ((D.length : Int) ≤ 30) = false := by simp; omega
          have hG := Lib.hid (show okL D = false by rw [hF.out, decide_eq_false l2]; simp)
          clear hF
          go_wp2_with fail
          go_ret
          exact ⟨by rw [hG.out]; first | rfl | simp [m1, m2] | simp; omega, rfl⟩
      · have m1 : decide (1 ≤ (D.length : Int)) = false := by simp; omega
        have hG := Lib.hid (show okL D = false by rw [hF.out, decide_eq_false l1]; rfl)
        clear hF
        go_wp2_with fail
        go_ret
        exact ⟨by rw [hG.out]; first | rfl | simp [m1] | simp; omega, rfl⟩

theorem refdig_none (c : UInt8) (r : List UInt8) (hc : ¬ c = 45) (hc' : ¬ c = 43) (hs : (c :: r).length ≤ 4611686018427387904) (W : World) :
    Calls Tryd.prog 81 #[.string ⟨⟨c :: r⟩⟩] W fun e w' => e = .returned (.bool (okL (c :: r))) ∧ w' = W := by
  have eb := ba_zero c r
  have g45 : ((c.toNat : Int) == 45) = false := (u8beq c 45).trans (by simpa using hc)
  have g43 : ((c.toNat : Int) == 43) = false := (u8beq c 43).trans (by simpa using hc')
  have hpos : 0 < (⟨⟨c :: r⟩⟩ : ByteArray).size := by show 0 < (c :: r).length; simp
  obtain ⟨D, hD⟩ : ∃ D, D = c :: r := ⟨_, rfl⟩
  have hDl : 0 < D.length := by rw [hD]; simp
  rw [← hD] at eb hs ⊢
  clear hD hpos
  go_enter Tryd.func81, Tryd.ntmps81
  go_wp2_with fail
  clear eb g45 g43 hDl
  go_loop [3] (fun i => ∃ k : Nat, k ≤ D.length ∧ i = .int .i64 k ∧ (D.take k).all digB = true) (fun i => D.length - (intOf i).toNat)
  case atStart => exact ⟨0, by omega, rfl, rfl⟩
  case round =>
    obtain ⟨k, hk, rfl, hall⟩ := hrel
    by_cases hlt : k < D.length
    · have htk := Lib.hid (List.take_succ_eq_append_getElem hlt)
      obtain ⟨x, hx0⟩ : ∃ x, D[k] = x := ⟨_, rfl⟩
      have hbx : ∀ h : k < (⟨⟨D⟩⟩ : ByteArray).size, (⟨⟨D⟩⟩ : ByteArray)[k]'h = x := fun _ => hx0
      rw [hx0] at htk
      clear hx0
      have hx256 : x.toNat < 256 := x.toNat_lt
      by_cases hd : digB x = true
      · obtain ⟨d1, d2⟩ := digB_iff.1 hd
        have b1 : decide ((x.toNat : Int) < 48) = false := by simp; omega
        have b2 : decide (57 < (x.toNat : Int)) = false := by simp; omega
        have HALL := Lib.hid (show (D.take (k + 1)).all digB = true by rw [htk.out, List.all_append, hall]; simp [hd])
        clear htk hall hd
        go_wp2_with fail
        go_round
        case rel => exact ⟨k + 1, by omega, by go_num, HALL.out⟩
        case measure => simp [intOf]; omega
      · have hF := Lib.hid (show okL D = false by
          have : D.all digB = false := take_all (k := k) (by rw [htk.out, List.all_append]; simp [hd])
          rw [okL, this]; simp)
        have hx : x.toNat < 48 ∨ 57 < x.toNat := by
          rcases Nat.lt_or_ge x.toNat 48 with h | h
          · exact .inl h
          · rcases Nat.lt_or_ge 57 x.toNat with h' | h'
            · exact .inr h'
            · exact absurd (digB_iff.2 ⟨h, h'⟩) hd
        clear htk hd hall
        rcases hx with h | h
        · have b1 : decide ((x.toNat : Int) < 48) = true := by simp; omega
          go_wp2_with fail
          go_ret
          exact ⟨by rw [hF.out]; rfl, rfl⟩
        · have b1 : decide ((x.toNat : Int) < 48) = false := by simp; omega
          have b2 : decide (57 < (x.toNat : Int)) = true := by simp; omega
          go_wp2_with fail
          go_ret
          exact ⟨by rw [hF.out]; rfl, rfl⟩
    · obtain rfl : k = D.length := by omega
      rw [List.take_length] at hall
      have hF := Lib.hid (show okL D = (decide (1 ≤ D.length) && decide (D.length ≤ 30)) by rw [okL, hall, Bool.and_true])
      clear hall
      by_cases l1 : 1 ≤ D.length
      · by_cases l2 : D.length ≤ 30
        · have m1 : decide (1 ≤ (D.length : Int)) = true := by simp; omega
          have m2 : decide ((D.length : Int) ≤ 30) = true := by simp; omega
          have hG := Lib.hid (show okL D = true by rw [hF.out, decide_eq_true l1, decide_eq_true l2]; rfl)
          clear hF
          go_wp2_with fail
          go_ret
          exact ⟨by rw [hG.out]; first | rfl | simp [m1, m2] | simp; omega, rfl⟩
        · have m1 : decide (1 ≤ (D.length : Int)) = true := by simp; omega
          have m2 : decide ((D.length : Int) ≤ 30) = false := by simp; omega
          have hG := Lib.hid (show okL D = false by rw [hF.out, decide_eq_false l2]; simp)
          clear hF
          go_wp2_with fail
          go_ret
          exact ⟨by rw [hG.out]; first | rfl | simp [m1, m2] | simp; omega, rfl⟩
      · have m1 : decide (1 ≤ (D.length : Int)) = false := by simp; omega
        have hG := Lib.hid (show okL D = false by rw [hF.out, decide_eq_false l1]; rfl)
        clear hF
        go_wp2_with fail
        go_ret
        exact ⟨by rw [hG.out]; first | rfl | simp [m1] | simp; omega, rfl⟩

theorem refdigits_any (s : ByteArray) (hs : s.data.toList.length ≤ 4611686018427387904) (W : World) :
    Calls Tryd.prog 81 #[.string s] W fun e w' => e = .returned (.bool (okL (bodyL s.data.toList))) ∧ w' = W := by
  obtain ⟨⟨l⟩⟩ := s
  rw [show (ByteArray.mk ⟨l⟩).data.toList = l from rfl] at hs ⊢
  rcases l with _ | ⟨c, r⟩
  · have H := Lib.hid (show okL (bodyL []) = false from rfl)
    go_enter Tryd.func81, Tryd.ntmps81
    go_wp2_with fail
    go_loop [3] (fun i => i = .int .i64 0) (fun _ => 0)
    case atStart => rfl
    case round =>
      subst hrel
      go_wp2_with fail
      go_ret
      exact ⟨by rw [H.out]; rfl, rfl⟩
  · by_cases h45 : c = 45
    · subst h45
      exact refdig_minus r (by simp at hs; omega) W
    · by_cases h43 : c = 43
      · subst h43
        exact refdig_plus r (by simp at hs; omega) W
      · have e : bodyL (c :: r) = c :: r := by simp [bodyL, h45, h43]
        rw [e]
        exact refdig_none c r h45 h43 hs W
end Go.Proofs.YthighbbikpnpgaaDoor
