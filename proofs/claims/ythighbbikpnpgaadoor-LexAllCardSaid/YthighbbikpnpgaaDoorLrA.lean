/-
  The reference's lexer: blanks, a token's end, the skip.
-/
import Derived.Test.YthighbbikpnpgaaDoorLB5
import Derived.Deep.QuietTactic
import Derived.BigQuiet
namespace Go.Proofs.YthighbbikpnpgaaDoor
open Go.RowKit Go.Proofs.YthighbbikpnpgaaDoorW.PrintWords

set_option maxRecDepth 16000 in
theorem refblank_any (c : UInt8) (w : World) : Calls Tryd.prog 90 #[.int .u8 (c.toNat : Int)] w fun e w' => e = .returned (.bool (blankB c)) ∧ w' = w := by
  have h : c = 32 ∨ c = 9 ∨ c = 10 ∨ c = 13 ∨ (((c.toNat : Int) == 32) = false ∧ ((c.toNat : Int) == 9) = false ∧ ((c.toNat : Int) == 10) = false ∧ ((c.toNat : Int) == 13) = false ∧ blankB c = false) := by
    by_cases h1 : c = 32; · exact .inl h1
    by_cases h2 : c = 9; · exact .inr (.inl h2)
    by_cases h3 : c = 10; · exact .inr (.inr (.inl h3))
    by_cases h4 : c = 13; · exact .inr (.inr (.inr (.inl h4)))
    refine .inr (.inr (.inr (.inr ⟨?_, ?_, ?_, ?_, by simp [blankB, h1, h2, h3, h4]⟩)))
    · exact beq_eq_false_iff_ne.2 (fun e => h1 ((byte_int c 32 (by omega)).1 e))
    · exact beq_eq_false_iff_ne.2 (fun e => h2 ((byte_int c 9 (by omega)).1 e))
    · exact beq_eq_false_iff_ne.2 (fun e => h3 ((byte_int c 10 (by omega)).1 e))
    · exact beq_eq_false_iff_ne.2 (fun e => h4 ((byte_int c 13 (by omega)).1 e))
  rcases h with rfl | rfl | rfl | rfl | ⟨e1, e2, e3, e4, hf⟩
  · go_enter Tryd.func90, Tryd.ntmps90
    go_wp2_with fail
    go_ret
    exact ⟨rfl, rfl⟩
  · go_enter Tryd.func90, Tryd.ntmps90
    go_wp2_with fail
    go_ret
    exact ⟨rfl, rfl⟩
  · go_enter Tryd.func90, Tryd.ntmps90
    go_wp2_with fail
    go_ret
    exact ⟨rfl, rfl⟩
  · go_enter Tryd.func90, Tryd.ntmps90
    go_wp2_with fail
    go_ret
    exact ⟨rfl, rfl⟩
  · rw [hf]
    clear hf
    go_enter Tryd.func90, Tryd.ntmps90
    go_wp2_with fail
    go_ret
    exact ⟨by simp, rfl⟩

set_option maxRecDepth 16000 in
theorem refends_any (T : ByteArray) (k : Nat) (w : World) :
    Calls Tryd.prog 91 #[.string T, .int .i64 (k : Nat)] w fun e w' => e = .returned (.bool (endAt T k)) ∧ w' = w := by
  by_cases hlt : k < T.size
  · have hi' : (k : Int) < (T.size : Nat) := by omega
    have hi2 : ¬ (T.size : Int) ≤ (k : Nat) := by omega
    obtain ⟨x, hx⟩ : ∃ x, T[k]'hlt = x := ⟨_, rfl⟩
    have hbx : ∀ h, T[k]'h = x := fun _ => hx
    have e : endAt T k = endB x := by rw [endAt, dif_pos hlt, hx]
    have x256 : x.toNat < 256 := x.toNat_lt
    rw [e]
    clear e hx
    cases hB : blankB x
    · have HB := Lib.hid (refblank_any x)
      rw [hB] at HB
      have hE : endB x = (x == 40 || x == 41 || x == 34 || x == 59 || x == 39) := by rw [endB, hB]; simp
      rw [hE]
      clear hB hE
      by_cases h1 : x = 40
      · subst h1
        go_enter Tryd.func91, Tryd.ntmps91
        go_wp2_with fail
        refine (HB.out _).mono ?_
        rintro e w' ⟨rfl, rfl⟩
        go_wp2_with fail
        go_ret
        exact ⟨rfl, rfl⟩
      by_cases h2 : x = 41
      · subst h2
        go_enter Tryd.func91, Tryd.ntmps91
        go_wp2_with fail
        refine (HB.out _).mono ?_
        rintro e w' ⟨rfl, rfl⟩
        go_wp2_with fail
        go_ret
        exact ⟨rfl, rfl⟩
      by_cases h3 : x = 34
      · subst h3
        go_enter Tryd.func91, Tryd.ntmps91
        go_wp2_with fail
        refine (HB.out _).mono ?_
        rintro e w' ⟨rfl, rfl⟩
        go_wp2_with fail
        go_ret
        exact ⟨rfl, rfl⟩
      by_cases h4 : x = 59
      · subst h4
        go_enter Tryd.func91, Tryd.ntmps91
        go_wp2_with fail
        refine (HB.out _).mono ?_
        rintro e w' ⟨rfl, rfl⟩
        go_wp2_with fail
        go_ret
        exact ⟨rfl, rfl⟩
      by_cases h5 : x = 39
      · subst h5
        go_enter Tryd.func91, Tryd.ntmps91
        go_wp2_with fail
        refine (HB.out _).mono ?_
        rintro e w' ⟨rfl, rfl⟩
        go_wp2_with fail
        go_ret
        exact ⟨rfl, rfl⟩
      · have b1 : ((x.toNat : Int) == 40) = false := u8ne (n := 40) (by omega) h1
        have b2 : ((x.toNat : Int) == 41) = false := u8ne (n := 41) (by omega) h2
        have b3 : ((x.toNat : Int) == 34) = false := u8ne (n := 34) (by omega) h3
        have b4 : ((x.toNat : Int) == 59) = false := u8ne (n := 59) (by omega) h4
        have b5 : ((x.toNat : Int) == 39) = false := u8ne (n := 39) (by omega) h5
        have hz : (x == 40 || x == 41 || x == 34 || x == 59 || x == 39) = false := by simp [h1, h2, h3, h4, h5]
        rw [hz]
        clear hz h1 h2 h3 h4 h5
        go_enter Tryd.func91, Tryd.ntmps91
        go_wp2_with fail
        refine (HB.out _).mono ?_
        rintro e w' ⟨rfl, rfl⟩
        go_wp2_with fail
        go_ret
        exact ⟨by simp, rfl⟩
    · have HB := Lib.hid (refblank_any x)
      rw [hB] at HB
      rw [show endB x = true by rw [endB, hB]; rfl]
      clear hB
      go_enter Tryd.func91, Tryd.ntmps91
      go_wp2_with fail
      refine (HB.out _).mono ?_
      rintro e w' ⟨rfl, rfl⟩
      go_wp2_with fail
      go_ret
      exact ⟨rfl, rfl⟩
  · have hi' : (T.size : Int) ≤ (k : Nat) := by omega
    have e : endAt T k = true := by rw [endAt, dif_neg hlt]
    rw [e]
    clear e
    go_enter Tryd.func91, Tryd.ntmps91
    go_wp2_with fail
    go_ret
    exact ⟨rfl, rfl⟩
end Go.Proofs.YthighbbikpnpgaaDoor
