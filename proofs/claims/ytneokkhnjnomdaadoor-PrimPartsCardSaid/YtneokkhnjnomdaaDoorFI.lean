/-
  Plain: a number's text is read as the number; two numbers' texts differ; no blank stands in one.
-/
import Derived.Test.YtneokkhnjnomdaaDoorFU
namespace Go.Proofs.YtneokkhnjnomdaaDoor
open Go.RowKit

theorem i_dig_ofNat {d : Nat} (h : d < 10) : digB (UInt8.ofNat (48 + d)) = true ∧ digV (UInt8.ofNat (48 + d)) = d := by
  have e : (UInt8.ofNat (48 + d)).toNat = 48 + d := by rw [UInt8.toNat_ofNat']; omega
  rw [digB_iff, digV, e]
  omega

theorem i_dec_facts : ∀ (u : Nat), (Lib.decDigits u).all digB = true ∧ valL (Lib.decDigits u) = u ∧ 1 ≤ (Lib.decDigits u).length := by
  intro u
  induction u using Nat.strongRecOn with
  | _ u ih =>
    by_cases h : u < 10
    · rw [dec_small h]
      obtain ⟨h1, h2⟩ := i_dig_ofNat h
      generalize UInt8.ofNat (48 + u) = c at h1 h2
      refine ⟨by simp [h1], ?_, by simp⟩
      simp [valL, h2]
    · rw [dec_big h]
      obtain ⟨i1, i2, i3⟩ := ih (u / 10) (by omega)
      obtain ⟨h1, h2⟩ := i_dig_ofNat (d := u % 10) (by omega)
      generalize UInt8.ofNat (48 + u % 10) = c at h1 h2
      refine ⟨?_, ?_, by simp⟩
      · rw [List.all_append, i1]; simp [h1]
      · rw [valL_snoc, i2, h2]; omega

theorem i_dec_head (u : Nat) : bodyL (Lib.decDigits u) = Lib.decDigits u ∧ negL (Lib.decDigits u) = false := by
  obtain ⟨h1, _, h3⟩ := i_dec_facts u
  generalize Lib.decDigits u = l at h1 h3
  rcases l with _ | ⟨c, r⟩
  · simp at h3
  · rw [List.all_cons, Bool.and_eq_true, digB_iff] at h1
    obtain ⟨⟨a, b⟩, _⟩ := h1
    have h45 : c ≠ 45 := fun e => by subst e; exact absurd a (by decide)
    have h43 : c ≠ 43 := fun e => by subst e; exact absurd a (by decide)
    simp [bodyL, negL, h45, h43]

theorem i_dec_len (u : Nat) (h : u < 18446744073709551616) : (Lib.decDigits u).length ≤ 20 := by
  rw [Lib.decDigits_length]
  exact Lib.nDigits_le20 u h

/-- A number's text is read as the number. -/
theorem i_parse_itoa (n : Int) (h0 : -9223372036854775808 ≤ n) (h1 : n ≤ 9223372036854775807) : parseL (Lib.itoa n) = fitL n := by
  unfold parseL Lib.itoa
  by_cases hn : n < 0
  · obtain ⟨d1, d2, d3⟩ := i_dec_facts n.natAbs
    have hl := i_dec_len n.natAbs (by omega)
    rw [if_pos hn, show bodyL (45 :: Lib.decDigits n.natAbs) = Lib.decDigits n.natAbs from rfl, show negL (45 :: Lib.decDigits n.natAbs) = true from rfl]
    have hok : okL (Lib.decDigits n.natAbs) = true := by simp [okL, d1, d3]; omega
    rw [if_pos hok, if_pos rfl, d2]
    congr 1
    omega
  · obtain ⟨d1, d2, d3⟩ := i_dec_facts n.toNat
    obtain ⟨e1, e2⟩ := i_dec_head n.toNat
    have hl := i_dec_len n.toNat (by omega)
    rw [if_neg hn, e1, e2]
    have hok : okL (Lib.decDigits n.toNat) = true := by simp [okL, d1, d3]; omega
    rw [if_pos hok, if_neg (by decide), d2]
    congr 1
    omega

theorem i_itoa_nat (u : Nat) : Lib.itoa (u : Int) = Lib.decDigits u := by
  unfold Lib.itoa
  rw [if_neg (by omega), Int.toNat_natCast]
theorem i_itoa_inj {a b : Nat} (h : Lib.itoa (a : Int) = Lib.itoa (b : Int)) : a = b := by
  rw [i_itoa_nat, i_itoa_nat] at h
  have h1 := (i_dec_facts a).2.1
  have h2 := (i_dec_facts b).2.1
  rw [h] at h1
  omega
theorem i_itoa_digits (u : Nat) : ∀ c ∈ Lib.itoa (u : Int), digB c = true := by
  rw [i_itoa_nat]
  intro c hc
  exact List.all_eq_true.1 (i_dec_facts u).1 c hc
end Go.Proofs.YtneokkhnjnomdaaDoor
