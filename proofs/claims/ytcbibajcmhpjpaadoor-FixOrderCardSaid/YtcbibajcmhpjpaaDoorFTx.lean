/-
  Walks: layer 2's law FixTexts.
-/
import Derived.Test.YtcbibajcmhpjpaaDoorFW
namespace Go.Proofs.YtcbibajcmhpjpaaDoor
open Go.RowKit

theorem dig_ofNat {d : Nat} (h : d < 10) : digB (UInt8.ofNat (48 + d)) = true ∧ digV (UInt8.ofNat (48 + d)) = d := by
  have e : (UInt8.ofNat (48 + d)).toNat = 48 + d := by rw [UInt8.toNat_ofNat']; omega
  rw [digB_iff, digV, e]
  omega

theorem dec_facts : ∀ (u : Nat), (Lib.decDigits u).all digB = true ∧ valL (Lib.decDigits u) = u ∧ 1 ≤ (Lib.decDigits u).length := by
  intro u
  induction u using Nat.strongRecOn with
  | _ u ih =>
    by_cases h : u < 10
    · rw [dec_small h]
      obtain ⟨h1, h2⟩ := dig_ofNat h
      generalize UInt8.ofNat (48 + u) = c at h1 h2
      refine ⟨by simp [h1], ?_, by simp⟩
      simp [valL, h2]
    · rw [dec_big h]
      obtain ⟨i1, i2, i3⟩ := ih (u / 10) (by omega)
      obtain ⟨h1, h2⟩ := dig_ofNat (d := u % 10) (by omega)
      generalize UInt8.ofNat (48 + u % 10) = c at h1 h2
      refine ⟨?_, ?_, by simp⟩
      · rw [List.all_append, i1]; simp [h1]
      · rw [valL_snoc, i2, h2]; omega

theorem dec_head (u : Nat) : bodyL (Lib.decDigits u) = Lib.decDigits u ∧ negL (Lib.decDigits u) = false := by
  obtain ⟨h1, _, h3⟩ := dec_facts u
  generalize Lib.decDigits u = l at h1 h3
  rcases l with _ | ⟨c, r⟩
  · simp at h3
  · rw [List.all_cons, Bool.and_eq_true, digB_iff] at h1
    obtain ⟨⟨a, b⟩, _⟩ := h1
    have h45 : c ≠ 45 := fun e => by subst e; exact absurd a (by decide)
    have h43 : c ≠ 43 := fun e => by subst e; exact absurd a (by decide)
    simp [bodyL, negL, h45, h43]

theorem dec_len (u : Nat) (h : u < 18446744073709551616) : (Lib.decDigits u).length ≤ 20 := by
  rw [Lib.decDigits_length]
  exact Lib.nDigits_le20 u h

/-- A number's text is read as the number. -/
theorem parse_itoa (n : Int) (h0 : -9223372036854775808 ≤ n) (h1 : n ≤ 9223372036854775807) : parseL (Lib.itoa n) = fitL n := by
  unfold parseL Lib.itoa
  by_cases hn : n < 0
  · obtain ⟨d1, d2, d3⟩ := dec_facts n.natAbs
    have hl := dec_len n.natAbs (by omega)
    rw [if_pos hn, show bodyL (45 :: Lib.decDigits n.natAbs) = Lib.decDigits n.natAbs from rfl, show negL (45 :: Lib.decDigits n.natAbs) = true from rfl]
    have hok : okL (Lib.decDigits n.natAbs) = true := by simp [okL, d1, d3]; omega
    rw [if_pos hok, if_pos rfl, d2]
    congr 1
    omega
  · obtain ⟨d1, d2, d3⟩ := dec_facts n.toNat
    obtain ⟨e1, e2⟩ := dec_head n.toNat
    have hl := dec_len n.toNat (by omega)
    rw [if_neg hn, e1, e2]
    have hok : okL (Lib.decDigits n.toNat) = true := by simp [okL, d1, d3]; omega
    rw [if_pos hok, if_neg (by decide), d2]
    congr 1
    omega

theorem texts_walk (n : Int) (w : World) (h0 : -9223372036854775808 ≤ n) (h1 : n ≤ 9223372036854775807) (htab : Tab w) :
    Calls Tryd.prog 3 #[.int .i64 n] w fun e w' => e = .returned (.bool true) ∧ Below w.heap.size w w' := by
  obtain ⟨W, rfl⟩ : ∃ W : World, W = w := ⟨w, rfl⟩
  have cT := Lib.hid (fun w h => text_any n w h0 h1 h)
  have cR := Lib.hid (fun w => reftext_any n w h0 h1)
  have cP := Lib.hid (fun w => parse_any ⟨(Lib.itoa n).toArray⟩ w)
  have hp : parseL (ByteArray.mk (Lib.itoa n).toArray).data.toList = fitL n := parse_itoa n h0 h1
  rw [hp] at cP
  clear hp
  generalize Lib.itoa n = t at cT cR cP
  cases hN : Num n
  · rw [show resV (fitL n) = .tuple #[.int .i64 0, kindV 11] by rw [fitL, hN]; rfl] at cP
    have HN := Lib.hid hN
    clear hN
    go_enter Tryd.func3, Tryd.ntmps3
    go_wp2_with fail
    refine (cT.out _ htab).mono ?_
    rintro e w1 ⟨rfl, hb1⟩
    go_wp2_with fail
    refine (cP.out _).mono ?_
    rintro e w2 ⟨rfl, hb2⟩
    have hb12 := below_trans hb1 hb2
    have htab2 := tab_below htab hb12
    go_wp2_with fail
    refine (awake_any _ htab2).mono ?_
    rintro e w3 ⟨rfl, hb3⟩
    have hb13 := below_trans hb12 hb3
    go_wp2_with fail
    refine (cR.out _).mono ?_
    rintro e w4 ⟨rfl, hb4⟩
    have hb14 := below_trans hb13 hb4
    go_wp2_with fail
    refine (refnum_any _ _).mono ?_
    rintro e w' ⟨rfl, rfl⟩
    rw [HN.out]
    go_wp2_with fail
    refine (is_kind _ _ _).mono ?_
    rintro e w' ⟨rfl, rfl⟩
    go_wp2_with fail
    go_ret
    exact ⟨by simp, hb14⟩
  · rw [show resV (fitL n) = .tuple #[.int .i64 n, .nilIface] by rw [fitL, hN]; rfl] at cP
    have HN := Lib.hid hN
    clear hN
    go_enter Tryd.func3, Tryd.ntmps3
    go_wp2_with fail
    refine (cT.out _ htab).mono ?_
    rintro e w1 ⟨rfl, hb1⟩
    go_wp2_with fail
    refine (cP.out _).mono ?_
    rintro e w2 ⟨rfl, hb2⟩
    have hb12 := below_trans hb1 hb2
    have htab2 := tab_below htab hb12
    go_wp2_with fail
    refine (awake_any _ htab2).mono ?_
    rintro e w3 ⟨rfl, hb3⟩
    have hb13 := below_trans hb12 hb3
    go_wp2_with fail
    refine (cR.out _).mono ?_
    rintro e w4 ⟨rfl, hb4⟩
    have hb14 := below_trans hb13 hb4
    go_wp2_with fail
    refine (refnum_any _ _).mono ?_
    rintro e w' ⟨rfl, rfl⟩
    rw [HN.out]
    go_wp2_with fail
    go_ret
    exact ⟨by simp, hb14⟩
end Go.Proofs.YtcbibajcmhpjpaaDoor
