/-
  Walk: layer 2's law FixNoughts.
-/
import Derived.Test.YtcbibajcmhpjpaaDoorFTx
namespace Go.Proofs.YtcbibajcmhpjpaaDoor
open Go.RowKit

/-- A number's digits, so many noughts ahead of them. -/
def zer (z u : Nat) : List UInt8 := List.replicate z 48 ++ Lib.decDigits u

theorem valL_zeros (z : Nat) (l : List UInt8) : valL (List.replicate z 48 ++ l) = valL l := by
  induction z with
  | zero => rfl
  | succ z ih =>
    rw [List.replicate_succ, List.cons_append]
    rw [← ih]
    simp [valL, digV]

theorem zer_facts (z u : Nat) (hz : z ≤ 8) (hu : u < 18446744073709551616) : (zer z u).all digB = true ∧ valL (zer z u) = u ∧ 1 ≤ (zer z u).length ∧ (zer z u).length ≤ 28 ∧ bodyL (zer z u) = zer z u ∧ negL (zer z u) = false := by
  obtain ⟨d1, d2, d3⟩ := dec_facts u
  have hl := dec_len u hu
  have ha : (zer z u).all digB = true := by
    rw [zer, List.all_append, d1, Bool.and_true, List.all_eq_true]
    intro x hx
    rw [List.eq_of_mem_replicate hx]
    decide
  have h1 : 1 ≤ (zer z u).length := by simp [zer]; omega
  have hb : bodyL (zer z u) = zer z u ∧ negL (zer z u) = false := by
    generalize zer z u = l at ha h1
    rcases l with _ | ⟨c, r⟩
    · simp at h1
    · rw [List.all_cons, Bool.and_eq_true, digB_iff] at ha
      obtain ⟨⟨a, b⟩, _⟩ := ha
      have h45 : c ≠ 45 := fun e => by subst e; exact absurd a (by decide)
      have h43 : c ≠ 43 := fun e => by subst e; exact absurd a (by decide)
      simp [bodyL, negL, h45, h43]
  exact ⟨ha, by rw [zer, valL_zeros, d2], h1, by simp [zer]; omega, hb.1, hb.2⟩

theorem parse_plus_zer (z u : Nat) (hz : z ≤ 8) (hu : u < 18446744073709551616) : parseL (43 :: zer z u) = fitL u := by
  obtain ⟨h1, h2, h3, h4, _, _⟩ := zer_facts z u hz hu
  have hok : okL (zer z u) = true := by simp [okL, h1, h3]; omega
  rw [parseL, show bodyL (43 :: zer z u) = zer z u from rfl, show negL (43 :: zer z u) = false from rfl, if_pos hok, if_neg (by decide), h2]

theorem parse_zer_end (z u : Nat) (c : UInt8) (hz : z ≤ 8) (hu : u < 18446744073709551616) (hc : digB c = false) : parseL (zer z u ++ [c]) = (0, 6) := by
  obtain ⟨h1, h2, h3, h4, h5, h6⟩ := zer_facts z u hz hu
  have hb : bodyL (zer z u ++ [c]) = zer z u ++ [c] := by
    generalize zer z u = l at h5 h3
    rcases l with _ | ⟨x, r⟩
    · simp at h3
    · unfold bodyL at h5 ⊢
      simp only [List.cons_append] at h5 ⊢
      split
      · rename_i h
        rw [if_pos h] at h5
        exact absurd (congrArg List.length h5) (by simp)
      · rfl
  rw [parseL, hb, if_neg]
  simp [okL, hc]

theorem noughts_nat (k : Int) : ∃ m : Nat, m ≤ 8 ∧ wrap64 ((IntKind.u64.wrap k).tmod 9) = m := by
  have h0 : 0 ≤ IntKind.u64.wrap k := by rw [u64w]; omega
  refine ⟨((IntKind.u64.wrap k).tmod 9).toNat, ?_, ?_⟩
  · have := Int.tmod_lt_of_pos (IntKind.u64.wrap k) (b := 9) (by omega)
    omega
  · have h1 := Int.tmod_nonneg 9 h0
    have h2 := Int.tmod_lt_of_pos (IntKind.u64.wrap k) (b := 9) (by omega)
    generalize (IntKind.u64.wrap k).tmod 9 = x at h1 h2
    unfold wrap64
    omega

theorem zer_succ (z u : Nat) : (⟨#[48]⟩ : ByteArray) ++ ⟨(zer z u).toArray⟩ = ⟨(zer (z + 1) u).toArray⟩ := by
  rw [mk_cons, zer, zer, List.replicate_succ, List.cons_append]

theorem mk_end (l : List UInt8) (c : UInt8) : (⟨l.toArray⟩ : ByteArray) ++ ⟨#[c]⟩ = ⟨(l ++ [c]).toArray⟩ := by
  apply ByteArray.ext
  rw [ByteArray.data_append]
  simp

theorem noughts_walk (n k c : Int) (w : World) (h0 : -9223372036854775808 ≤ n) (h1 : n ≤ 9223372036854775807) (hc0 : 0 ≤ c) (hc1 : c < 256) (htab : Tab w) :
    Calls Tryd.prog 5 #[.int .i64 n, .int .i64 k, .int .u8 c] w fun e w' => e = .returned (.bool true) ∧ Below w.heap.size w w' := by
  obtain ⟨W, rfl⟩ : ∃ W : World, W = w := ⟨w, rfl⟩
  have cT := Lib.hid (fun w h => text_any n w h0 h1 h)
  by_cases hn : n < 0
  · go_enter Tryd.func5, Tryd.ntmps5
    go_wp2_with fail
    refine (cT.out _ htab).mono ?_
    rintro e w1 ⟨rfl, hb1⟩
    have htab1 := tab_below htab hb1
    go_wp2_with fail
    refine (awake_any _ htab1).mono ?_
    rintro e w2 ⟨rfl, hb2⟩
    have hb12 := below_trans hb1 hb2
    have htab2 := tab_below htab hb12
    go_wp2_with fail
    refine (awake_any _ htab2).mono ?_
    rintro e w3 ⟨rfl, hb3⟩
    have hb13 := below_trans hb12 hb3
    go_wp2_with fail
    go_ret
    exact ⟨rfl, hb13⟩
  · cases hN : Num n
    · have HN := Lib.hid hN
      clear hN
      go_enter Tryd.func5, Tryd.ntmps5
      go_wp2_with fail
      refine (cT.out _ htab).mono ?_
      rintro e w1 ⟨rfl, hb1⟩
      have htab1 := tab_below htab hb1
      go_wp2_with fail
      refine (awake_any _ htab1).mono ?_
      rintro e w2 ⟨rfl, hb2⟩
      have hb12 := below_trans hb1 hb2
      have htab2 := tab_below htab hb12
      go_wp2_with fail
      refine (refnum_any _ _).mono ?_
      rintro e w' ⟨rfl, rfl⟩
      rw [HN.out]
      go_wp2_with fail
      refine (awake_any _ htab2).mono ?_
      rintro e w3 ⟨rfl, hb3⟩
      have hb13 := below_trans hb12 hb3
      go_wp2_with fail
      go_ret
      exact ⟨rfl, hb13⟩
    · obtain ⟨u, rfl⟩ : ∃ u : Nat, n = u := ⟨n.toNat, by omega⟩
      have hu : u < 18446744073709551616 := by omega
      have HN := Lib.hid hN
      have HT : Hid (Lib.itoa u = zer 0 u) := by
        rw [Hid, Lib.itoa, if_neg hn, Int.toNat_natCast]; rfl
      have HF := Lib.hid (show resV (fitL (u : Int)) = .tuple #[.int .i64 u, .nilIface] by rw [fitL, if_pos hN]; rfl)
      clear hN
      obtain ⟨m, hm, hk⟩ := noughts_nat k
      go_enter Tryd.func5, Tryd.ntmps5
      go_wp2_with fail
      refine (cT.out _ htab).mono ?_
      rintro e w1 ⟨rfl, hb1⟩
      rw [HT.out]
      have htab1 := tab_below htab hb1
      go_wp2_with fail
      refine (awake_any _ htab1).mono ?_
      rintro e w2 ⟨rfl, hb2⟩
      have hb12 := below_trans hb1 hb2
      go_wp2_with fail
      refine (refnum_any _ _).mono ?_
      rintro e w' ⟨rfl, rfl⟩
      rw [HN.out]
      go_wp2_with fail
      go_loop [8, 32] (fun s i => ∃ z : Nat, z ≤ m ∧ i = .int .i64 z ∧ s = .string ⟨(zer z u).toArray⟩) (fun _ i => m - (intOf i).toNat)
      case atStart => exact ⟨0, by omega, rfl, rfl⟩
      case round =>
        obtain ⟨z, hz, rfl, rfl⟩ := hrel
        obtain ⟨_, _, _, hl, _, _⟩ := zer_facts z u (by omega) hu
        by_cases hlt : z < m
        · have HS := Lib.hid (zer_succ z u)
          go_wp2_with fail
          go_round
          case rel => exact ⟨z + 1, by omega, by go_num, by rw [← HS.out]⟩
          case measure => simp [intOf]; omega
        · obtain rfl : z = m := by omega
          have P1 := Lib.hid (parse_plus_zer z u hm hu)
          have P2 := Lib.hid (fun h => parse_zer_end z u (UInt8.ofNat c.toNat) hm hu h)
          generalize zer z u = t at hl P1 P2
          have HC1 := Lib.hid (mk_cons 43 t)
          go_wp2_with fail
          refine (parse_any _ _).mono ?_
          rintro e w3 ⟨rfl, hb3⟩
          have hb13 := below_trans hb12 hb3
          rw [show (ByteArray.mk #[43] ++ ByteArray.mk t.toArray).data.toList = 43 :: t by rw [HC1.out], P1.out, HF.out]
          have hcs := one_string w3 c hc0 hc1
          have hbs := hb13.size
          go_wp2_with fail
          rw [mk_end]
          refine (parse_any _ _).mono ?_
          rintro e w4 ⟨rfl, hb4⟩
          have hb14 := below_trans (hb13.alloc hbs (.cells #[.int .u8 c] 5)) hb4
          rw [show (ByteArray.mk (t ++ [UInt8.ofNat c.toNat]).toArray).data.toList = t ++ [UInt8.ofNat c.toNat] from rfl]
          have hcn : (UInt8.ofNat c.toNat).toNat = c.toNat := by rw [UInt8.toNat_ofNat']; omega
          by_cases hd : 48 ≤ c ∧ c ≤ 57
          · obtain ⟨d1, d2⟩ := hd
            generalize parseL (t ++ [UInt8.ofNat c.toNat]) = y
            obtain ⟨y1, y2⟩ := y
            rw [resV]
            clear hcs hcn
            go_wp2_with fail
            go_ret
            exact ⟨by simp, hb14⟩
          · have hdg : digB (UInt8.ofNat c.toNat) = false := by
              rw [← Bool.not_eq_true, digB_iff, hcn]
              omega
            rw [P2.out hdg, show resV (0, 6) = .tuple #[.int .i64 0, kindV 6] from rfl]
            have hd' : c < 48 ∨ 57 < c := by omega
            clear hcs hcn hdg hd
            rcases hd' with d | d
            · go_wp2_with fail
              refine (is_kind _ _ _).mono ?_
              rintro e w' ⟨rfl, rfl⟩
              go_wp2_with fail
              go_ret
              exact ⟨by simp, hb14⟩
            · go_wp2_with fail
              refine (is_kind _ _ _).mono ?_
              rintro e w' ⟨rfl, rfl⟩
              go_wp2_with fail
              go_ret
              exact ⟨by simp, hb14⟩
end Go.Proofs.YtcbibajcmhpjpaaDoor
