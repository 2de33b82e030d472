/-
  Walks: products and divisions of fix.
-/
import Derived.Test.YtneokkhnjnomdaaDoorFB
namespace Go.Proofs.YtneokkhnjnomdaaDoor
open Go.RowKit

theorem wrap64_in (x : Int) : -9223372036854775808 ≤ wrap64 x ∧ wrap64 x ≤ 9223372036854775807 := by unfold wrap64; omega

theorem mul_check' {a b : Int} (ha : Num a = true) (hb : Num b = true) (h0 : a ≠ 0) : (Num (a * b) = true → wrap64 (a * b) = a * b ∧ wrap64 ((wrap64 (a * b)).tdiv a) = b) ∧ (Num (a * b) = false → wrap64 ((wrap64 (a * b)).tdiv a) ≠ b ∨ Num (wrap64 (a * b)) = false) := by
  obtain ⟨hy, hn⟩ := mul_check (b := b) ha h0
  obtain ⟨n1, n2⟩ := wrap64_in (a * b)
  rw [num_iff] at hb
  refine ⟨fun h => ?_, fun h => ?_⟩
  · obtain ⟨e1, e2⟩ := hy h
    rw [e1, e2]
    refine ⟨rfl, ?_⟩
    unfold wrap64
    omega
  · rcases hn h with h1 | h1
    · left
      have hd : ((wrap64 (a * b)).tdiv a).natAbs ≤ (wrap64 (a * b)).natAbs := by
        rw [Int.natAbs_tdiv]
        exact Nat.div_le_self _ _
      generalize (wrap64 (a * b)).tdiv a = d at *
      generalize wrap64 (a * b) = n at *
      unfold wrap64
      omega
    · exact .inr h1

theorem mul_any (a b : Int) (w : World) : Calls Tryd.prog 42 #[.int .i64 a, .int .i64 b] w fun e w' => e = .returned (resV (mulL a b)) ∧ w' = w := by
  have HC := Lib.hid (both_any a b)
  have H : Hid (mulL a b = if (Num a && Num b) = true then fitL (a * b) else (0, 2)) := rfl
  generalize hp : (Num a && Num b) = p at HC H
  cases p
  · clear hp
    go_enter Tryd.func42, Tryd.ntmps42
    go_wp2_with fail
    refine (HC.out _).mono ?_
    rintro e w' ⟨rfl, rfl⟩
    go_wp2_with fail
    go_ret2
    exact ⟨by rw [H.out]; rfl, rfl⟩
  · rw [Bool.and_eq_true] at hp
    obtain ⟨hA, hB⟩ := hp
    by_cases h0 : a = 0
    · subst h0
      have e : (0 : Int) * b = 0 := Int.zero_mul b
      go_enter Tryd.func42, Tryd.ntmps42
      go_wp2_with fail
      refine (HC.out _).mono ?_
      rintro e w' ⟨rfl, rfl⟩
      have HM := Lib.hid (show mulL 0 b = (0, 0) by rw [H.out, e]; rfl)
      go_wp2_with fail
      go_ret2
      exact ⟨by rw [HM.out]; rfl, rfl⟩
    · obtain ⟨hy, hn⟩ := mul_check' hA hB h0
      generalize hp : Num (a * b) = q at hy hn
      have H2 : Hid (mulL a b = if q = true then (a * b, 0) else (0, 11)) := by rw [Hid, H.out, if_pos rfl, fitL, hp]
      rw [num_iff] at hA hB
      obtain ⟨a1, a2⟩ := hA
      obtain ⟨b1, b2⟩ := hB
      obtain ⟨n, hm⟩ : ∃ n, wrap64 (a * b) = n := ⟨_, rfl⟩
      rw [hm] at hy hn
      obtain ⟨d, hd⟩ : ∃ d, wrap64 (n.tdiv a) = d := ⟨_, rfl⟩
      rw [hd] at hy hn
      have e0 : (a == 0) = false := by simpa using h0
      cases q
      · have hn' := Lib.hid (hn rfl)
        clear hp hy hn
        by_cases hdb : d = b
        · have hN : Num n = false := by
            rcases hn'.out with h | h
            · exact absurd hdb h
            · exact h
          have HN := Lib.hid hN
          clear hN
          subst hdb
          go_enter Tryd.func42, Tryd.ntmps42
          go_wp2_with fail
          refine (HC.out _).mono ?_
          rintro e w' ⟨rfl, rfl⟩
          go_wp2_with fail
          refine (whole_any _ _).mono ?_
          rintro e w' ⟨rfl, rfl⟩
          rw [HN.out]
          go_wp2_with fail
          go_ret2
          exact ⟨by rw [H2.out]; rfl, rfl⟩
        · have edb : (d == b) = false := by simpa using hdb
          have ndb : (d != b) = true := by simpa using hdb
          have na0 : (a != 0) = true := by simpa using h0
          have HDB := Lib.hid hdb
          clear hdb hn'
          go_enter Tryd.func42, Tryd.ntmps42
          go_wp2_with fail
          refine (HC.out _).mono ?_
          rintro e w' ⟨rfl, rfl⟩
          go_wp2_with fail
          go_ret2
          exact ⟨by rw [H2.out]; rfl, rfl⟩
      · obtain ⟨e1, e2⟩ := hy rfl
        subst e2
        have HN := Lib.hid hp
        have HE := Lib.hid e1
        clear hp hy hn e1
        go_enter Tryd.func42, Tryd.ntmps42
        go_wp2_with fail
        refine (HC.out _).mono ?_
        rintro e w' ⟨rfl, rfl⟩
        go_wp2_with fail
        refine (whole_any _ _).mono ?_
        rintro e w' ⟨rfl, rfl⟩
        rw [HE.out, HN.out]
        go_wp2_with fail
        go_ret2
        exact ⟨by rw [H2.out]; rfl, rfl⟩
end Go.Proofs.YtneokkhnjnomdaaDoor
