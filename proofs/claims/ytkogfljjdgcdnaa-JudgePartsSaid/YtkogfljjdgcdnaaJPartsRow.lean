/-
  JudgeParts returns true at any text and any int, and leaves them as they are. Conditions: none.
-/
import Derived.Test.YtkogfljjdgcdnaaJRow
namespace Go.Proofs.Ytkogfljjdgcdnaa
open Go.ChangeShapes Go.WideShapes Go.ChangeAt Go.RowKit
open Go.ChangeMaps (open_string shut_string)

theorem allowed_self (a : ByteArray) (e : Bool) : allowedB a a e = 1 := by simp [allowedB]

theorem prefix_take (l : List UInt8) (n : Nat) : Lib.hasPrefix l (l.take n) = true := by
  rw [Lib.hasPrefix, List.isPrefixOf_iff_prefix]
  exact List.take_prefix n l

theorem allowed_part (a : ByteArray) (n : Nat) : (allowedB (a.extract 0 n) a false == 2) = true ∨ ((allowedB (a.extract 0 n) a false == 1) = true ∧ ((a.extract 0 n).toList == a.toList) = true) := by
  unfold allowedB
  by_cases h : ((a.extract 0 n).toList == a.toList) = true
  · rw [if_pos h]
    exact .inr ⟨rfl, h⟩
  · rw [if_neg h, if_neg (by simp)]
    left
    rw [if_pos]
    · rfl
    · unfold uptoB
      split
      · rw [Lib.extract_data, Lib.extract_data]
        simp only [List.drop_zero, Nat.sub_zero, List.take_take]
        exact prefix_take _ _
      · rw [Lib.extract_data]
        simp only [List.drop_zero, Nat.sub_zero]
        exact prefix_take _ _

theorem cut_nat (cut : Int) (n : Nat) (hn : n ≤ 16384) : ∃ m : Nat, m ≤ n ∧ wrap64 ((IntKind.u64.wrap cut).tmod ((n : Int) + 1)) = m := by
  have h0 : 0 ≤ IntKind.u64.wrap cut := by
    simp only [IntKind.wrap]
    exact Int.emod_nonneg _ (by decide)
  have h1 : 0 ≤ (IntKind.u64.wrap cut).tmod ((n : Int) + 1) := Int.tmod_nonneg _ h0
  have h2 : (IntKind.u64.wrap cut).tmod ((n : Int) + 1) < (n : Int) + 1 := Int.tmod_lt_of_pos _ (by omega)
  refine ⟨((IntKind.u64.wrap cut).tmod ((n : Int) + 1)).toNat, by omega, ?_⟩
  generalize (IntKind.u64.wrap cut).tmod ((n : Int) + 1) = x at h1 h2
  unfold wrap64
  omega

theorem parts_walk (a : ByteArray) (cut : Int) (w : World) (ha : a.size ≤ maxLen) (hsh : w.ShapedOpen Try.prog) :
    Calls Try.prog 4 #[.string a, .int .i64 cut] w fun e w' => e = .returned (.bool true) ∧ Below w.heap.size w w' := by
  obtain ⟨W, rfl⟩ : ∃ W : World, W = w := ⟨w, rfl⟩
  unfold maxLen at ha
  by_cases h : a.size ≤ 16384
  · go_enter Try.func4, Try.ntmps4
    go_wp2_with fail
    refine (awake_any _ hsh).mono ?_
    rintro e w1 ⟨rfl, hb1⟩
    have hsh1 := shaped_below hsh hb1
    obtain ⟨m, hm, hcut⟩ := cut_nat cut a.size h
    have HP := Lib.hid (allowed_part a m)
    have HA := Lib.hid (allowed_self a)
    go_wp2_with fail
    have he : (a.extract 0 m).size ≤ 32768 := by rw [ByteArray.size_extract]; omega
    refine (allowed_any _ _ _ _ he hsh1).mono ?_
    rintro e w2 ⟨rfl, rfl⟩
    generalize allowedB (a.extract 0 m) a false = k at HP
    clear hcut
    go_wp2_with fail
    refine (allowed_any _ _ _ _ (by omega) hsh1).mono ?_
    rintro e w2 ⟨rfl, rfl⟩
    rw [HA.out]
    go_wp2_with fail
    refine (allowed_any _ _ _ _ (by omega) hsh1).mono ?_
    rintro e w2 ⟨rfl, rfl⟩
    rw [HA.out]
    rcases HP.out with h2 | ⟨h1, h3⟩
    · obtain rfl : k = 2 := by simpa using h2
      go_wp2_with fail
      go_ret
      exact ⟨rfl, hb1⟩
    · obtain rfl : k = 1 := by simpa using h1
      go_wp2_with fail
      go_ret
      exact ⟨rfl, hb1⟩
  · have h2 : 16384 < a.size := by omega
    clear h
    go_enter Try.func4, Try.ntmps4
    go_wp2_with fail
    refine (awake_any _ hsh).mono ?_
    rintro e w1 ⟨rfl, hb1⟩
    have hsh1 := shaped_below hsh hb1
    go_wp2_with fail
    refine (awake_any _ hsh1).mono ?_
    rintro e w2 ⟨rfl, hb2⟩
    go_wp2_with fail
    go_ret
    exact ⟨rfl, below_trans hb1 hb2⟩

set_option maxRecDepth 100000 in
theorem parts_lifted (os : Os) (started : os.Started) (H : Type) (enc : TypeId × Value → H) :
    ReturnsInHanded {} Try.checked os 4 .any (Rows.judgePartsSpec.pre6 enc Try.prog Try.f4 Rows.judgePartsRow.domain false) (Rows.judgePartsSpec.post enc Try.prog Try.f4 false true false false) := by
  refine returnsInHanded_of_change_shaped (C := Try.checked) Try.own started (by kernel_rfl) Try.func4
    (ChangeSpec.witness6 (enc := enc) (C := Try.checked) false ⟨#[], #[.string ⟨#[]⟩, .int .i64 0], []⟩ 8 (by kernel_rfl) (by kernel_rfl) (by kernel_rfl) (by kernel_rfl)) ?_
  intro W base args ds gs before hval0 hW hcnd0 _ hsh _
  have hval : ∀ (j : Nat) t v, Try.f4.params[j]? = some t → args[j]? = some v → Value.okWide Try.prog W .any base t v := hval0
  have hW' := hW
  obtain ⟨p, q, hA0, hV, rfl, hfz, hnd⟩ := hW
  have hA : DataW.TrodAll enc Try.prog W 0 (fun _ => true) true Try.f4.params.toList args.toList ds p := hA0
  rw [Try.params4] at hA hval
  obtain ⟨v0, v1, d0, d1, p0, p1, rfl, rfl, rfl, h0, h1⟩ := trodAll_two hA
  obtain ⟨rfl, rfl⟩ := trodVars_none hV
  obtain ⟨a, rfl, rfl, rfl, wa⟩ := open_string Try.underlying9 (hval 0 9 v0 rfl rfl) h0
  obtain ⟨n, rfl, rfl, rfl, wn⟩ := open_int Try.underlying3 (hval 1 3 v1 rfl rfl) h1
  clear hA0 hval0
  simp only [List.append_nil] at hW'
  refine (parts_walk a n W wa hsh).mono fun x W' ⟨he, hb⟩ => ?_
  subst he
  exact ⟨_, rfl, _, _, _, [], [], [], hW', trodAll_mk1 (shut_bool Try.underlying4 _), trodAll_mk2 (shut_string Try.underlying9 wa) (shut_int Try.underlying3 wn), rfl, hb.frame _, fun h => by cases h⟩

theorem parts_holds : Rows.JudgePartsSaid :=
  OpenClaim.holds_of_wide 4 Try.f4 rfl rfl rfl rfl rfl rfl rfl ⟨rfl, rfl, rfl, rfl, rfl⟩ rfl rfl rfl rfl rfl (by kernel_rfl) Try.func4 (by kernel_rfl)
    (of_decide_eq_true (by kernel_rfl)) (by unfold Func.isWrapper; first | (rw [if_pos (by decide +kernel)]; kernel_rfl) | (rw [if_neg (by decide +kernel)]; exact ⟨rfl, rfl⟩))
    (fun os started H enc _ => parts_lifted os started H enc)

end Go.Proofs.Ytkogfljjdgcdnaa
