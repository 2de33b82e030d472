/-
  JudgeBack returns true at any text, and leaves it as it is. Conditions: none.
-/
import Derived.Test.YtkogfljjdgcdnaaJRow
import Derived.Test.YtkogfljjdgcdnaaJM
namespace Go.Proofs.Ytkogfljjdgcdnaa
open Go.ChangeShapes Go.WideShapes Go.ChangeAt Go.RowKit
open Go.ChangeMaps (open_string shut_string)

theorem prefix_app {s p : List UInt8} (h : Lib.hasPrefix s p = true) : p ++ Lib.trimPrefix s p = s := by
  rw [(prefix_len h).2]
  have := List.isPrefixOf_iff_prefix.1 h
  obtain ⟨t, rfl⟩ := this
  simp

theorem toldF_app (s : List UInt8) : ∀ d, (toldF s d).2.2 = true → kindWord (toldF s d).1 ++ (toldF s d).2.1 = s
  | 0, h => by simp [toldF] at h
  | d + 1, h => by
    rw [toldF] at h ⊢
    by_cases hh : hit s (20 - d) = true
    · rw [if_pos hh]
      have hp : Lib.hasPrefix s (kindWord (20 - d)) = true := by
        rw [hit, Bool.and_eq_true] at hh
        exact hh.1
      exact prefix_app hp
    · rw [if_neg hh] at h ⊢
      exact toldF_app s d h

theorem line_text (x : List UInt8) (b : Bool) : ({ lineL x with opn := b } : Ln).text' = x ++ (if b = true then [] else [10]) := by
  unfold lineL Ln.text'
  by_cases h1 : Lib.hasPrefix x [61, 62, 32] = true
  · simp only [h1, if_true]
    rw [if_pos (by decide), prefix_app h1]
  · by_cases h2 : Lib.hasPrefix x [101, 114, 114, 111, 114, 32] = true
    · by_cases h3 : (told (Lib.trimPrefix x [101, 114, 114, 111, 114, 32])).2.2 = true
      · simp only [h1, h2, h3, if_true, if_false, Bool.false_eq_true]
        rw [if_neg (by decide), if_pos (by decide), List.append_assoc [101, 114, 114, 111, 114, 32], told, toldF_app _ _ h3, prefix_app h2]
      · simp only [h1, h2, h3, if_true, if_false, Bool.false_eq_true]
        rw [if_neg (by decide), if_neg (by decide), List.nil_append]
    · simp only [h1, h2, if_false, Bool.false_eq_true]
      rw [if_neg (by decide), if_neg (by decide), List.nil_append]

theorem line_text0 (x : List UInt8) : (lineL x).text' = x ++ [10] := by
  have h := line_text x false
  have ho := lineL_open x
  have e : ({ lineL x with opn := false } : Ln) = lineL x := by
    cases hh : lineL x
    rw [hh] at ho
    simp only at ho
    subst ho
    rfl
  rw [e] at h
  simpa using h

theorem join_lines : ∀ (s acc : List UInt8), joinL (linesA acc s) = acc ++ s
  | [], acc => by
    rw [linesA]
    by_cases h : acc = []
    · simp [h, joinL]
    · rw [if_neg h]
      have := line_text acc true
      simpa [joinL, opened] using this
  | c :: s, acc => by
    rw [linesA]
    by_cases h : c = 10
    · subst h
      rw [if_pos rfl, joinL, List.flatMap_cons, ← joinL, join_lines s [], line_text0]
      simp
    · rw [if_neg h, join_lines s]
      simp

theorem back_walk (s : ByteArray) (w : World) (hs : s.size ≤ maxLen) (hsh : w.ShapedOpen Try.prog) :
    Calls Try.prog 6 #[.string s] w fun e w' => e = .returned (.bool true) ∧ Below w.heap.size w w' := by
  obtain ⟨W, rfl⟩ : ∃ W : World, W = w := ⟨w, rfl⟩
  unfold maxLen at hs
  by_cases h : s.size ≤ 32768
  · have hll : (linesA [] s.data.toList).length ≤ 32769 := by
      have := lines_len s.data.toList []
      rw [← Lib.size_eq] at this
      omega
    have hj : joinL (linesA [] s.data.toList) = s.data.toList := by rw [join_lines]; rfl
    have hcl := lines_any s
    generalize linesA [] s.data.toList = l at hll hj hcl
    have hjl : (joinL l).length ≤ 140737488355328 := by rw [hj, ← Lib.size_eq]; omega
    have hcl' := Lib.hid (fun w hw => hcl w h hw)
    have HJ := Lib.hid hj
    clear hcl hj
    go_enter Try.func6, Try.ntmps6
    go_wp2_with fail
    refine (awake_any _ hsh).mono ?_
    rintro e w1 ⟨rfl, hb1⟩
    have hsh1 := shaped_below hsh hb1
    go_wp2_with fail
    refine (hcl'.out _ hsh1).mono ?_
    rintro e w2 ⟨v2, rfl, hown2, hb2⟩
    have hb12 := below_trans hb1 hb2
    go_wp2_with fail
    refine (join_any _ _ _ _ hown2 (by omega) hjl).mono ?_
    rintro e w3 ⟨rfl, hb3⟩
    have hb13 := below_trans hb12 hb3
    rw [HJ.out, Lib.mk_data]
    go_wp2_with fail
    go_ret
    exact ⟨by simp, hb13⟩
  · have h2 : 32768 < s.size := by omega
    clear h
    go_enter Try.func6, Try.ntmps6
    go_wp2_with fail
    refine (awake_any _ hsh).mono ?_
    rintro e w1 ⟨rfl, hb1⟩
    have hsh1 := shaped_below hsh hb1
    go_wp2_with fail
    refine (awake_any _ hsh1).mono ?_
    rintro e w2 ⟨rfl, hb2⟩
    go_wp2_with fail
    go_ret
    exact ⟨rfl, below_trans hb1 hb2⟩

set_option maxRecDepth 100000 in
theorem back_lifted (os : Os) (started : os.Started) (H : Type) (enc : TypeId × Value → H) :
    ReturnsInHanded {} Try.checked os 6 .any (Rows.judgeBackSpec.pre6 enc Try.prog Try.f6 Rows.judgeBackRow.domain false) (Rows.judgeBackSpec.post enc Try.prog Try.f6 false true false false) := by
  refine returnsInHanded_of_change_shaped (C := Try.checked) Try.own started (by kernel_rfl) Try.func6
    (ChangeSpec.witness6 (enc := enc) (C := Try.checked) false ⟨#[], #[.string ⟨#[]⟩], []⟩ 8 (by kernel_rfl) (by kernel_rfl) (by kernel_rfl) (by kernel_rfl)) ?_
  intro W base args ds gs before hval0 hW hcnd0 _ hsh _
  have hval : ∀ (j : Nat) t v, Try.f6.params[j]? = some t → args[j]? = some v → Value.okWide Try.prog W .any base t v := hval0
  have hW' := hW
  obtain ⟨p, q, hA0, hV, rfl, hfz, hnd⟩ := hW
  have hA : DataW.TrodAll enc Try.prog W 0 (fun _ => true) true Try.f6.params.toList args.toList ds p := hA0
  rw [Try.params6] at hA hval
  obtain ⟨v0, d0, rfl, rfl, h0⟩ := trodAll_one hA
  obtain ⟨rfl, rfl⟩ := trodVars_none hV
  obtain ⟨a, rfl, rfl, rfl, wa⟩ := open_string Try.underlying9 (hval 0 9 v0 rfl rfl) h0
  clear hA0 hval0
  simp only [List.append_nil] at hW'
  refine (back_walk a W wa hsh).mono fun x W' ⟨he, hb⟩ => ?_
  subst he
  exact ⟨_, rfl, _, _, _, [], [], [], hW', trodAll_mk1 (shut_bool Try.underlying4 _), trodAll_mk1 (shut_string Try.underlying9 wa), rfl, hb.frame _, fun h => by cases h⟩

theorem back_holds : Rows.JudgeBackSaid :=
  OpenClaim.holds_of_wide 6 Try.f6 rfl rfl rfl rfl rfl rfl rfl ⟨rfl, rfl, rfl, rfl, rfl⟩ rfl rfl rfl rfl rfl (by kernel_rfl) Try.func6 (by kernel_rfl)
    (of_decide_eq_true (by kernel_rfl)) (by unfold Func.isWrapper; first | (rw [if_pos (by decide +kernel)]; kernel_rfl) | (rw [if_neg (by decide +kernel)]; exact ⟨rfl, rfl⟩))
    (fun os started H enc _ => back_lifted os started H enc)

end Go.Proofs.Ytkogfljjdgcdnaa
