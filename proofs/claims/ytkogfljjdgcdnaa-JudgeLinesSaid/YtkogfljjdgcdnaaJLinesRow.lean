/-
  JudgeLines returns true at any text, and leaves it as it is. Conditions: none.
-/
import Derived.Test.YtkogfljjdgcdnaaJRow
import Derived.Deep.QuietTactic
import Derived.BigQuiet
namespace Go.Proofs.Ytkogfljjdgcdnaa
open Go.ChangeShapes Go.WideShapes Go.ChangeAt Go.RowKit
open Go.ChangeMaps (open_string shut_string)

theorem lines_walk (s : ByteArray) (w : World) (hs : s.size ≤ maxLen) (hsh : w.ShapedOpen Try.prog) :
    Calls Try.prog 5 #[.string s] w fun e w' => e = .returned (.bool true) ∧ Below w.heap.size w w' := by
  obtain ⟨i0, hi, hz0, hz1, hz2⟩ := info_parts info_kind
  obtain ⟨W, rfl⟩ : ∃ W : World, W = w := ⟨w, rfl⟩
  unfold maxLen at hs
  by_cases h : s.size ≤ 32768
  · have hll : (linesA [] s.data.toList).length ≤ 32769 := by
      have := lines_len s.data.toList []
      rw [← Lib.size_eq] at this
      omega
    have hcl := lines_any s
    have hcr := reflines_any s
    have hce := errors_any s
    generalize linesA [] s.data.toList = l at hll hcl hcr hce
    have hcl' := Lib.hid (fun w hw => hcl w h hw)
    have hcr' := Lib.hid (fun w => hcr w h)
    have hce' := Lib.hid (fun w hw => hce w h hw)
    clear hcl hcr hce
    go_enter Try.func5, Try.ntmps5
    go_wp2_with fail
    refine (awake_any _ hsh).mono ?_
    rintro e w1 ⟨rfl, hb1⟩
    have hsh1 := shaped_below hsh hb1
    go_wp2_with fail
    refine (hcl'.out _ hsh1).mono ?_
    rintro e w2 ⟨v2, rfl, hown2, hb2⟩
    go_wp2_with fail
    refine (hcr'.out _).mono ?_
    rintro e w3 ⟨v3, rfl, hown3, hb3⟩
    have hown2' : OwnL w3 w1.heap.size v2 l := own_below hown2 hb3
    clear hown2
    have hb13 := below_trans (below_trans hb1 hb2) hb3
    clear hb1 hb2 hb3 hsh1
    obtain ⟨A3, d3, rfl, g3⟩ := own_form hown3
    go_wp2_with fail
    go_loopw [4, 22] (fun v i wr => ∃ k : Nat, i = .int .i64 k ∧ k ≤ l.length ∧ Below w3.heap.size w3 wr ∧ wr.ownsRow w3.heap.size 31 1 v (kindsL (l.take k)).length ((kindsL (l.take k)).map (Value.int .i64))) (fun _ i _ => l.length - (intOf i).toNat)
    case atStart => exact ⟨0, rfl, by omega, Below.refl _ _, World.ownsRow_nil _ _ _ _⟩
    case round =>
      obtain ⟨k, rfl, hk, hbr, hownk⟩ := hrel
      have hbs := hbr.size
      by_cases hlt : k < l.length
      · obtain ⟨b1, rfl, hb1, hb1', c1⟩ := g3 (by omega)
        obtain ⟨e0, e1, e2, e3⟩ := flat_cells l k hlt
        have hsn := Lib.hid (kinds_snoc l k hlt)
        have hkl := kinds_len (l.take k)
        rw [List.length_take] at hkl
        have p0 := (hbr.cell (p := ⟨b1, k * 4, none⟩) hb1').trans (c1 _ _ e0)
        have p1 := (hbr.cell (p := ⟨b1, k * 4 + 1, none⟩) hb1').trans (c1 _ _ e1)
        have p2 := (hbr.cell (p := ⟨b1, k * 4 + 2, none⟩) hb1').trans (c1 _ _ e2)
        have p3 := (hbr.cell (p := ⟨b1, k * 4 + 3, none⟩) hb1').trans (c1 _ _ e3)
        clear c1 e0 e1 e2 e3 g3
        generalize l[k] = L at *
        obtain ⟨a, b, c, d⟩ := L
        simp only at p0 p1 p2 p3
        cases h2 : (a == 2)
        · rw [h2] at hsn
          go_wp2_with fail
          go_roundw
          case rel => exact ⟨k + 1, by go_num, by omega, hbr.alloc hbs _, by rw [hsn.out]; simpa using hownk.alloc _⟩
          case measure => simp [intOf]; omega
        · rw [h2] at hsn
          go_wp2_with (at_builtin; refine wpList_append_own _ rfl _ _ 30 rfl w3.heap.size 31 i0 _ 1 8 Try.underlying30 hi hz0 hz1 hz2 rfl (by decide) u4 _ _ rfl ((hownk.alloc _).alloc _) ⟨wr.heap.size + 1, 0, none⟩ 1 1 [.int .i64 b] rfl rfl ?c1 ?c2 ?c3 ?c4 ?c5 ?_)
          case c2 => rfl
          case c3 => unfold maxLen; omega
          case c4 => omega
          case c5 => omega
          intro v' w4 hown4 hgrow _
          go_wp2_with fail
          have hb4 : Below w3.heap.size w3 w4 := ((hbr.alloc hbs _).alloc (by simp; omega) _).grown hgrow (by simp; omega) (fun k hk => (hownk.lt k hk).1)
          go_roundw
          case rel => exact ⟨k + 1, by go_num, by omega, hb4, by rw [hsn.out]; simpa using hown4⟩
          case measure => simp [intOf]; omega
      · obtain rfl : l.length = k := by omega
        rw [List.take_length] at hownk
        have hb1r := below_trans hb13 hbr
        have hshr := shaped_below hsh hb1r
        go_wp2_with fail
        refine (hce'.out _ hshr).mono ?_
        rintro e w5 ⟨v5, rfl, hown5, hb5⟩
        have hownk5 : w5.ownsRow w3.heap.size 31 1 u4 (kindsL l).length ((kindsL l).map (Value.int .i64)) := own_below hownk hb5
        have hown25 : OwnL w5 w1.heap.size v2 l := own_below (own_below hown2' hbr) hb5
        have hb15 := below_trans hb1r hb5
        clear hownk hb5 hb1r hb13 hbr hown3 g3 hown2'
        go_wp2_with fail
        refine (hcr'.out _).mono ?_
        rintro e w6 ⟨v6, rfl, hown6, hb6⟩
        have hownk6 := own_below hownk5 hb6
        have hown56 := own_below hown5 hb6
        have hown26 : OwnL w6 w1.heap.size v2 l := own_below hown25 hb6
        have hb16 := below_trans hb15 hb6
        clear hb15 hb6 hown5 hownk5 hown25
        have hkl := kinds_len l
        generalize kindsL l = ks at hownk6 hown56 hkl
        obtain ⟨A4, d4, rfl, g4⟩ := own_form hownk6
        obtain ⟨A5, d5, rfl, g5⟩ := own_form hown56
        go_wp2_with fail
        refine (same_any _ _ l _ _ _ hown26 hown6 (by omega)).mono ?_
        rintro e w7 ⟨rfl, n, rfl⟩
        have hb17 := below_drewN hb16 n
        go_wp2_with fail
        go_loopw [51] (fun i wr => ∃ k n : Nat, i = .int .i64 k ∧ k ≤ ks.length ∧ wr = w6.drewN n) (fun i _ => ks.length - (intOf i).toNat)
        case atStart => exact ⟨0, n, rfl, by omega, rfl⟩
        case round =>
          obtain ⟨k, m, rfl, hk2, rfl⟩ := hrel
          by_cases hlt2 : k < ks.length
          · obtain ⟨b4, rfl, _, _, c4⟩ := g4 (by omega)
            obtain ⟨b5, rfl, _, _, c5⟩ := g5 (by omega)
            have q4 := c4 k (.int .i64 ks[k]) (by simp [hlt2])
            have q5 := c5 k (.int .i64 ks[k]) (by simp [hlt2])
            clear g4 g5 c4 c5
            go_wp2_with fail
            go_quiet (fail)
            go_wp2_with fail
            go_roundw
            case rel => exact ⟨k + 1, m + nq, by go_num, by omega, rfl⟩
            case measure => simp [intOf]; omega
          · go_wp2_with fail
            go_ret
            exact ⟨rfl, below_drewN hb16 m⟩
  · have h2 : 32768 < s.size := by omega
    clear h
    go_enter Try.func5, Try.ntmps5
    go_wp2_with fail
    refine (awake_any _ hsh).mono ?_
    rintro e w1 ⟨rfl, hb1⟩
    have hsh1 := shaped_below hsh hb1
    go_wp2_with fail
    refine (awake_any _ hsh1).mono ?_
    rintro e w2 ⟨rfl, hb2⟩
    go_wp2_with fail
    go_ret
    exact ⟨rfl, below_trans hb1 hb2⟩

set_option maxRecDepth 100000 in
theorem lines_lifted (os : Os) (started : os.Started) (H : Type) (enc : TypeId × Value → H) :
    ReturnsInHanded {} Try.checked os 5 .any (Rows.judgeLinesSpec.pre6 enc Try.prog Try.f5 Rows.judgeLinesRow.domain false) (Rows.judgeLinesSpec.post enc Try.prog Try.f5 false true false false) := by
  refine returnsInHanded_of_change_shaped (C := Try.checked) Try.own started (by kernel_rfl) Try.func5
    (ChangeSpec.witness6 (enc := enc) (C := Try.checked) false ⟨#[], #[.string ⟨#[]⟩], []⟩ 8 (by kernel_rfl) (by kernel_rfl) (by kernel_rfl) (by kernel_rfl)) ?_
  intro W base args ds gs before hval0 hW hcnd0 _ hsh _
  have hval : ∀ (j : Nat) t v, Try.f5.params[j]? = some t → args[j]? = some v → Value.okWide Try.prog W .any base t v := hval0
  have hW' := hW
  obtain ⟨p, q, hA0, hV, rfl, hfz, hnd⟩ := hW
  have hA : DataW.TrodAll enc Try.prog W 0 (fun _ => true) true Try.f5.params.toList args.toList ds p := hA0
  rw [Try.params5] at hA hval
  obtain ⟨v0, d0, rfl, rfl, h0⟩ := trodAll_one hA
  obtain ⟨rfl, rfl⟩ := trodVars_none hV
  obtain ⟨a, rfl, rfl, rfl, wa⟩ := open_string Try.underlying9 (hval 0 9 v0 rfl rfl) h0
  clear hA0 hval0
  simp only [List.append_nil] at hW'
  refine (lines_walk a W wa hsh).mono fun x W' ⟨he, hb⟩ => ?_
  subst he
  exact ⟨_, rfl, _, _, _, [], [], [], hW', trodAll_mk1 (shut_bool Try.underlying4 _), trodAll_mk1 (shut_string Try.underlying9 wa), rfl, hb.frame _, fun h => by cases h⟩

theorem lines_holds : Rows.JudgeLinesSaid :=
  OpenClaim.holds_of_wide 5 Try.f5 rfl rfl rfl rfl rfl rfl rfl ⟨rfl, rfl, rfl, rfl, rfl⟩ rfl rfl rfl rfl rfl (by kernel_rfl) Try.func5 (by kernel_rfl)
    (of_decide_eq_true (by kernel_rfl)) (by unfold Func.isWrapper; first | (rw [if_pos (by decide +kernel)]; kernel_rfl) | (rw [if_neg (by decide +kernel)]; exact ⟨rfl, rfl⟩))
    (fun os started H enc _ => lines_lifted os started H enc)

end Go.Proofs.Ytkogfljjdgcdnaa
