/-
  Layer 11: whether there are a place and a name.
-/
import Derived.Test.YthighbbikpnpgaaDoorEvA
namespace Go.Proofs.YthighbbikpnpgaaDoor
open Go.RowKit Go.Maps

/-- What is wrong with a place and a name: 0, nothing. -/
def thereK (at_ : Int) (n : Nat) (ok : Bool) : Int := if at_ < 0 ∨ (n : Int) < at_ then 3 else if ok = true then 0 else 2

theorem own_len {w : World} {B : Nat} {e : TypeId} {size n : Nat} {v : Value} {xs : List Value} (h : w.ownsRow B e size v n xs) :
    ∃ p cap, v = .slice p n cap := by
  rcases h.2 with ⟨rfl, rfl⟩ | ⟨g, cap, cur, rfl, _⟩
  · exact ⟨none, 0, rfl⟩
  · exact ⟨_, _, rfl⟩

theorem there_nil (at_ : Int) (s : ByteArray) (W : World) :
    Calls Tryd.prog 55 #[.pointer none, .int .i64 at_, .string s] W fun e w' => e = .returned (kindV 1) ∧ w' = W := by
  go_enter Tryd.func55, Tryd.ntmps55
  go_wp2_with fail
  go_ret
  exact ⟨rfl, rfl⟩

theorem there_any {B b ba bt n nA nT : Nat} {v : Value} {cells : List Value} {DA DT : DataW Value} (at_ : Int) (s : ByteArray) (hs : s.size ≤ maxLen) (W : World) (h : TabAt W B b ba bt v n cells nA nT DA DT) :
    Calls Tryd.prog 55 #[.pointer (some ⟨b, 0, none⟩), .int .i64 at_, .string s] W fun e w' => e = .returned (errV (thereK at_ n (Maps.has DA (keyL s) || symL s.data.toList))) ∧ Below W.heap.size W w' := by
  have h0 : W.cell? ⟨b, 0, none⟩ = some v := by rw [cell_of_row W b _ _ _ (0, 0) h.own]; rfl
  obtain ⟨p, cap, rfl⟩ := own_len h.row
  have cN := Lib.hid (name_any s hs W h)
  generalize (Maps.has DA (keyL s) || symL s.data.toList) = y at cN ⊢
  clear h
  have hn63 : (0 : Int) ≤ n := by omega
  by_cases h1 : at_ < 0
  · have d1 : decide (at_ < 0) = true := decide_eq_true h1
    have R := Lib.hid (show errV (thereK at_ n y) = kindV 3 by rw [thereK, if_pos (.inl h1)]; rfl)
    generalize errV (thereK at_ n y) = r at R ⊢
    go_enter Tryd.func55, Tryd.ntmps55
    go_wp2_with fail
    go_ret
    exact ⟨by rw [R.out]; rfl, Below.refl _ _⟩
  · have d1 : decide (at_ < 0) = false := decide_eq_false h1
    by_cases h2 : (n : Int) < at_
    · have d2 : decide ((n : Int) < at_) = true := decide_eq_true h2
      have R := Lib.hid (show errV (thereK at_ n y) = kindV 3 by rw [thereK, if_pos (.inr h2)]; rfl)
      generalize errV (thereK at_ n y) = r at R ⊢
      go_enter Tryd.func55, Tryd.ntmps55
      go_wp2_with fail
      go_ret
      exact ⟨by rw [R.out]; rfl, Below.refl _ _⟩
    · have d2 : decide ((n : Int) < at_) = false := decide_eq_false h2
      have hno : ¬ (at_ < 0 ∨ (n : Int) < at_) := fun h => h.elim h1 h2
      cases y
      · have R := Lib.hid (show errV (thereK at_ n false) = kindV 2 by rw [thereK, if_neg hno]; rfl)
        generalize errV (thereK at_ n false) = r at R ⊢
        clear hno
        go_enter Tryd.func55, Tryd.ntmps55
        go_wp2_with fail
        refine cN.out.mono ?_
        rintro e w' ⟨rfl, hb⟩
        go_wp2_with fail
        go_ret
        exact ⟨by rw [R.out]; rfl, hb⟩
      · have R := Lib.hid (show errV (thereK at_ n true) = .nilIface by rw [thereK, if_neg hno]; rfl)
        generalize errV (thereK at_ n true) = r at R ⊢
        clear hno
        go_enter Tryd.func55, Tryd.ntmps55
        go_wp2_with fail
        refine cN.out.mono ?_
        rintro e w' ⟨rfl, hb⟩
        go_wp2_with fail
        go_ret
        exact ⟨by rw [R.out]; rfl, hb⟩
end Go.Proofs.YthighbbikpnpgaaDoor
