/-
  Layer 7's names: when a text may be a symbol's name, in plain words; and by lex and by the reference.
-/
import Derived.Test.YtneokkhnjnomdaaDoorFU
import Derived.Lib.Bytealg
import Derived.Lib.IndexLaws
namespace Go.Proofs.YtneokkhnjnomdaaDoor
open Go.RowKit

/-- A byte that no name has. -/
def markB (c : UInt8) : Bool := decide (0 ≤ Lib.indexByte [40, 41, 34, 59, 39, 44, 96, 35] c)
def symCh (c : UInt8) : Bool := decide (33 ≤ c.toNat) && decide (c.toNat ≤ 126) && !markB c
def symL (s : List UInt8) : Bool := decide (1 ≤ s.length) && decide (s.length ≤ 60) && !(s == [46]) && !okL (bodyL s) && s.all symCh

theorem fitL_code (n : Int) : (fitL n).2 = 0 ∨ (fitL n).2 = 11 := by unfold fitL; split <;> simp

theorem digits_any (s : ByteArray) (w : World) :
    Calls Tryd.prog 63 #[.string s] w fun e w' => e = .returned (.bool (okL (bodyL s.data.toList))) ∧ Below w.heap.size w w' := by
  obtain ⟨W, rfl⟩ : ∃ W : World, W = w := ⟨w, rfl⟩
  have cP := Lib.hid (parse_any s W)
  have hp : parseL s.data.toList = parseL s.data.toList := rfl
  have hok : (okL (bodyL s.data.toList) = true ∧ ((parseL s.data.toList).2 = 0 ∨ (parseL s.data.toList).2 = 11)) ∨ (okL (bodyL s.data.toList) = false ∧ (parseL s.data.toList).2 = 6) := by
    cases h : okL (bodyL s.data.toList)
    · exact .inr ⟨rfl, by rw [parseL, h]; rfl⟩
    · exact .inl ⟨rfl, by rw [parseL, h]; exact fitL_code _⟩
  clear hp
  generalize okL (bodyL s.data.toList) = ok at hok ⊢
  generalize parseL s.data.toList = x at hok cP
  obtain ⟨n, k⟩ := x
  simp only at hok
  rw [resV] at cP
  have h3 : (ok = true ∧ k = 0) ∨ (ok = true ∧ k = 11) ∨ (ok = false ∧ k = 6) := by
    rcases hok with ⟨h, h0 | h1⟩ | ⟨h, h6⟩
    · exact .inl ⟨h, h0⟩
    · exact .inr (.inl ⟨h, h1⟩)
    · exact .inr (.inr ⟨h, h6⟩)
  clear hok
  rcases h3 with ⟨rfl, rfl⟩ | ⟨rfl, rfl⟩ | ⟨rfl, rfl⟩
  · have e0 : errV 0 = .nilIface := rfl
    rw [e0] at cP
    go_enter Tryd.func63, Tryd.ntmps63
    go_wp2_with fail
    refine cP.out.mono ?_
    rintro e w' ⟨rfl, hb⟩
    go_wp2_with fail
    go_ret
    exact ⟨rfl, hb⟩
  all_goals
    have e0 : errV 11 = kindV 11 := rfl
    have e6 : errV 6 = kindV 6 := rfl
    (try rw [e0] at cP); (try rw [e6] at cP)
    clear e0 e6
    go_enter Tryd.func63, Tryd.ntmps63
    go_wp2_with fail
    refine cP.out.mono ?_
    rintro e w' ⟨rfl, hb⟩
    go_wp2_with fail
    refine (is_kind _ _ _).mono ?_
    rintro e w'' ⟨rfl, rfl⟩
    go_wp2_with fail
    go_ret
    exact ⟨rfl, hb⟩

theorem indexbyte_any (s : ByteArray) (c : Int) (w : World) :
    Calls Tryd.prog 64 #[.string s, .int .u8 c] w fun e w' => e = .returned (.int .i64 (Lib.indexByte s.data.toList c.toNat.toUInt8)) ∧ w' = w := Tryd.strings_IndexByte s c w
end Go.Proofs.YtneokkhnjnomdaaDoor
