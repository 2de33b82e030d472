/-
  Walks of judge's small functions: the words of the kinds.
-/
import Derived.Test.YtkogfljjdgcdnaaW
import Derived.Test.YtkogfljjdgcdnaaShelf
import Derived.WalkKit
import Derived.KernelRfl
import Derived.Lib.Hide
namespace Go.Proofs.Ytkogfljjdgcdnaa
open Go.RowKit

def kindWord (k : Int) : List UInt8 :=
  if (k == 1) = true then [110, 105, 108]   -- nil
  else if (k == 2) = true then [97, 114, 103, 117, 109, 101, 110, 116]   -- argument
  else if (k == 3) = true then [114, 97, 110, 103, 101]   -- range
  else if (k == 4) = true then [109, 101, 109, 111, 114, 121]   -- memory
  else if (k == 5) = true then [101, 110, 100]   -- end
  else if (k == 6) = true then [115, 121, 110, 116, 97, 120]   -- syntax
  else if (k == 7) = true then [102, 111, 114, 109]   -- form
  else if (k == 8) = true then [117, 110, 98, 111, 117, 110, 100]   -- unbound
  else if (k == 9) = true then [116, 121, 112, 101]   -- type
  else if (k == 10) = true then [97, 114, 105, 116, 121]   -- arity
  else if (k == 11) = true then [111, 118, 101, 114, 102, 108, 111, 119]   -- overflow
  else if (k == 12) = true then [100, 105, 118, 105, 100, 101]   -- divide
  else if (k == 13) = true then [105, 110, 100, 101, 120]   -- index
  else if (k == 14) = true then [108, 111, 110, 103]   -- long
  else if (k == 15) = true then [114, 97, 105, 115, 101, 100]   -- raised
  else if (k == 16) = true then [114, 101, 116, 117, 114, 110, 101, 100]   -- returned
  else if (k == 17) = true then [115, 116, 101, 112, 115]   -- steps
  else if (k == 18) = true then [102, 117, 108, 108]   -- full
  else if (k == 19) = true then [99, 111, 100, 101]   -- code
  else if (k == 20) = true then [117, 110, 100, 101, 102, 105, 110, 101, 100]   -- undefined
  else [101, 114, 114, 111, 114]

theorem error_any (k : Int) (w : World) :
    Calls Try.prog 25 #[.int .i64 k] w fun e w' => e = .returned (.string ⟨(kindWord k).toArray⟩) ∧ w' = w := by
  go_enter Try.func25, Try.ntmps25
  go_wp2
  all_goals (go_ret; exact ⟨by simp [kindWord, *], rfl⟩)

/-- Does the text begin with the word of kind k, and go on with a colon or a blank? -/
def hit (s : List UInt8) (k : Int) : Bool :=
  Lib.hasPrefix s (kindWord k) && (match Lib.trimPrefix s (kindWord k) with | [] => false | c :: _ => c == 58 || c == 32)

/-- What told comes to from kind 21 - d on. -/
def toldF (s : List UInt8) : Nat → Int × List UInt8 × Bool
  | 0 => (0, [], false)
  | d + 1 => if hit s (20 - d) = true then (20 - d, Lib.trimPrefix s (kindWord (20 - d)), true) else toldF s d
def told (s : List UInt8) : Int × List UInt8 × Bool := toldF s 20

theorem u8beq (c : UInt8) (n : Nat) (h : n < 256 := by decide) : ((c.toNat : Int) == (n : Int)) = (c == UInt8.ofNat n) := by
  rw [Bool.eq_iff_iff, beq_iff_eq, beq_iff_eq, ← UInt8.toNat_inj]
  simp [Nat.mod_eq_of_lt h]
  omega

theorem ba_zero (c : UInt8) (r : List UInt8) (h : 0 < (⟨(c :: r).toArray⟩ : ByteArray).size) : (⟨(c :: r).toArray⟩ : ByteArray)[0]'h = c := rfl

theorem told_any (s : ByteArray) (w : World) :
    Calls Try.prog 32 #[.string s] w fun e w' => e = .returned (.tuple #[.int .i64 (told s.data.toList).1, .string ⟨(told s.data.toList).2.1.toArray⟩, .bool (told s.data.toList).2.2]) ∧ w' = w := by
  go_enter Try.func32, Try.ntmps32
  go_wp2
  go_loop [5] (fun i => ∃ d : Nat, d ≤ 20 ∧ i = .int .i64 (21 - d : Int) ∧ Hid (told s.data.toList = toldF s.data.toList d)) (fun i => (21 - intOf i).toNat)
  case atStart => exact ⟨20, by omega, by go_num, rfl⟩
  case round =>
    obtain ⟨d, hd, rfl, H⟩ := hrel
    by_cases hd0 : d = 0
    · subst hd0
      go_wp2
      go_ret3
      rw [H.out]
      exact ⟨rfl, rfl⟩
    · obtain ⟨d, rfl⟩ : ∃ m, d = m + 1 := ⟨d - 1, by omega⟩
      obtain ⟨k, hk⟩ : ∃ k : Int, k = 21 - ((d + 1 : Nat) : Int) := ⟨_, rfl⟩
      have hk' : 20 - (d : Int) = k := by omega
      rw [← hk]
      have hk1 : 1 ≤ k := by omega
      have hk2 : k ≤ 20 := by omega
      have HK := Lib.hid hk
      clear hk hd0
      go_wp2_with fail
      refine (error_any _ _).mono ?_
      rintro e w' ⟨rfl, rfl⟩
      go_wp2_with fail
      refine (Try.strings_CutPrefix _ _ _).mono ?_
      rintro e w' ⟨rfl, rfl⟩
      have H1 : Hid (toldF s.data.toList (d + 1) = if hit s.data.toList k = true then (k, Lib.trimPrefix s.data.toList (kindWord k), true) else toldF s.data.toList d) := by
        simp only [Hid, toldF, hk']
      clear hk'
      have H2 : Hid (hit s.data.toList k = (Lib.hasPrefix s.data.toList (kindWord k) && (match Lib.trimPrefix s.data.toList (kindWord k) with | [] => false | c :: _ => c == 58 || c == 32))) := rfl
      generalize hh : hit s.data.toList k = h at H1 H2
      clear hh
      generalize hp : Lib.hasPrefix s.data.toList (kindWord k) = b at *
      generalize hr : Lib.trimPrefix s.data.toList (kindWord k) = r at *
      clear hp hr
      cases b
      · go_wp2
        go_round
        case rel => exact ⟨d, by omega, by have := HK.out; go_num, by rw [Hid, H.out, H1.out, H2.out]; rfl⟩
        case measure => have := HK.out; simp [intOf]; omega
      · rcases r with _ | ⟨c, r⟩
        · go_wp2
          go_round
          case rel => exact ⟨d, by omega, by have := HK.out; go_num, by rw [Hid, H.out, H1.out, H2.out]; rfl⟩
          case measure => have := HK.out; simp [intOf]; omega
        · have eb := ba_zero c r
          have e58 := u8beq c 58
          have e32 := u8beq c 32
          by_cases h58 : c = 58
          · subst h58
            go_wp2
            go_ret3
            rw [H.out, H1.out, H2.out]
            exact ⟨rfl, rfl⟩
          · by_cases h32 : c = 32
            · subst h32
              go_wp2
              go_ret3
              rw [H.out, H1.out, H2.out]
              exact ⟨rfl, rfl⟩
            · have g58 : (c == 58) = false := by simpa using h58
              have g32 : (c == 32) = false := by simpa using h32
              have e58' : ((c.toNat : Int) == 58) = false := e58.trans g58
              have e32' : ((c.toNat : Int) == 32) = false := e32.trans g32
              have G : Hid ((c == 58) = false ∧ (c == 32) = false) := ⟨g58, g32⟩
              clear e58 e32 h58 h32 g58 g32
              go_wp2
              go_round
              case rel => exact ⟨d, by omega, by have := HK.out; go_num, by rw [Hid, H.out, H1.out, H2.out]; simp [G.out.1, G.out.2]⟩
              case measure => have := HK.out; simp [intOf]; omega
end Go.Proofs.Ytkogfljjdgcdnaa
