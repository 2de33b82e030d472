/-
  Whether a datum may be one (read.fits, read.Check).
-/
import Derived.Test.YtneokkhnjnomdaaGreatDoorDtA
import Derived.Test.YtneokkhnjnomdaaGreatDoorGB2
namespace Go.Proofs.YtneokkhnjnomdaaGreatDoor
open Go.RowKit Go.Proofs.YtneokkhnjnomdaaGreatDoor.PSh Go.Proofs.YtneokkhnjnomdaaGreatDoorW.PrintWords

def lastK (l : List Dat) : Int := match l.getLast? with | some x => x.f0 | none => 0
mutual
/-- May a datum stand within so many? -/
def fitsD : Dat → Nat → Bool
  | ⟨k, n, t, l⟩, wi => !decide (64 ≤ wi) && (
    if k = 1 then decide (l = []) && decide (t.toList = []) && decide (n ≤ 1152921504606846975) && decide (-1152921504606846976 ≤ n)
    else if k = 2 then decide (l = []) && decide (t.toList = []) && (n == 0 || n == 1)
    else if k = 3 then decide (l = []) && decide (t.toList = []) && (decide (0 ≤ n) && decide (n ≤ 255))
    else if k = 4 then decide (l = []) && (n == 0) && decide (t.size ≤ 500)
    else if k = 5 then decide (l = []) && (n == 0) && symL t.data.toList
    else if k = 7 then decide (2 ≤ l.length) && !(lastK l == 6) && !(lastK l == 7) && fitsL l (wi + 1) && (n == 0) && decide (t.toList = [])
    else if k = 6 ∨ k = 8 then fitsL l (wi + 1) && (n == 0) && decide (t.toList = [])
    else false)
def fitsL : List Dat → Nat → Bool
  | [], _ => true
  | x :: r, wi => fitsD x wi && fitsL r wi
end

def FitsTo (b : Bool) (w : World) (e : Ending) (w' : World) : Prop := e = .returned (.bool b) ∧ Below w.heap.size w w'

theorem half_zero (m : Int) : (m / 2 == 0) = (m == 0 || m == 1) := by rw [Bool.eq_iff_iff]; simp; omega
theorem byte_zero (m : Int) : (m / 256 == 0) = (decide (0 ≤ m) && decide (m ≤ 255)) := by rw [Bool.eq_iff_iff]; simp; omega
theorem ret_bool {a b : Bool} (h : a = b) : Ending.returned (.bool a) = .returned (.bool b) := by rw [h]

set_option maxRecDepth 400000 in
set_option maxHeartbeats 1000000 in
theorem fits_deep (p : Addr) (n : Int) (hn : 64 ≤ n) (w : World) :
    Calls Tryz.prog 55 #[.pointer (some p), .int .i64 n] w (FitsTo false w) := by
  go_enter Tryz.func55, Tryz.ntmps55
  go_wp2_with fail
  go_ret
  exact ⟨rfl, Below.refl _ _⟩

set_option maxRecDepth 400000 in
set_option maxHeartbeats 1000000 in
theorem fits_1 (m : Int) (t : ByteArray) (l : List Dat) (p : Addr) (n : Int) (hn : ¬ 64 ≤ n) (w : World) (A : Option Addr) (c : Nat) (hD : DatAt w p ⟨1, m, t, l⟩ A c) :
    Calls Tryz.prog 55 #[.pointer (some p), .int .i64 n] w (FitsTo (decide (l = []) && decide (t.toList = []) && decide (m ≤ 1152921504606846975) && decide (-1152921504606846976 ≤ m)) w) := by
  have c0 := hD.c0
  have c1 := hD.c1
  have c2 := hD.c2
  have c3 := hD.c3
  clear hD
  obtain ⟨R, hR⟩ : ∃ R : Bool, R = (decide (l = []) && decide (t.toList = []) && decide (m ≤ 1152921504606846975) && decide (-1152921504606846976 ≤ m)) := ⟨_, rfl⟩
  rw [← hR]
  have HR := Lib.hid hR
  clear hR
  go_enter Tryz.func55, Tryz.ntmps55
  go_wp2_with fail
  all_goals
    go_ret
    exact ⟨ret_bool (by rw [HR.out]; simp [*] <;> omega), Below.refl _ _⟩

set_option maxRecDepth 400000 in
set_option maxHeartbeats 1000000 in
theorem fits_2 (m : Int) (t : ByteArray) (l : List Dat) (p : Addr) (n : Int) (hn : ¬ 64 ≤ n) (w : World) (A : Option Addr) (c : Nat) (hD : DatAt w p ⟨2, m, t, l⟩ A c) :
    Calls Tryz.prog 55 #[.pointer (some p), .int .i64 n] w (FitsTo (decide (l = []) && decide (t.toList = []) && (m == 0 || m == 1)) w) := by
  have c0 := hD.c0
  have c1 := hD.c1
  have c2 := hD.c2
  have c3 := hD.c3
  clear hD
  obtain ⟨R, hR⟩ : ∃ R : Bool, R = (decide (l = []) && decide (t.toList = []) && (m == 0 || m == 1)) := ⟨_, rfl⟩
  rw [← hR]
  have HR := Lib.hid hR
  clear hR
  go_enter Tryz.func55, Tryz.ntmps55
  go_wp2_with fail
  all_goals
    go_ret
    exact ⟨ret_bool (by rw [HR.out]; simp [*, half_zero]), Below.refl _ _⟩

set_option maxRecDepth 400000 in
set_option maxHeartbeats 1000000 in
theorem fits_3 (m : Int) (t : ByteArray) (l : List Dat) (p : Addr) (n : Int) (hn : ¬ 64 ≤ n) (w : World) (A : Option Addr) (c : Nat) (hD : DatAt w p ⟨3, m, t, l⟩ A c) :
    Calls Tryz.prog 55 #[.pointer (some p), .int .i64 n] w (FitsTo (decide (l = []) && decide (t.toList = []) && (decide (0 ≤ m) && decide (m ≤ 255))) w) := by
  have c0 := hD.c0
  have c1 := hD.c1
  have c2 := hD.c2
  have c3 := hD.c3
  clear hD
  obtain ⟨R, hR⟩ : ∃ R : Bool, R = (decide (l = []) && decide (t.toList = []) && (decide (0 ≤ m) && decide (m ≤ 255))) := ⟨_, rfl⟩
  rw [← hR]
  have HR := Lib.hid hR
  clear hR
  go_enter Tryz.func55, Tryz.ntmps55
  go_wp2_with fail
  all_goals
    go_ret
    exact ⟨ret_bool (by rw [HR.out]; simp [*, byte_zero]), Below.refl _ _⟩

set_option maxRecDepth 400000 in
set_option maxHeartbeats 1000000 in
theorem fits_4 (m : Int) (t : ByteArray) (l : List Dat) (p : Addr) (n : Int) (hn : ¬ 64 ≤ n) (w : World) (A : Option Addr) (c : Nat) (hD : DatAt w p ⟨4, m, t, l⟩ A c) :
    Calls Tryz.prog 55 #[.pointer (some p), .int .i64 n] w (FitsTo (decide (l = []) && (m == 0) && decide (t.size ≤ 500)) w) := by
  have c0 := hD.c0
  have c1 := hD.c1
  have c2 := hD.c2
  have c3 := hD.c3
  clear hD
  obtain ⟨R, hR⟩ : ∃ R : Bool, R = (decide (l = []) && (m == 0) && decide (t.size ≤ 500)) := ⟨_, rfl⟩
  rw [← hR]
  have HR := Lib.hid hR
  clear hR
  go_enter Tryz.func55, Tryz.ntmps55
  go_wp2_with fail
  all_goals
    go_ret
    exact ⟨ret_bool (by rw [HR.out]; simp [*] <;> omega), Below.refl _ _⟩

set_option maxRecDepth 400000 in
set_option maxHeartbeats 1000000 in
theorem fits_5 (m : Int) (t : ByteArray) (l : List Dat) (p : Addr) (n : Int) (hn : ¬ 64 ≤ n) (w : World) (A : Option Addr) (c : Nat) (hD : DatAt w p ⟨5, m, t, l⟩ A c) :
    Calls Tryz.prog 55 #[.pointer (some p), .int .i64 n] w (FitsTo (decide (l = []) && (m == 0) && symL t.data.toList) w) := by
  have c0 := hD.c0
  have c1 := hD.c1
  have c2 := hD.c2
  have c3 := hD.c3
  clear hD
  have cS := Lib.hid (symbol_any t w)
  obtain ⟨R, hR⟩ : ∃ R : Bool, R = (decide (l = []) && (m == 0) && symL t.data.toList) := ⟨_, rfl⟩
  rw [← hR]
  generalize symL t.data.toList = y at cS hR
  have HR := Lib.hid hR
  clear hR
  by_cases h1 : l = []
  · by_cases h2 : m = 0
    · subst h1 h2
      go_enter Tryz.func55, Tryz.ntmps55
      go_wp2_with fail
      refine cS.out.mono ?_
      rintro e w' ⟨rfl, hb⟩
      go_wp2_with fail
      go_ret
      exact ⟨ret_bool (by rw [HR.out]; simp), hb⟩
    · have h2' : (m == 0) = false := by simpa using h2
      have HR2 := Lib.hid (show R = false by rw [HR.out, h2']; simp)
      subst h1
      clear h2
      go_enter Tryz.func55, Tryz.ntmps55
      go_wp2_with fail
      go_ret
      exact ⟨ret_bool (by rw [HR2.out]), Below.refl _ _⟩
  · have HR2 := Lib.hid (show R = false by rw [HR.out]; simp [h1])
    have hl : ((l.length : Int) == 0) = false := by rw [beq_eq_false_iff_ne]; intro e; apply h1; exact List.length_eq_zero_iff.1 (by omega)
    go_enter Tryz.func55, Tryz.ntmps55
    go_wp2_with fail
    go_ret
    exact ⟨ret_bool (by rw [HR2.out]), Below.refl _ _⟩

set_option maxRecDepth 400000 in
set_option maxHeartbeats 1000000 in
theorem fits_none (k : Int) (hk : k ≠ 1 ∧ k ≠ 2 ∧ k ≠ 3 ∧ k ≠ 4 ∧ k ≠ 5 ∧ k ≠ 6 ∧ k ≠ 7 ∧ k ≠ 8) (m : Int) (t : ByteArray) (l : List Dat) (p : Addr) (n : Int) (hn : ¬ 64 ≤ n) (w : World) (A : Option Addr) (c : Nat) (hD : DatAt w p ⟨k, m, t, l⟩ A c) :
    Calls Tryz.prog 55 #[.pointer (some p), .int .i64 n] w (FitsTo false w) := by
  have c0 : w.cell? p = some (.int .i64 k) := hD.c0
  clear hD
  obtain ⟨k1, k2, k3, k4, k5, k6, k7, k8⟩ := hk
  have b1 : (k == 1) = false := by simpa using k1
  have b2 : (k == 2) = false := by simpa using k2
  have b3 : (k == 3) = false := by simpa using k3
  have b4 : (k == 4) = false := by simpa using k4
  have b5 : (k == 5) = false := by simpa using k5
  have b6 : (k == 6) = false := by simpa using k6
  have b7 : (k == 7) = false := by simpa using k7
  have b8 : (k == 8) = false := by simpa using k8
  clear k1 k2 k3 k4 k5 k6 k7 k8
  go_enter Tryz.func55, Tryz.ntmps55
  go_wp2_with fail
  go_ret
  exact ⟨rfl, Below.refl _ _⟩
theorem isE (l : List UInt8) : l.isEmpty = decide (l = []) := by cases l <;> simp
end Go.Proofs.YtneokkhnjnomdaaGreatDoor
