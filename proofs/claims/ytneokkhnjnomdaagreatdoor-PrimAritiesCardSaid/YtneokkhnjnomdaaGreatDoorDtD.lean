/-
  Whether a datum may be one: all together; read.Check.
-/
import Derived.Test.YtneokkhnjnomdaaGreatDoorDtC
namespace Go.Proofs.YtneokkhnjnomdaaGreatDoor
open Go.RowKit Go.Proofs.YtneokkhnjnomdaaGreatDoor.PSh Go.Proofs.YtneokkhnjnomdaaGreatDoorW.PrintWords

set_option maxRecDepth 400000 in
set_option maxHeartbeats 2000000 in
theorem fits_7_short (m : Int) (t : ByteArray) (l : List Dat) (p : Addr) (n : Nat) (hn : n < 64) (w : World) (A : Option Addr) (c : Nat) (hD : DatAt w p ⟨7, m, t, l⟩ A c) (hd : l.length < 2) :
    Calls Tryz.prog 55 #[.pointer (some p), .int .i64 (n : Nat)] w (FitsTo false w) := by
  have c0 := hD.c0
  have c3 := hD.c3
  have h2 : (l.length : Int) < 2 := by omega
  clear hD
  go_enter Tryz.func55, Tryz.ntmps55
  go_wp2_with fail
  go_ret
  exact ⟨rfl, Below.refl _ _⟩

set_option maxRecDepth 400000 in
set_option maxHeartbeats 2000000 in
theorem fits_7_last (m : Int) (t : ByteArray) (l : List Dat) (p : Addr) (n : Nat) (hn : n < 64) (w : World) (A : Option Addr) (c : Nat) (hD : DatAt w p ⟨7, m, t, l⟩ A c) (hd : 2 ≤ l.length) (hk : lastK l = 6 ∨ lastK l = 7) :
    Calls Tryz.prog 55 #[.pointer (some p), .int .i64 (n : Nat)] w (FitsTo false w) := by
  have h2 : (2 : Int) ≤ l.length := by omega
  obtain ⟨ad, rfl, A1, c1', hDl⟩ := dat_item hD.items (l.length - 1) (by show l.length - 1 < l.length; omega) (by show l.length - 1 < l.length; omega)
  have hlast : (l[l.length - 1]'(by omega)).f0 = lastK l := by
    unfold lastK
    rw [List.getLast?_eq_getElem?, List.getElem?_eq_getElem (by omega)]
  have cl : w.cell? (ad.add ((l.length - 1) * 4)) = some (.int .i64 (lastK l)) := by rw [← hlast]; exact hDl.c0
  clear hDl hlast
  generalize lastK l = lk at hk cl
  have c0 := hD.c0
  have c3 := hD.c3
  have h63 : l.length ≤ 9223372036854775807 := hD.items.2.1
  clear hD
  rcases hk with rfl | rfl
  all_goals
    go_enter Tryz.func55, Tryz.ntmps55
    go_wp2_with fail
    go_ret
    exact ⟨rfl, Below.refl _ _⟩

theorem fits_any (M : Nat) : ∀ x : Dat, szD x < M → ∀ (p : Addr) (n : Nat) (w : World) (A : Option Addr) (c : Nat), DatAt w p x A c →
    Calls Tryz.prog 55 #[.pointer (some p), .int .i64 (n : Nat)] w (FitsTo (fitsD x n) w) := by
  induction M with
  | zero => intro x h; omega
  | succ M ih =>
    intro x hx p n w A c hD
    have hx' : ∀ y ∈ x.f3, szD y < M := fun y hy => by have := dat_lt hy; omega
    obtain ⟨k, m, t, l⟩ := x
    rw [fitsD]
    by_cases hn : 64 ≤ n
    · rw [decide_eq_true hn]
      exact fits_deep p n (by omega) w
    · rw [decide_eq_false hn, Bool.not_false, Bool.true_and]
      have ih' : ∀ x : Dat, x ∈ l → ∀ (p : Addr) (w : World) (A : Option Addr) (c : Nat), DatAt w p x A c → Calls Tryz.prog 55 #[.pointer (some p), .int .i64 ((n : Int) + 1)] w (FitsTo (fitsD x (n + 1)) w) :=
        fun y hy q w' A' c' hD' => by have := ih y (hx' y hy) q (n + 1) w' A' c' hD'; rwa [Int.natCast_add] at this
      by_cases k1 : k = 1
      · subst k1; rw [if_pos rfl]; exact fits_1 m t l p n (by omega) w A c hD
      rw [if_neg k1]
      by_cases k2 : k = 2
      · subst k2; rw [if_pos rfl]; exact fits_2 m t l p n (by omega) w A c hD
      rw [if_neg k2]
      by_cases k3 : k = 3
      · subst k3; rw [if_pos rfl]; exact fits_3 m t l p n (by omega) w A c hD
      rw [if_neg k3]
      by_cases k4 : k = 4
      · subst k4; rw [if_pos rfl]; exact fits_4 m t l p n (by omega) w A c hD
      rw [if_neg k4]
      by_cases k5 : k = 5
      · subst k5; rw [if_pos rfl]; exact fits_5 m t l p n (by omega) w A c hD
      rw [if_neg k5]
      by_cases k7 : k = 7
      · subst k7
        rw [if_pos rfl]
        by_cases h2 : 2 ≤ l.length
        · by_cases h6 : lastK l = 6
          · rw [h6]
            simp only [decide_eq_true h2, beq_self_eq_true, Bool.not_true, Bool.and_false, Bool.false_and]
            exact fits_7_last m t l p n (by omega) w A c hD h2 (.inl h6)
          · by_cases h7 : lastK l = 7
            · rw [h7]
              simp only [beq_self_eq_true, Bool.not_true, Bool.and_false, Bool.false_and]
              exact fits_7_last m t l p n (by omega) w A c hD h2 (.inr h7)
            · have b6 : (lastK l == 6) = false := by simpa using h6
              have b7 : (lastK l == 7) = false := by simpa using h7
              rw [decide_eq_true h2, b6, b7]
              simp only [Bool.not_false, Bool.and_self, Bool.true_and]
              exact fits_7 m t l p n (by omega) w A c hD ⟨h2, b6, b7⟩ ih'
        · rw [decide_eq_false h2]
          simp only [Bool.false_and]
          exact fits_7_short m t l p n (by omega) w A c hD (by omega)
      rw [if_neg k7]
      by_cases k6 : k = 6
      · subst k6; rw [if_pos (.inl rfl)]; exact fits_6 m t l p n (by omega) w A c hD ih'
      by_cases k8 : k = 8
      · subst k8; rw [if_pos (.inr rfl)]; exact fits_8 m t l p n (by omega) w A c hD ih'
      rw [if_neg (by rintro (h | h); exact k6 h; exact k8 h)]
      exact fits_none k ⟨k1, k2, k3, k4, k5, k6, k7, k8⟩ m t l p n (by omega) w A c hD

/-- May it be a datum? -/
def rightD (x : Dat) : Bool := decide (cnt x 0 ≤ 4000) && fitsD x 0
def CheckTo (b : Bool) (w : World) (e : Ending) (w' : World) : Prop := e = .returned (if b = true then .nilIface else kindV 7) ∧ Below w.heap.size w w'

set_option maxRecDepth 16000 in
set_option maxHeartbeats 1000000 in
theorem check_any (x : Dat) (A : Option Addr) (c : Nat) (w : World) (hl : x.f3.length ≤ c) (hC : Kd.C kD w A x.f3.length x.f3) :
    Calls Tryz.prog 27 #[.agg #[.int .i64 x.f0, .int .i64 x.f1, .string x.f2, .slice A x.f3.length c]] w (CheckTo (rightD x) w) := by
  obtain ⟨W1, hW1⟩ : ∃ W1, W1 = w.alloc (.cells #[.int .i64 x.f0, .int .i64 x.f1, .string x.f2, .slice A x.f3.length c] 26) := ⟨_, rfl⟩
  have hbox := fun (w' : World) (hb : Below W1.heap.size W1 w') => dat_box w x A c hl hC w' (by rw [← hW1]; exact hb)
  have HBX := Lib.hid hbox
  have hb1 : Below w.heap.size w W1 := by rw [hW1]; exact (Below.refl _ _).alloc (Nat.le_refl _) _
  have cP := Lib.hid (fun w' hb => parts_any x A c w' hl (Kd.C_below hC hb))
  have cF := Lib.hid (fun p w' hD => fits_any (szD x + 1) x (by omega) p 0 w' A c hD)
  obtain ⟨R, hR⟩ : ∃ R : Bool, R = rightD x := ⟨_, rfl⟩
  rw [← hR]
  rw [rightD] at hR
  generalize cnt x 0 = q at cP hR
  generalize fitsD x 0 = y at cF hR
  have HR := Lib.hid hR
  have d := hbox W1 (Below.refl _ _)
  have c0 := d.c0
  have c1 := d.c1
  have c2 := d.c2
  have c3 := d.c3
  simp only [Nat.zero_add] at c1 c2 c3
  clear hR hbox hC d
  rw [hW1] at c0 c1 c2 c3
  have HW := Lib.hid hW1
  have hq : (4000 : Int) < q ∨ ¬ (4000 : Int) < q := by omega
  rcases hq with h4 | h4
  · have HR2 := Lib.hid (show R = false by rw [HR.out, decide_eq_false (by omega)]; rfl)
    go_enter Tryz.func27, Tryz.ntmps27
    go_wp2_with fail
    refine (cP.out _ (by rw [← HW.out]; exact hb1)).mono ?_
    rintro e w2 ⟨rfl, hb2⟩
    rw [← HW.out] at hb2
    go_wp2_with fail
    go_ret
    exact ⟨by rw [HR2.out]; rfl, below_trans hb1 hb2⟩
  · have h4' : decide ((4000 : Int) < q) = false := decide_eq_false h4
    have HR2 := Lib.hid (show R = y by rw [HR.out, decide_eq_true (by omega)]; rfl)
    clear h4
    cases y
    all_goals
      go_enter Tryz.func27, Tryz.ntmps27
      go_wp2_with fail
      refine (cP.out _ (by rw [← HW.out]; exact hb1)).mono ?_
      rintro e w2 ⟨rfl, hb2⟩
      rw [← HW.out] at hb2
      go_wp2_with fail
      refine (cF.out _ _ (HBX.out _ hb2)).mono ?_
      rintro e w3 ⟨rfl, hb3⟩
      go_wp2_with fail
      go_ret
      exact ⟨by rw [HR2.out]; rfl, below_trans hb1 (below_trans hb2 hb3)⟩
end Go.Proofs.YtneokkhnjnomdaaGreatDoor
