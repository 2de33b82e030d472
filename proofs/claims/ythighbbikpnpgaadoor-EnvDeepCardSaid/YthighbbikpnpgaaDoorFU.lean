/-
  Walk: a number's text by the reference.
-/
import Derived.Test.YthighbbikpnpgaaDoorFT
import Derived.Laws.IdiomStrings
namespace Go.Proofs.YthighbbikpnpgaaDoor
open Go.RowKit

theorem dec_small {u : Nat} (h : u < 10) : Lib.decDigits u = [UInt8.ofNat (48 + u)] := by rw [Lib.decDigits, dif_pos h]
theorem dec_big {u : Nat} (h : ¬ u < 10) : Lib.decDigits u = Lib.decDigits (u / 10) ++ [UInt8.ofNat (48 + u % 10)] := by rw [Lib.decDigits, dif_neg h]

/-- A string of one byte, out of the newest block. -/
theorem one_string (w : World) (c : Int) (h0 : 0 ≤ c) (h1 : c < 256) :
    (convert 76 9 (.slice (some ⟨w.heap.size, 0, none⟩) 1 1)).run Tryd.prog (w.alloc (.cells #[.int .u8 c] 5)) = .ok (.string ⟨#[UInt8.ofNat c.toNat]⟩) (w.alloc (.cells #[.int .u8 c] 5)) := by
  have hc : ((UInt8.ofNat c.toNat).toNat : Int) = c := by
    simp [UInt8.toNat_ofNat']
    omega
  refine run_convert_bytes_back (w.alloc (.cells #[.int .u8 c] 5)) 76 9 5 ⟨w.heap.size, 0, none⟩ 1 [UInt8.ofNat c.toNat] Tryd.underlying76 Tryd.underlying5 Tryd.underlying9 ?_
  intro j hj
  obtain rfl : j = 0 := by simpa using hj
  rw [news_new w [.int .u8 c] 5 w.heap.size rfl 0 (.int .u8 c) rfl]
  simp only [List.getElem_cons_zero, hc]

theorem mk_cons (c : UInt8) (t : List UInt8) : (⟨#[c]⟩ : ByteArray) ++ ⟨t.toArray⟩ = ⟨(c :: t).toArray⟩ := by
  apply ByteArray.ext
  rw [ByteArray.data_append]
  simp

set_option maxRecDepth 16000 in
theorem reftext_any (n : Int) (w : World) (h0 : -9223372036854775808 ≤ n) (h1 : n ≤ 9223372036854775807) :
    Calls Tryd.prog 39 #[.int .i64 n] w fun e w' => e = .returned (.string ⟨(Lib.itoa n).toArray⟩) ∧ Below w.heap.size w w' := by
  obtain ⟨W, rfl⟩ : ∃ W : World, W = w := ⟨w, rfl⟩
  have hlen := Lib.itoa_length_le n h0 h1
  have HI : Hid (Lib.itoa n = if n < 0 then 45 :: Lib.decDigits n.natAbs else Lib.decDigits n.toNat) := rfl
  by_cases hn : n < 0
  · obtain ⟨u, hu⟩ : ∃ u : Nat, u = n.natAbs := ⟨_, rfl⟩
    have wn : IntKind.u64.wrap (-IntKind.u64.wrap n) = (u : Int) := by rw [u64w, u64w]; omega
    have hd : (Lib.decDigits u).length ≤ 20 := by
      have := HI.out
      rw [if_pos hn, ← hu] at this
      rw [this] at hlen
      simp at hlen
      omega
    have HI2 : Hid (Lib.itoa n = 45 :: Lib.decDigits u) := by rw [Hid, HI.out, if_pos hn, ← hu]
    have hu' : u ≤ 9223372036854775808 := by omega
    clear hu
    go_enter Tryd.func39, Tryd.ntmps39
    go_wp2_with fail
    go_loopw [3, 4] (fun x s wr => ∃ (y : Nat) (t : List UInt8), x = .int .u64 y ∧ s = .string ⟨t.toArray⟩ ∧ y ≤ 9223372036854775808 ∧ Below W.heap.size W wr ∧ Hid (Lib.decDigits u = Lib.decDigits y ++ t)) (fun x _ _ => (intOf x).toNat)
    case atStart => exact ⟨u, [], rfl, rfl, by omega, Below.refl _ _, by simp [Hid]⟩
    case round =>
      obtain ⟨y, t, rfl, rfl, hy, hb, H⟩ := hrel
      have ht : t.length ≤ 21 := by
        have := congrArg List.length H.out
        rw [List.length_append] at this
        omega
      have hcs := one_string wr (48 + (y : Int) % 10) (by omega) (by omega)
      have hcn : (48 + (y : Int) % 10).toNat = 48 + y % 10 := by omega
      rw [hcn] at hcs
      have hbs := hb.size
      have HAP : Hid (({ data := #[48 + UInt8.ofNat (y % 10)] } : ByteArray) ++ { data := t.toArray } = ⟨(UInt8.ofNat (48 + y % 10) :: t).toArray⟩) := by
        rw [Hid, ← mk_cons, UInt8.ofNat_add]; rfl
      by_cases hy10 : y < 10
      · have HD := Lib.hid (show Lib.decDigits u = UInt8.ofNat (48 + y % 10) :: t by rw [H.out, dec_small hy10, Nat.mod_eq_of_lt hy10]; rfl)
        have hq : (y : Int) / 10 = 0 := by omega
        go_wp2_with fail
        go_ret
        exact ⟨by rw [HI2.out, HD.out, ← mk_cons 45 (_ :: _), ← HAP.out]; rfl, hb.alloc hbs _⟩
      · have HD : Hid (Lib.decDigits u = Lib.decDigits (y / 10) ++ (UInt8.ofNat (48 + y % 10) :: t)) := by rw [Hid, H.out, dec_big hy10]; simp
        have hq : ((y : Int) / 10 == 0) = false := by simp; omega
        go_wp2_with fail
        go_roundw
        case rel => exact ⟨y / 10, _, by go_num, by rw [HAP.out], by omega, hb.alloc hbs _, HD⟩
        case measure => simp [intOf]; omega
  · obtain ⟨u, hu⟩ : ∃ u : Nat, n = u := ⟨n.toNat, by omega⟩
    subst hu
    have hd : (Lib.decDigits u).length ≤ 21 := by
      have := HI.out
      rw [if_neg hn, Int.toNat_natCast] at this
      rw [this] at hlen
      exact hlen
    have HI2 : Hid (Lib.itoa u = Lib.decDigits u) := by rw [Hid, HI.out, if_neg hn, Int.toNat_natCast]
    go_enter Tryd.func39, Tryd.ntmps39
    go_wp2_with fail
    go_loopw [3, 4] (fun x s wr => ∃ (y : Nat) (t : List UInt8), x = .int .u64 y ∧ s = .string ⟨t.toArray⟩ ∧ y ≤ 9223372036854775808 ∧ Below W.heap.size W wr ∧ Hid (Lib.decDigits u = Lib.decDigits y ++ t)) (fun x _ _ => (intOf x).toNat)
    case atStart => exact ⟨u, [], rfl, rfl, by omega, Below.refl _ _, by simp [Hid]⟩
    case round =>
      obtain ⟨y, t, rfl, rfl, hy, hb, H⟩ := hrel
      have ht : t.length ≤ 21 := by
        have := congrArg List.length H.out
        rw [List.length_append] at this
        omega
      have hcs := one_string wr (48 + (y : Int) % 10) (by omega) (by omega)
      have hcn : (48 + (y : Int) % 10).toNat = 48 + y % 10 := by omega
      rw [hcn] at hcs
      have hbs := hb.size
      have HAP : Hid (({ data := #[48 + UInt8.ofNat (y % 10)] } : ByteArray) ++ { data := t.toArray } = ⟨(UInt8.ofNat (48 + y % 10) :: t).toArray⟩) := by
        rw [Hid, ← mk_cons, UInt8.ofNat_add]; rfl
      by_cases hy10 : y < 10
      · have HD := Lib.hid (show Lib.decDigits u = UInt8.ofNat (48 + y % 10) :: t by rw [H.out, dec_small hy10, Nat.mod_eq_of_lt hy10]; rfl)
        have hq : (y : Int) / 10 = 0 := by omega
        go_wp2_with fail
        go_ret
        exact ⟨by rw [HI2.out, HD.out, ← HAP.out]; rfl, hb.alloc hbs _⟩
      · have HD : Hid (Lib.decDigits u = Lib.decDigits (y / 10) ++ (UInt8.ofNat (48 + y % 10) :: t)) := by rw [Hid, H.out, dec_big hy10]; simp
        have hq : ((y : Int) / 10 == 0) = false := by simp; omega
        go_wp2_with fail
        go_roundw
        case rel => exact ⟨y / 10, _, by go_num, by rw [HAP.out], by omega, hb.alloc hbs _, HD⟩
        case measure => simp [intOf]; omega
end Go.Proofs.YthighbbikpnpgaaDoor
