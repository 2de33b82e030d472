/-
  Whether a datum may be one: lists.
-/
import Derived.Test.YtneokkhnjnomdaaGreatDoorDtB
namespace Go.Proofs.YtneokkhnjnomdaaGreatDoor
open Go.RowKit Go.Proofs.YtneokkhnjnomdaaGreatDoor.PSh Go.Proofs.YtneokkhnjnomdaaGreatDoorW.PrintWords

set_option maxRecDepth 400000 in
set_option maxHeartbeats 2000000 in
theorem fits_6 (m : Int) (t : ByteArray) (l : List Dat) (p : Addr) (n : Nat) (hn : n < 64) (w : World) (A : Option Addr) (c : Nat) (hD : DatAt w p ⟨6, m, t, l⟩ A c)
    (ih : ∀ x : Dat, x ∈ l → ∀ (p : Addr) (w : World) (A : Option Addr) (c : Nat), DatAt w p x A c → Calls Tryz.prog 55 #[.pointer (some p), .int .i64 ((n : Int) + 1)] w (FitsTo (fitsD x (n + 1)) w)) :
    Calls Tryz.prog 55 #[.pointer (some p), .int .i64 (n : Nat)] w (FitsTo (fitsL l (n + 1) && (m == 0) && decide (t.toList = [])) w) := by
  have c0 := hD.c0
  have c1 := hD.c1
  have c2 := hD.c2
  have c3 := hD.c3
  have H := Lib.hid hD
  have h63 : l.length ≤ 9223372036854775807 := hD.items.2.1
  have IH := Lib.hid ih
  clear hD ih
  obtain ⟨R, hR⟩ : ∃ R : Bool, R = (fitsL l (n + 1) && (m == 0) && decide (t.toList = [])) := ⟨_, rfl⟩
  rw [← hR]
  have HR := Lib.hid hR
  clear hR
  go_enter Tryz.func55, Tryz.ntmps55
  go_wp2_with fail
  clear c0 c1 c2 c3
  go_loopw [174] (fun i wr => ∃ j : Nat, j ≤ l.length ∧ i = .int .i64 (j : Nat) ∧ Hid (DatAt wr p ⟨6, m, t, l⟩ A c) ∧ Hid (Below w.heap.size w wr) ∧ Hid (fitsL (l.drop j) (n + 1) = fitsL l (n + 1))) (fun i _ => l.length - (intOf i).toNat)
  case atStart => exact ⟨0, Nat.zero_le _, rfl, H, Lib.hid (Below.refl _ _), Lib.hid rfl⟩
  case round =>
    obtain ⟨j, hj, rfl, HD, HB, HF⟩ := hrel
    have c1 := HD.out.c1
    have c2 := HD.out.c2
    have c3 := HD.out.c3
    have HJ := Lib.hid hj
    by_cases hlt : j < l.length
    · obtain ⟨ad', rfl, A', c', hD'⟩ := dat_item HD.out.items j hlt hlt

      have HC := Lib.hid (IH.out l[j] (List.getElem_mem hlt) _ _ A' c' hD')
      have HS := Lib.hid (show (fitsD l[j] (n + 1) && fitsL (l.drop (j + 1)) (n + 1)) = fitsL l (n + 1) by rw [← HF.out, List.drop_eq_getElem_cons hlt, fitsL])
      have HLT := Lib.hid hlt
      generalize fitsD l[j] (n + 1) = y at HC HS
      clear hD'
      cases y
      · have HR2 := Lib.hid (show R = false by rw [HR.out, ← HS.out]; simp)
        go_wp2_with fail
        refine HC.out.mono ?_
        rintro e w' ⟨rfl, hb⟩
        go_wp2_with fail
        go_ret
        exact ⟨ret_bool (by rw [HR2.out]), below_trans HB.out hb⟩
      · have HS2 := Lib.hid (show fitsL (l.drop (j + 1)) (n + 1) = fitsL l (n + 1) by rw [← HS.out]; simp)
        go_wp2_with fail
        refine HC.out.mono ?_
        rintro e w' ⟨rfl, hb⟩
        have HD2 := Lib.hid (HD.out.below hb)
        have HB2 := Lib.hid (below_trans HB.out hb)
        clear c1 c2 c3 hb
        go_wp2_with fail
        go_roundw
        case rel => exact ⟨j + 1, by have := HLT.out; omega, by go_num, HD2, HB2, HS2⟩
        case measure => have := HLT.out; simp [intOf]; omega
    · obtain rfl : j = l.length := by omega
      have HT := Lib.hid (show R = ((m == 0) && decide (t.toList = [])) by rw [HR.out, ← HF.out, List.drop_length, fitsL]; simp)
      go_wp2_with fail
      all_goals
        go_ret
        exact ⟨ret_bool (by rw [HT.out]; simp [*, isE]), HB.out⟩

set_option maxRecDepth 400000 in
set_option maxHeartbeats 2000000 in
theorem fits_8 (m : Int) (t : ByteArray) (l : List Dat) (p : Addr) (n : Nat) (hn : n < 64) (w : World) (A : Option Addr) (c : Nat) (hD : DatAt w p ⟨8, m, t, l⟩ A c)
    (ih : ∀ x : Dat, x ∈ l → ∀ (p : Addr) (w : World) (A : Option Addr) (c : Nat), DatAt w p x A c → Calls Tryz.prog 55 #[.pointer (some p), .int .i64 ((n : Int) + 1)] w (FitsTo (fitsD x (n + 1)) w)) :
    Calls Tryz.prog 55 #[.pointer (some p), .int .i64 (n : Nat)] w (FitsTo (fitsL l (n + 1) && (m == 0) && decide (t.toList = [])) w) := by
  have c0 := hD.c0
  have c1 := hD.c1
  have c2 := hD.c2
  have c3 := hD.c3
  have H := Lib.hid hD
  have h63 : l.length ≤ 9223372036854775807 := hD.items.2.1
  have IH := Lib.hid ih
  clear hD ih
  obtain ⟨R, hR⟩ : ∃ R : Bool, R = (fitsL l (n + 1) && (m == 0) && decide (t.toList = [])) := ⟨_, rfl⟩
  rw [← hR]
  have HR := Lib.hid hR
  clear hR
  go_enter Tryz.func55, Tryz.ntmps55
  go_wp2_with fail
  clear c0 c1 c2 c3
  go_loopw [174] (fun i wr => ∃ j : Nat, j ≤ l.length ∧ i = .int .i64 (j : Nat) ∧ Hid (DatAt wr p ⟨8, m, t, l⟩ A c) ∧ Hid (Below w.heap.size w wr) ∧ Hid (fitsL (l.drop j) (n + 1) = fitsL l (n + 1))) (fun i _ => l.length - (intOf i).toNat)
  case atStart => exact ⟨0, Nat.zero_le _, rfl, H, Lib.hid (Below.refl _ _), Lib.hid rfl⟩
  case round =>
    obtain ⟨j, hj, rfl, HD, HB, HF⟩ := hrel
    have c1 := HD.out.c1
    have c2 := HD.out.c2
    have c3 := HD.out.c3
    have HJ := Lib.hid hj
    by_cases hlt : j < l.length
    · obtain ⟨ad', rfl, A', c', hD'⟩ := dat_item HD.out.items j hlt hlt

      have HC := Lib.hid (IH.out l[j] (List.getElem_mem hlt) _ _ A' c' hD')
      have HS := Lib.hid (show (fitsD l[j] (n + 1) && fitsL (l.drop (j + 1)) (n + 1)) = fitsL l (n + 1) by rw [← HF.out, List.drop_eq_getElem_cons hlt, fitsL])
      have HLT := Lib.hid hlt
      generalize fitsD l[j] (n + 1) = y at HC HS
      clear hD'
      cases y
      · have HR2 := Lib.hid (show R = false by rw [HR.out, ← HS.out]; simp)
        go_wp2_with fail
        refine HC.out.mono ?_
        rintro e w' ⟨rfl, hb⟩
        go_wp2_with fail
        go_ret
        exact ⟨ret_bool (by rw [HR2.out]), below_trans HB.out hb⟩
      · have HS2 := Lib.hid (show fitsL (l.drop (j + 1)) (n + 1) = fitsL l (n + 1) by rw [← HS.out]; simp)
        go_wp2_with fail
        refine HC.out.mono ?_
        rintro e w' ⟨rfl, hb⟩
        have HD2 := Lib.hid (HD.out.below hb)
        have HB2 := Lib.hid (below_trans HB.out hb)
        clear c1 c2 c3 hb
        go_wp2_with fail
        go_roundw
        case rel => exact ⟨j + 1, by have := HLT.out; omega, by go_num, HD2, HB2, HS2⟩
        case measure => have := HLT.out; simp [intOf]; omega
    · obtain rfl : j = l.length := by omega
      have HT := Lib.hid (show R = ((m == 0) && decide (t.toList = [])) by rw [HR.out, ← HF.out, List.drop_length, fitsL]; simp)
      go_wp2_with fail
      all_goals
        go_ret
        exact ⟨ret_bool (by rw [HT.out]; simp [*, isE]), HB.out⟩

set_option maxRecDepth 400000 in
set_option maxHeartbeats 2000000 in
theorem fits_7 (m : Int) (t : ByteArray) (l : List Dat) (p : Addr) (n : Nat) (hn : n < 64) (w : World) (A : Option Addr) (c : Nat) (hD : DatAt w p ⟨7, m, t, l⟩ A c) (hd : 2 ≤ l.length ∧ (lastK l == 6) = false ∧ (lastK l == 7) = false)
    (ih : ∀ x : Dat, x ∈ l → ∀ (p : Addr) (w : World) (A : Option Addr) (c : Nat), DatAt w p x A c → Calls Tryz.prog 55 #[.pointer (some p), .int .i64 ((n : Int) + 1)] w (FitsTo (fitsD x (n + 1)) w)) :
    Calls Tryz.prog 55 #[.pointer (some p), .int .i64 (n : Nat)] w (FitsTo (fitsL l (n + 1) && (m == 0) && decide (t.toList = [])) w) := by
  have hl2 : (2 : Int) ≤ l.length := by omega
  have hk6 : (lastK l == 6) = false := hd.2.1
  have hk7 : (lastK l == 7) = false := hd.2.2
  obtain ⟨ad, rfl, A1, c1', hDl⟩ := dat_item hD.items (l.length - 1) (by show l.length - 1 < l.length; omega) (by show l.length - 1 < l.length; omega)
  have hlast : (l[l.length - 1]'(by omega)).f0 = lastK l := by
    unfold lastK
    rw [List.getLast?_eq_getElem?, List.getElem?_eq_getElem (by omega)]
  have cl : w.cell? (ad.add ((l.length - 1) * 4)) = some (.int .i64 (lastK l)) := by rw [← hlast]; exact hDl.c0
  clear hDl hlast
  generalize lastK l = lk at hk6 hk7 cl
  have c0 := hD.c0
  have c1 := hD.c1
  have c2 := hD.c2
  have c3 := hD.c3
  have H := Lib.hid hD
  have h63 : l.length ≤ 9223372036854775807 := hD.items.2.1
  have IH := Lib.hid ih
  clear hD ih hd
  obtain ⟨R, hR⟩ : ∃ R : Bool, R = (fitsL l (n + 1) && (m == 0) && decide (t.toList = [])) := ⟨_, rfl⟩
  rw [← hR]
  have HR := Lib.hid hR
  clear hR
  go_enter Tryz.func55, Tryz.ntmps55
  go_wp2_with fail
  clear c0 c1 c2 c3
  go_loopw [174] (fun i wr => ∃ j : Nat, j ≤ l.length ∧ i = .int .i64 (j : Nat) ∧ Hid (DatAt wr p ⟨7, m, t, l⟩ (some ad) c) ∧ Hid (Below w.heap.size w wr) ∧ Hid (fitsL (l.drop j) (n + 1) = fitsL l (n + 1))) (fun i _ => l.length - (intOf i).toNat)
  case atStart => exact ⟨0, Nat.zero_le _, rfl, H, Lib.hid (Below.refl _ _), Lib.hid rfl⟩
  case round =>
    obtain ⟨j, hj, rfl, HD, HB, HF⟩ := hrel
    have c1 := HD.out.c1
    have c2 := HD.out.c2
    have c3 := HD.out.c3
    have HJ := Lib.hid hj
    by_cases hlt : j < l.length
    · obtain ⟨ad', e, A', c', hD'⟩ := dat_item HD.out.items j hlt hlt
      cases e
      have HC := Lib.hid (IH.out l[j] (List.getElem_mem hlt) _ _ A' c' hD')
      have HS := Lib.hid (show (fitsD l[j] (n + 1) && fitsL (l.drop (j + 1)) (n + 1)) = fitsL l (n + 1) by rw [← HF.out, List.drop_eq_getElem_cons hlt, fitsL])
      have HLT := Lib.hid hlt
      generalize fitsD l[j] (n + 1) = y at HC HS
      clear hD'
      cases y
      · have HR2 := Lib.hid (show R = false by rw [HR.out, ← HS.out]; simp)
        go_wp2_with fail
        refine HC.out.mono ?_
        rintro e w' ⟨rfl, hb⟩
        go_wp2_with fail
        go_ret
        exact ⟨ret_bool (by rw [HR2.out]), below_trans HB.out hb⟩
      · have HS2 := Lib.hid (show fitsL (l.drop (j + 1)) (n + 1) = fitsL l (n + 1) by rw [← HS.out]; simp)
        go_wp2_with fail
        refine HC.out.mono ?_
        rintro e w' ⟨rfl, hb⟩
        have HD2 := Lib.hid (HD.out.below hb)
        have HB2 := Lib.hid (below_trans HB.out hb)
        clear c1 c2 c3 hb
        go_wp2_with fail
        go_roundw
        case rel => exact ⟨j + 1, by have := HLT.out; omega, by go_num, HD2, HB2, HS2⟩
        case measure => have := HLT.out; simp [intOf]; omega
    · obtain rfl : j = l.length := by omega
      have HT := Lib.hid (show R = ((m == 0) && decide (t.toList = [])) by rw [HR.out, ← HF.out, List.drop_length, fitsL]; simp)
      go_wp2_with fail
      all_goals
        go_ret
        exact ⟨ret_bool (by rw [HT.out]; simp [*, isE]), HB.out⟩

end Go.Proofs.YtneokkhnjnomdaaGreatDoor
