/-
  Walks: lex.Symbol and the reference's Symbol.
-/
import Derived.Test.YtneokkhnjnomdaaDoorLxA
namespace Go.Proofs.YtneokkhnjnomdaaDoor
open Go.RowKit

/-- The newest block's bytes, one by one. -/
theorem bytes_at (W : World) (s : ByteArray) (j : Nat) (hj : j < s.data.toList.length) : (Lib.bytesWorld W 5 s).cell? ⟨W.heap.size, j, none⟩ = some (.int .u8 (s.data.toList[j].toNat : Int)) := by
  rw [Lib.bytesWorld_cell W 5 s j (by simpa using hj)]
  simp [List.getD, List.getElem?_eq_getElem hj]

theorem sym_short (s : ByteArray) (h : s.data.toList = []) (W : World) :
    Calls Tryd.prog 50 #[.string s] W fun e w' => e = .returned (.bool false) ∧ Below W.heap.size W w' := by
  obtain rfl : s = ⟨#[]⟩ := by apply ByteArray.ext; simpa using h
  go_enter Tryd.func50, Tryd.ntmps50
  go_wp2_with fail
  go_ret
  exact ⟨rfl, Below.refl _ _⟩

theorem sym_dot (W : World) :
    Calls Tryd.prog 50 #[.string ⟨#[46]⟩] W fun e w' => e = .returned (.bool false) ∧ Below W.heap.size W w' := by
  go_enter Tryd.func50, Tryd.ntmps50
  go_wp2_with fail
  go_ret
  exact ⟨rfl, Below.refl _ _⟩

set_option maxRecDepth 16000 in
theorem sym_long (s : ByteArray) (h : 60 < s.data.toList.length) (W : World) :
    Calls Tryd.prog 50 #[.string s] W fun e w' => e = .returned (.bool false) ∧ Below W.heap.size W w' := by
  have h0 : ¬ s.toList = [] := by
    rw [ByteArray.toList_eq]
    intro e
    rw [e] at h
    simp at h
  have h2 : s.size = s.data.toList.length := by simp
  have h1 : (60 : Int) < s.size := by omega
  clear h h2
  go_enter Tryd.func50, Tryd.ntmps50
  go_wp2_with fail
  go_ret
  exact ⟨rfl, Below.refl _ _⟩

set_option maxRecDepth 16000 in
theorem sym_digits (s : ByteArray) (h0 : s.data.toList ≠ []) (h1 : s.data.toList.length ≤ 60) (h2 : s.data.toList ≠ [46]) (hd : okL (bodyL s.data.toList) = true) (W : World) :
    Calls Tryd.prog 50 #[.string s] W fun e w' => e = .returned (.bool false) ∧ Below W.heap.size W w' := by
  have g0 : ¬ s.toList = [] := by rw [ByteArray.toList_eq]; exact h0
  have g00 : s.toList.isEmpty = false := by simpa using g0
  have g2 : ¬ s.toList = [46] := by rw [ByteArray.toList_eq]; exact h2
  have g22 : (s.toList == [46]) = false := by simpa using g2
  have e2 : s.size = s.data.toList.length := by simp
  have g1 : ¬ (60 : Int) < s.size := by omega
  have g1' : (s.size : Int) ≤ 60 := by omega
  have cD := Lib.hid (digits_any s W)
  rw [hd] at cD
  clear e2 h0 h1 h2 hd
  go_enter Tryd.func50, Tryd.ntmps50
  go_wp2_with fail
  refine cD.out.mono ?_
  rintro e w' ⟨rfl, hb⟩
  go_wp2_with fail
  go_ret
  exact ⟨rfl, hb⟩

theorem take_all {l : List UInt8} {p : UInt8 → Bool} {k : Nat} (h : (l.take (k + 1)).all p = false) : l.all p = false := by
  rw [← Bool.not_eq_true] at h ⊢
  exact fun hh => h (all_take hh _)

set_option maxRecDepth 16000 in
theorem sym_bytes (s : ByteArray) (h0 : s.data.toList ≠ []) (h1 : s.data.toList.length ≤ 60) (h2 : s.data.toList ≠ [46]) (hd : okL (bodyL s.data.toList) = false) (W : World) :
    Calls Tryd.prog 50 #[.string s] W fun e w' => e = .returned (.bool (s.data.toList.all symCh)) ∧ Below W.heap.size W w' := by
  obtain ⟨R, hR⟩ : ∃ R, s.data.toList.all symCh = R := ⟨_, rfl⟩
  have HRR := Lib.hid hR
  rw [hR]
  clear hR
  have hcv := fun (w : World) (s : ByteArray) => Lib.run_convert_string_bytes w 9 105 5 s Tryd.underlying9 Tryd.underlying105 Tryd.underlying5
  have g0 : ¬ s.toList = [] := by rw [ByteArray.toList_eq]; exact h0
  have g00 : s.toList.isEmpty = false := by simpa using g0
  have g2 : ¬ s.toList = [46] := by rw [ByteArray.toList_eq]; exact h2
  have g22 : (s.toList == [46]) = false := by simpa using g2
  have e2 : s.size = s.data.toList.length := by simp
  have g1 : ¬ (60 : Int) < s.size := by omega
  have g1' : (s.size : Int) ≤ 60 := by omega
  have cD := Lib.hid (digits_any s W)
  rw [hd] at cD
  have HE2 := Lib.hid e2
  clear h0 h1 h2 hd e2
  go_enter Tryd.func50, Tryd.ntmps50
  go_wp2_with fail
  refine cD.out.mono ?_
  rintro e w' ⟨rfl, hb⟩
  go_wp2_with fail
  clear hcv
  have hcells := Lib.hid (bytes_at w' s)
  have hbl := below_trans hb (below_bytes (W := w') 5 s)
  generalize Lib.bytesWorld w' 5 s = w1 at hcells hbl ⊢
  have e2 := HE2.out
  clear HE2
  have hR := HRR.out
  clear HRR
  generalize hE : s.data.toList = E at hcells e2 hR
  clear hE
  have hEl : E.length ≤ s.size ∧ s.size ≤ E.length := by omega
  have HR := Lib.hid hR
  clear hR
  clear g0 g00 g2 g22 e2
  go_loop [23] (fun i => ∃ k : Nat, k ≤ E.length ∧ i = .int .i64 k ∧ (E.take k).all symCh = true) (fun i => E.length - (intOf i).toNat)
  case atStart => exact ⟨0, by omega, rfl, rfl⟩
  case round =>
    obtain ⟨k, hk, rfl, hall⟩ := hrel
    obtain ⟨hE1, hE2⟩ := hEl
    by_cases hlt : k < E.length
    · have hks : k < s.size := by omega
      have hks' : (k : Int) < s.size := by omega
      have htk := Lib.hid (List.take_succ_eq_append_getElem hlt)
      have hck := hcells.out k hlt
      generalize E[k] = x at htk hck
      have HN : Hid (symCh x = false → E.all symCh = false) := by
        intro hx
        refine take_all (k := k) ?_
        rw [htk.out, List.all_append]
        simp [hx]
      have HY : Hid (symCh x = true → (E.take (k + 1)).all symCh = true) := by
        intro hx
        rw [htk.out, List.all_append, hall]
        simp [hx]
      have hxx := Lib.hid (show symCh x = (decide (33 ≤ x.toNat) && decide (x.toNat ≤ 126) && !markB x) from rfl)
      have hx256 : x.toNat < 256 := x.toNat_lt
      have hmk : Hid (markB x = decide (0 ≤ Lib.indexByte [40, 41, 34, 59, 39, 44, 96, 35] x)) := rfl
      have hxu : ((x.toNat : Int).toNat.toUInt8) = x := by simp
      clear htk hall
      by_cases h33 : x.toNat < 33
      · have b1 : decide ((x.toNat : Int) < 33) = true := by simp; omega
        have hF := Lib.hid (HN.out (by rw [hxx.out]; simp; omega))
        clear HN HY hxx hmk hxu
        go_wp2_with fail
        go_ret
        exact ⟨by rw [← HR.out, hF.out]; rfl, hbl⟩
      · have b1 : decide ((x.toNat : Int) < 33) = false := by simp; omega
        by_cases h126 : 126 < x.toNat
        · have b2 : decide (126 < (x.toNat : Int)) = true := by simp; omega
          have hF := Lib.hid (HN.out (by rw [hxx.out]; simp; omega))
          clear HN HY hxx hmk hxu
          go_wp2_with fail
          go_ret
          exact ⟨by rw [← HR.out, hF.out]; rfl, hbl⟩
        · have b2 : decide (126 < (x.toNat : Int)) = false := by simp; omega
          have HS := Lib.hid (show symCh x = !decide (0 ≤ Lib.indexByte [40, 41, 34, 59, 39, 44, 96, 35] x) by rw [hxx.out, hmk.out]; simp; omega)
          have cI := Lib.hid (indexbyte_any ⟨#[40, 41, 34, 59, 39, 44, 96, 35]⟩ (x.toNat : Int) w1)
          rw [hxu] at cI
          have cI2 : Hid (Calls Tryd.prog 64 #[.string ⟨#[40, 41, 34, 59, 39, 44, 96, 35]⟩, .int .u8 x.toNat] w1 fun e w' => e = .returned (.int .i64 (Lib.indexByte [40, 41, 34, 59, 39, 44, 96, 35] x)) ∧ w' = w1) := cI
          clear cI hxx hmk hxu
          generalize Lib.indexByte [40, 41, 34, 59, 39, 44, 96, 35] x = q at HS cI2
          by_cases hq : 0 ≤ q
          · have hF := Lib.hid (HN.out (by rw [HS.out]; simp [hq]))
            clear HN HY HS
            go_wp2_with fail
            refine cI2.out.mono ?_
            rintro e w' ⟨rfl, rfl⟩
            go_wp2_with fail
            go_ret
            exact ⟨by rw [← HR.out, hF.out]; rfl, hbl⟩
          · have hF := Lib.hid (HY.out (by rw [HS.out]; simp [hq]))
            clear HN HY HS
            go_wp2_with fail
            refine cI2.out.mono ?_
            rintro e w' ⟨rfl, rfl⟩
            go_wp2_with fail
            go_round
            case rel => exact ⟨k + 1, by omega, by go_num, hF.out⟩
            case measure => simp [intOf]; omega
    · obtain rfl : k = E.length := by omega
      rw [List.take_length] at hall
      have HA := Lib.hid hall
      have hge : ¬ (E.length : Int) < (s.size : Int) := by omega
      clear hall
      go_wp2_with fail
      go_ret
      exact ⟨by rw [← HR.out, HA.out]; rfl, hbl⟩
end Go.Proofs.YtneokkhnjnomdaaDoor
