/-
  How many arguments the reference says that a procedure takes.
-/
import Derived.Test.YtneokkhnjnomdaaDoorPrK
import Derived.Test.YtneokkhnjnomdaaDoorLxC
namespace Go.Proofs.YtneokkhnjnomdaaDoor
open Go.RowKit Go.Proofs.YtneokkhnjnomdaaDoorW.PrintWords

theorem byte_intP (c : UInt8) (n : Nat) (hn : n < 256) : ((c.toNat : Int) = (n : Nat)) ↔ c = n.toUInt8 := by
  constructor
  · intro h
    have h1 : c.toNat = n := by omega
    apply UInt8.toNat_inj.1
    rw [h1]
    simp
    omega
  · intro h
    subst h
    simp
    omega
theorem u8neP {x : UInt8} {n : Nat} (hn : n < 256) (h : x ≠ n.toUInt8) : ((x.toNat : Int) == (n : Nat)) = false := beq_eq_false_iff_ne.2 (fun e => h ((byte_intP x n hn).1 e))

def wordG (nm : List UInt8) : List UInt8 → List UInt8 → Bool
  | cur, [] => decide (cur = nm)
  | cur, c :: r => if c = 32 then (decide (cur = nm) || wordG nm [] r) else wordG nm (cur ++ [c]) r

structure WgI (T : ByteArray) (nm : List UInt8) (R : Bool) (f i : Nat) : Prop where
  le : f ≤ i
  top : i ≤ T.size + 1
  on : i ≤ T.size → wordG nm ((T.data.toList.drop f).take (i - f)) (T.data.toList.drop i) = R
  off : i = T.size + 1 → R = false

theorem word_take {T : ByteArray} {f i : Nat} (hf : f ≤ i) (hi : i < T.size) : (T.data.toList.drop f).take (i + 1 - f) = (T.data.toList.drop f).take (i - f) ++ [T[i]'hi] := by
  have hlen : i - f < (T.data.toList.drop f).length := by
    have : T.data.toList.length = T.size := by simp
    rw [List.length_drop]; omega
  rw [show i + 1 - f = (i - f) + 1 by omega, List.take_succ_eq_append_getElem hlen, List.getElem_drop]
  have e1 : f + (i - f) = i := by omega
  simp only [e1]
  rfl
theorem word_drop {T : ByteArray} {i : Nat} (hi : i < T.size) : T.data.toList.drop i = T[i]'hi :: T.data.toList.drop (i + 1) :=
  List.drop_eq_getElem_cons (by simpa using hi)
theorem word_nil {T : ByteArray} {i : Nat} (hi : ¬ i < T.size) : T.data.toList.drop i = [] := by
  have : T.data.toList.length = T.size := by simp
  exact List.drop_eq_nil_of_le (by omega)
theorem extract_toList (T : ByteArray) (f i : Nat) : (T.extract f i).data.toList = (T.data.toList.drop f).take (i - f) := by
  have := T.data_extract (b := f) (e := i)
  rw [this]
  simp [List.extract, List.take_drop]

set_option maxRecDepth 100000 in
set_option maxHeartbeats 4000000 in
theorem word_of (T s : ByteArray) (w : World) (hT : T.size ≤ 1000000000) : Calls Tryd.prog 19 #[.string T, .string s] w fun e w' => e = .returned (.bool (wordG s.data.toList [] T.data.toList)) ∧ w' = w := by
  obtain ⟨R, hR⟩ : ∃ R, wordG s.data.toList [] T.data.toList = R := ⟨_, rfl⟩
  rw [hR]
  have HI := Lib.hid (show WgI T s.data.toList R 0 0 from ⟨Nat.le_refl _, Nat.zero_le _, fun _ => by simpa using hR, fun h => absurd h (by omega)⟩)
  clear hR
  go_enter Tryd.func19, Tryd.ntmps19
  go_wp2_with fail
  go_loopg [5, 6] (T.size + 1) (fun gk v5 v6 w' => ∃ (f i : Nat), v5 = .int .i64 (f : Nat) ∧ v6 = .int .i64 (i : Nat) ∧ gk = T.size + 1 - i ∧ w' = w ∧ Hid (WgI T s.data.toList R f i))
  case atStart => exact ⟨0, 0, rfl, rfl, rfl, rfl, HI⟩
  case round =>
    clear HI
    obtain ⟨f, i, rfl, rfl, rfl, rfl, HJ⟩ := hrel
    have hf := HJ.out.le
    have ht := HJ.out.top
    by_cases hle : i ≤ T.size
    · have hle' : (i : Int) ≤ (T.size : Nat) := by omega
      have hleb : decide ((i : Int) ≤ (T.size : Nat)) = true := decide_eq_true hle'
      obtain ⟨S, hS⟩ : ∃ S, T.extract f i = S := ⟨_, rfl⟩
      have hsl : ∀ W : World, (Instr.slice 9 (.string T) (some (.int .i64 (f : Nat))) (some (.int .i64 (i : Nat))) none).run Tryd.prog W = .ok (.string S) W := fun W => by
        have := run_slice_string (P := Tryd.prog) (w := W) 9 T .i64 .i64 (f : Nat) (i : Nat) Tryd.underlying9 (by omega) (by omega) (by omega)
        rw [this, Int.toNat_natCast, Int.toNat_natCast, hS]
      have HSL := Lib.hid (show S.data.toList = (T.data.toList.drop f).take (i - f) by rw [← hS]; exact extract_toList T f i)
      clear hS
      by_cases hlt : i < T.size
      · have hltb : ((i : Int) == (T.size : Nat)) = false := beq_eq_false_iff_ne.2 (by omega)
        have hltn : ¬ (i : Int) = (T.size : Nat) := by omega
        have hlt2 : (i : Int) < (T.size : Nat) := by omega
        obtain ⟨c, hc⟩ : ∃ c, ∀ h, T[i]'h = c := ⟨T[i]'hlt, fun _ => rfl⟩
        have HCC := Lib.hid hc
        have HLT := Lib.hid hlt
        have hR := HJ.out.on hle
        rw [word_drop hlt, hc hlt, wordG] at hR
        have c256 : c.toNat < 256 := c.toNat_lt
        by_cases h32 : c = 32
        · subst h32
          rw [if_pos rfl] at hR
          by_cases hcur : S.data.toList = s.data.toList
          · have HE := Lib.hid (show R = true by rw [← hR, ← HSL.out, decide_eq_true hcur]; rfl)
            have e1 : S.toList = s.toList := by rw [ByteArray.toList_eq, ByteArray.toList_eq]; exact hcur
            have e2 : (S.toList == s.toList) = true := by simp [e1]
            clear hcur hR
            go_wp2_with fail
            go_ret
            exact ⟨by rw [HE.out]; rfl, rfl⟩
          · have e1 : ¬ S.toList = s.toList := by rw [ByteArray.toList_eq, ByteArray.toList_eq]; exact hcur
            have e2 : (S.toList == s.toList) = false := by simpa using e1
            have HN := Lib.hid (show WgI T s.data.toList R (i + 1) (i + 1) from ⟨Nat.le_refl _, by omega, fun _ => by
              rw [← HSL.out, decide_eq_false hcur, Bool.false_or] at hR
              rw [Nat.sub_self, List.take_zero]; exact hR, fun h => absurd h (by omega)⟩)
            clear hcur hR
            go_wp2_with fail
            go_roundg (T.size + 1 - (i + 1))
            case measure => omega
            case rel => exact ⟨i + 1, i + 1, rfl, rfl, rfl, rfl, HN⟩
        · rw [if_neg h32] at hR
          have b32 : ((c.toNat : Int) == 32) = false := u8neP (n := 32) (by omega) h32
          have p32 : ¬ (c.toNat : Int) = 32 := fun e => h32 ((byte_intP c 32 (by omega)).1 e)
          have HN := Lib.hid (show WgI T s.data.toList R f (i + 1) from ⟨by omega, by omega, fun _ => by
            rw [word_take hf hlt, hc hlt]; exact hR, fun h => absurd h (by omega)⟩)
          clear h32 hR
          go_wp2_with fail
          go_roundg (T.size + 1 - (i + 1))
          case measure => omega
          case rel => exact ⟨f, i + 1, rfl, rfl, rfl, rfl, HN⟩
      · have hie : i = T.size := by omega
        have hltb : ((i : Int) == (T.size : Nat)) = true := by simp [hie]
        have hltn : (i : Int) = (T.size : Nat) := by omega
        have hR := HJ.out.on hle
        rw [word_nil hlt, wordG] at hR
        have HIE := Lib.hid hie
        clear hie
        by_cases hcur : S.data.toList = s.data.toList
        · have HE := Lib.hid (show R = true by rw [← hR, ← HSL.out]; exact decide_eq_true hcur)
          have e1 : S.toList = s.toList := by rw [ByteArray.toList_eq, ByteArray.toList_eq]; exact hcur
          have e2 : (S.toList == s.toList) = true := by simp [e1]
          clear hcur hR hltn
          go_wp2_with fail
          go_ret
          exact ⟨by rw [HE.out]; rfl, rfl⟩
        · have e1 : ¬ S.toList = s.toList := by rw [ByteArray.toList_eq, ByteArray.toList_eq]; exact hcur
          have e2 : (S.toList == s.toList) = false := by simpa using e1
          have HN := Lib.hid (show WgI T s.data.toList R (i + 1) (i + 1) from ⟨Nat.le_refl _, by omega, fun h => absurd h (by have := HIE.out; omega), fun _ => by
            rw [← hR, ← HSL.out]; exact decide_eq_false hcur⟩)
          clear hcur hR hltn
          go_wp2_with fail
          go_roundg (T.size + 1 - (i + 1))
          case measure => omega
          case rel => exact ⟨i + 1, i + 1, rfl, rfl, rfl, rfl, HN⟩
    · have hle' : ¬ (i : Int) ≤ (T.size : Nat) := by omega
      have hleb : decide ((i : Int) ≤ (T.size : Nat)) = false := decide_eq_false hle'
      have HE := Lib.hid (HJ.out.off (by omega))
      go_wp2_with fail
      go_ret
      exact ⟨by rw [HE.out]; rfl, rfl⟩

def oneL : List UInt8 := [99, 97, 114, 32, 99, 100, 114, 32, 110, 117, 108, 108, 63, 32, 112, 97, 105, 114, 63, 32, 115, 121, 109, 98, 111, 108, 63, 32, 115, 116, 114, 105, 110, 103, 63, 32, 99, 104, 97, 114, 63, 32, 118, 101, 99, 116, 111, 114, 63, 32, 112, 114, 111, 99, 101, 100, 117, 114, 101, 63, 32, 98, 111, 111, 108, 101, 97, 110, 63, 32, 105, 110, 116, 101, 103, 101, 114, 63, 32, 118, 101, 99, 116, 111, 114, 45, 108, 101, 110, 103, 116, 104, 32, 115, 116, 114, 105, 110, 103, 45, 108, 101, 110, 103, 116, 104, 32, 110, 117, 109, 98, 101, 114, 45, 62, 115, 116, 114, 105, 110, 103, 32, 115, 116, 114, 105, 110, 103, 45, 62, 110, 117, 109, 98, 101, 114, 32, 115, 121, 109, 98, 111, 108, 45, 62, 115, 116, 114, 105, 110, 103, 32, 115, 116, 114, 105, 110, 103, 45, 62, 115, 121, 109, 98, 111, 108, 32, 99, 104, 97, 114, 45, 62, 105, 110, 116, 101, 103, 101, 114, 32, 105, 110, 116, 101, 103, 101, 114, 45, 62, 99, 104, 97, 114, 32, 100, 105, 115, 112, 108, 97, 121, 32, 119, 114, 105, 116, 101, 32, 114, 97, 105, 115, 101, 32, 99, 97, 108, 108, 47, 99, 99, 32, 111, 110, 45, 116, 105, 99, 107, 32, 111, 110, 45, 107, 101, 121, 32, 101, 114, 114, 111, 114, 45, 107, 105, 110, 100, 32, 101, 114, 114, 111, 114, 45, 118, 97, 108, 117, 101]
def takesL (l : List UInt8) : Int :=
  if l = [] then -2 else if l = [110, 101, 119, 108, 105, 110, 101] then 0 else if l = [118, 97, 108, 117, 101, 115] then -1
  else if l = [118, 101, 99, 116, 111, 114, 45, 115, 101, 116, 33] then 3 else if l = [115, 117, 98, 115, 116, 114, 105, 110, 103] then 3 else if l = [100, 121, 110, 97, 109, 105, 99, 45, 119, 105, 110, 100] then 3
  else if wordG l [] oneL = true then 1 else 2

theorem word_to (T s : ByteArray) (w : World) (hz : T.size ≤ 1000000000) (hT : T.data.toList = oneL) : Calls Tryd.prog 19 #[.string T, .string s] w fun e w' => e = .returned (.bool (wordG s.data.toList [] oneL)) ∧ w' = w := by
  rw [← hT]
  exact word_of T s w hz

set_option maxRecDepth 100000 in
set_option maxHeartbeats 4000000 in
theorem takes_of (n : Int) (w : World) : Calls Tryd.prog 7 #[.int .i64 n] w fun e w' => e = .returned (.int .i64 (takesL (nameN n))) ∧ Below w.heap.size w w' := by
  obtain ⟨s, hs⟩ : ∃ s, nameS (nameN n) = s := ⟨_, rfl⟩
  have hsl : s.toList = nameN n := by rw [← hs, ByteArray.toList_eq]; rfl
  have hsd : s.data.toList = nameN n := by rw [← hs]; rfl
  have HS := Lib.hid hs
  generalize nameN n = l at hsl hsd ⊢
  have HSD := Lib.hid hsd
  clear hs hsd
  by_cases h0 : l = []
  · have e0 : s.toList = [] := by rw [hsl]; exact h0
    have f0 : (s.toList == []) = true := by simp [e0]
    rw [takesL, if_pos h0]
    clear h0 hsl
    go_enter Tryd.func7, Tryd.ntmps7
    go_wp2_with fail
    refine (refname_of n _).mono ?_
    rintro e w2 ⟨rfl, hb⟩
    rw [HS.out]
    have HB := Lib.hid hb
    clear hb
    go_wp2_with fail
    go_ret
    exact ⟨rfl, HB.out⟩
  have e0 : ¬ s.toList = [] := by rw [hsl]; exact h0
  have f0 : (s.toList == []) = false := by simpa using e0
  by_cases h1 : l = [110, 101, 119, 108, 105, 110, 101]
  · have e1 : s.toList = [110, 101, 119, 108, 105, 110, 101] := by rw [hsl]; exact h1
    have f1 : (s.toList == [110, 101, 119, 108, 105, 110, 101]) = true := by simp [e1]
    rw [takesL, if_neg h0, if_pos h1]
    clear h0 h1 hsl
    go_enter Tryd.func7, Tryd.ntmps7
    go_wp2_with fail
    refine (refname_of n _).mono ?_
    rintro e w2 ⟨rfl, hb⟩
    rw [HS.out]
    have HB := Lib.hid hb
    clear hb
    go_wp2_with fail
    go_ret
    exact ⟨rfl, HB.out⟩
  have e1 : ¬ s.toList = [110, 101, 119, 108, 105, 110, 101] := by rw [hsl]; exact h1
  have f1 : (s.toList == [110, 101, 119, 108, 105, 110, 101]) = false := by simpa using e1
  by_cases h2 : l = [118, 97, 108, 117, 101, 115]
  · have e2 : s.toList = [118, 97, 108, 117, 101, 115] := by rw [hsl]; exact h2
    have f2 : (s.toList == [118, 97, 108, 117, 101, 115]) = true := by simp [e2]
    rw [takesL, if_neg h0, if_neg h1, if_pos h2]
    clear h0 h1 h2 hsl
    go_enter Tryd.func7, Tryd.ntmps7
    go_wp2_with fail
    refine (refname_of n _).mono ?_
    rintro e w2 ⟨rfl, hb⟩
    rw [HS.out]
    have HB := Lib.hid hb
    clear hb
    go_wp2_with fail
    go_ret
    exact ⟨rfl, HB.out⟩
  have e2 : ¬ s.toList = [118, 97, 108, 117, 101, 115] := by rw [hsl]; exact h2
  have f2 : (s.toList == [118, 97, 108, 117, 101, 115]) = false := by simpa using e2
  by_cases h3 : l = [118, 101, 99, 116, 111, 114, 45, 115, 101, 116, 33]
  · have e3 : s.toList = [118, 101, 99, 116, 111, 114, 45, 115, 101, 116, 33] := by rw [hsl]; exact h3
    have f3 : (s.toList == [118, 101, 99, 116, 111, 114, 45, 115, 101, 116, 33]) = true := by simp [e3]
    rw [takesL, if_neg h0, if_neg h1, if_neg h2, if_pos h3]
    clear h0 h1 h2 h3 hsl
    go_enter Tryd.func7, Tryd.ntmps7
    go_wp2_with fail
    refine (refname_of n _).mono ?_
    rintro e w2 ⟨rfl, hb⟩
    rw [HS.out]
    have HB := Lib.hid hb
    clear hb
    go_wp2_with fail
    go_ret
    exact ⟨rfl, HB.out⟩
  have e3 : ¬ s.toList = [118, 101, 99, 116, 111, 114, 45, 115, 101, 116, 33] := by rw [hsl]; exact h3
  have f3 : (s.toList == [118, 101, 99, 116, 111, 114, 45, 115, 101, 116, 33]) = false := by simpa using e3
  by_cases h4 : l = [115, 117, 98, 115, 116, 114, 105, 110, 103]
  · have e4 : s.toList = [115, 117, 98, 115, 116, 114, 105, 110, 103] := by rw [hsl]; exact h4
    have f4 : (s.toList == [115, 117, 98, 115, 116, 114, 105, 110, 103]) = true := by simp [e4]
    rw [takesL, if_neg h0, if_neg h1, if_neg h2, if_neg h3, if_pos h4]
    clear h0 h1 h2 h3 h4 hsl
    go_enter Tryd.func7, Tryd.ntmps7
    go_wp2_with fail
    refine (refname_of n _).mono ?_
    rintro e w2 ⟨rfl, hb⟩
    rw [HS.out]
    have HB := Lib.hid hb
    clear hb
    go_wp2_with fail
    go_ret
    exact ⟨rfl, HB.out⟩
  have e4 : ¬ s.toList = [115, 117, 98, 115, 116, 114, 105, 110, 103] := by rw [hsl]; exact h4
  have f4 : (s.toList == [115, 117, 98, 115, 116, 114, 105, 110, 103]) = false := by simpa using e4
  by_cases h5 : l = [100, 121, 110, 97, 109, 105, 99, 45, 119, 105, 110, 100]
  · have e5 : s.toList = [100, 121, 110, 97, 109, 105, 99, 45, 119, 105, 110, 100] := by rw [hsl]; exact h5
    have f5 : (s.toList == [100, 121, 110, 97, 109, 105, 99, 45, 119, 105, 110, 100]) = true := by simp [e5]
    rw [takesL, if_neg h0, if_neg h1, if_neg h2, if_neg h3, if_neg h4, if_pos h5]
    clear h0 h1 h2 h3 h4 h5 hsl
    go_enter Tryd.func7, Tryd.ntmps7
    go_wp2_with fail
    refine (refname_of n _).mono ?_
    rintro e w2 ⟨rfl, hb⟩
    rw [HS.out]
    have HB := Lib.hid hb
    clear hb
    go_wp2_with fail
    go_ret
    exact ⟨rfl, HB.out⟩
  have e5 : ¬ s.toList = [100, 121, 110, 97, 109, 105, 99, 45, 119, 105, 110, 100] := by rw [hsl]; exact h5
  have f5 : (s.toList == [100, 121, 110, 97, 109, 105, 99, 45, 119, 105, 110, 100]) = false := by simpa using e5
  have hwb : wordG l [] oneL = true ∨ wordG l [] oneL = false := by cases wordG l [] oneL <;> simp
  rcases hwb with hw | hw
  · rw [takesL, if_neg h0, if_neg h1, if_neg h2, if_neg h3, if_neg h4, if_neg h5, if_pos hw]
    have HW := Lib.hid hw
    clear hw h0 h1 h2 h3 h4 h5 hsl
    go_enter Tryd.func7, Tryd.ntmps7
    go_wp2_with fail
    refine (refname_of n _).mono ?_
    rintro e w2 ⟨rfl, hb⟩
    rw [HS.out]
    have HB := Lib.hid hb
    clear hb
    go_wp2_with fail
    refine (word_to _ s _ ?_ ?_).mono ?_
    · decide +kernel
    · kernel_rfl
    · rintro e w3 ⟨rfl, rfl⟩
      rw [HSD.out, HW.out]
      go_wp2_with fail
      go_ret
      exact ⟨rfl, HB.out⟩
  · rw [takesL, if_neg h0, if_neg h1, if_neg h2, if_neg h3, if_neg h4, if_neg h5, if_neg (by rw [hw]; decide)]
    have HW := Lib.hid hw
    clear hw h0 h1 h2 h3 h4 h5 hsl
    go_enter Tryd.func7, Tryd.ntmps7
    go_wp2_with fail
    refine (refname_of n _).mono ?_
    rintro e w2 ⟨rfl, hb⟩
    rw [HS.out]
    have HB := Lib.hid hb
    clear hb
    go_wp2_with fail
    refine (word_to _ s _ ?_ ?_).mono ?_
    · decide +kernel
    · kernel_rfl
    · rintro e w3 ⟨rfl, rfl⟩
      rw [HSD.out, HW.out]
      go_wp2_with fail
      go_ret
      exact ⟨rfl, HB.out⟩
end Go.Proofs.YtneokkhnjnomdaaDoor
