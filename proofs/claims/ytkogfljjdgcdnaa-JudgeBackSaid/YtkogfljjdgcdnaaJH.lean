/-
  Where the first memory line begins, line by line, and by looking for it: the same.
-/
import Derived.Test.YtkogfljjdgcdnaaJG
namespace Go.Proofs.Ytkogfljjdgcdnaa
open Go.RowKit

def scanM (acc : List UInt8) (p : Nat) : List UInt8 → Int
  | [] => -1
  | c :: r => if c = 10 then (if acc = memL then (p : Int) else scanM [] (p + acc.length + 1) r) else scanM (acc ++ [c]) p r

theorem index_skip : ∀ (acc t M : List UInt8), (10 : UInt8) ∉ acc → Lib.index (acc ++ t) (10 :: M) = if Lib.index t (10 :: M) = -1 then -1 else Lib.index t (10 :: M) + acc.length
  | [], t, M, _ => by
    simp
  | c :: acc, t, M, h => by
    simp only [List.mem_cons, not_or] at h
    have hg := Lib.index_ge t (10 :: M)
    rw [List.cons_append, Lib.index, if_neg (by simp [List.isPrefixOf]; intro e; exact absurd e h.1), index_skip acc t M h.2]
    by_cases h1 : Lib.index t (10 :: M) = -1
    · simp [h1]
    · rw [if_neg h1, if_neg h1, if_neg (by simp; omega)]
      simp; omega

theorem prefix_split : ∀ (m acc t : List UInt8), (10 : UInt8) ∉ acc → (10 : UInt8) ∉ m → Lib.hasPrefix (acc ++ 10 :: t) (m ++ [10]) = decide (acc = m)
  | [], [], t, _, _ => by simp [Lib.hasPrefix, List.isPrefixOf]
  | [], a :: acc, t, h, _ => by
    simp only [List.mem_cons, not_or] at h
    simp [Lib.hasPrefix, List.isPrefixOf]; exact h.1
  | b :: m, [], t, _, h => by
    simp only [List.mem_cons, not_or] at h
    simp [Lib.hasPrefix, List.isPrefixOf]; intro e; exact absurd e.symm h.1
  | b :: m, a :: acc, t, h, h' => by
    simp only [List.mem_cons, not_or] at h h'
    have := prefix_split m acc t h.2 h'.2
    simp only [Lib.hasPrefix] at this
    simp only [Lib.hasPrefix, List.cons_append, List.isPrefixOf, this]
    by_cases e : a = b
    · subst e; simp
    · simp [e]; intro e'; exact absurd e'.symm e

theorem prefix_no10 : ∀ (acc m : List UInt8), (10 : UInt8) ∉ acc → Lib.hasPrefix acc (m ++ [10]) = false
  | [], m, _ => by cases m <;> simp [Lib.hasPrefix]
  | a :: acc, [], h => by
    simp only [List.mem_cons, not_or] at h
    simp [Lib.hasPrefix, List.isPrefixOf]; exact h.1
  | a :: acc, b :: m, h => by
    simp only [List.mem_cons, not_or] at h
    have := prefix_no10 acc m h.2
    simp only [Lib.hasPrefix] at this
    simp [Lib.hasPrefix, List.isPrefixOf, this]

theorem memL_no10 : (10 : UInt8) ∉ memL := by decide

theorem scan_full : ∀ (r acc : List UInt8) (p : Nat), (10 : UInt8) ∉ acc → scanM acc p r = if Lib.hasPrefix (acc ++ r) (memL ++ [10]) = true then (p : Int) else if Lib.index (acc ++ r) (10 :: (memL ++ [10])) ≥ 0 then p + Lib.index (acc ++ r) (10 :: (memL ++ [10])) + 1 else -1
  | [], acc, p, h => by
    have := index_skip acc [] (memL ++ [10]) h
    rw [scanM, List.append_nil, prefix_no10 _ _ h, if_neg (by decide)]
    rw [List.append_nil] at this
    rw [this, show Lib.index [] (10 :: (memL ++ [10])) = -1 from rfl]
    simp
  | c :: r, acc, p, h => by
    rw [scanM]
    by_cases hc : c = 10
    · subst hc
      have hg := Lib.index_ge r (10 :: (memL ++ [10]))
      rw [if_pos rfl, prefix_split _ _ _ h memL_no10, index_skip acc _ _ h]
      by_cases ha : acc = memL
      · simp [ha]
      · rw [if_neg ha, if_neg (by simpa using ha), scan_full r [] _ (by simp), List.nil_append]
        have hx : Lib.index (10 :: r) (10 :: (memL ++ [10])) = if Lib.hasPrefix r (memL ++ [10]) = true then 0 else if Lib.index r (10 :: (memL ++ [10])) = -1 then -1 else Lib.index r (10 :: (memL ++ [10])) + 1 := by
          rw [Lib.index]
          simp [List.isPrefixOf, Lib.hasPrefix]
        rw [hx]
        by_cases hp : Lib.hasPrefix r (memL ++ [10]) = true
        · simp [hp]
        · rw [if_neg hp, if_neg hp]
          by_cases hi : Lib.index r (10 :: (memL ++ [10])) = -1
          · simp [hi]
          · rw [if_neg hi]
            generalize Lib.index r (10 :: (memL ++ [10])) = x at hg hi
            rw [if_pos (show x ≥ 0 by omega), if_neg (show ¬ (x + 1 = -1) by omega), if_pos (show x + 1 + acc.length ≥ 0 by omega)]
            omega
    · rw [if_neg hc, scan_full r (acc ++ [c]) p (by simp; exact ⟨h, fun e => hc e.symm⟩)]
      simp

theorem scan_eq (s : List UInt8) : scanM [] 0 s = fullL s := by
  rw [scan_full s [] 0 (by simp)]
  simp [fullL]

def scanAt (s : List UInt8) (p k : Nat) : Int := scanM ((s.drop p).take (k - p)) p (s.drop k)

theorem scanAt_step (s : List UInt8) (p k : Nat) (hf : p ≤ k) (hk : k < s.length) : scanAt s p k = if s[k] = 10 then (if (s.drop p).take (k - p) = memL then (p : Int) else scanAt s (k + 1) (k + 1)) else scanAt s p (k + 1) := by
  unfold scanAt
  rw [List.drop_eq_getElem_cons hk, scanM]
  have h1 : (s.drop p).take (k + 1 - p) = (s.drop p).take (k - p) ++ [s[k]] := by
    rw [show k + 1 - p = (k - p) + 1 by omega, List.take_succ_eq_append_getElem (by simp; omega)]
    congr 2
    simp only [List.getElem_drop]
    congr 1
    omega
  have h2 : p + ((s.drop p).take (k - p)).length + 1 = k + 1 := by simp; omega
  rw [h1, h2]
  simp

theorem memory_any (s : ByteArray) (w : World) (hs : s.size ≤ 32768) :
    Calls Try.prog 18 #[.string s] w fun e w' => e = .returned (.int .i64 (fullL s.data.toList)) ∧ w' = w := by
  obtain ⟨W, rfl⟩ : ∃ W : World, W = w := ⟨w, rfl⟩
  have hsz := Lib.hid (Lib.size_eq s)
  have HS := Lib.hid (scan_eq s.data.toList)
  generalize fullL s.data.toList = F at HS
  go_enter Try.func18, Try.ntmps18
  go_wp2_with fail
  go_loop [3, 4] (fun f i => ∃ (p k : Nat), f = .int .i64 p ∧ i = .int .i64 k ∧ p ≤ k ∧ k ≤ s.size ∧ Hid (F = scanAt s.data.toList p k)) (fun _ i => s.size - (intOf i).toNat)
  case atStart => exact ⟨0, 0, rfl, rfl, by omega, by omega, by rw [Hid, ← HS.out]; simp [scanAt]⟩
  case round =>
    obtain ⟨p, k, rfl, rfl, hpk, hk, H⟩ := hrel
    by_cases hlt : k < s.size
    · have hst := Lib.hid (scanAt_step s.data.toList p k hpk (by rw [← Lib.size_eq]; exact hlt))
      have hby : Hid (s.data.toList[k]'(by rw [← Lib.size_eq]; exact hlt) = s[k]) := rfl
      have e10 := u8beq s[k] 10
      by_cases h10 : s[k] = 10
      · have e10' : ((s[k].toNat : Int) == 10) = true := e10.trans (by simpa using h10)
        have G := Lib.hid h10
        clear e10 h10
        have ex := Lib.extract_toList s p k
        by_cases hm : (s.data.toList.drop p).take (k - p) = memL
        · have em : ((s.extract p k).toList == memL) = true := by rw [ex]; simpa using hm
          have HM := Lib.hid hm
          have em' : ((s.extract p k).toList == [101, 114, 114, 111, 114, 32, 109, 101, 109, 111, 114, 121, 58, 32, 99, 101, 108, 108, 115]) = true := em
          clear em hm ex
          go_wp2_with fail
          go_ret
          exact ⟨by rw [H.out, hst.out, if_pos (by rw [hby.out]; exact G.out), if_pos HM.out]; rfl, rfl⟩
        · have em : ((s.extract p k).toList == memL) = false := by rw [ex]; simpa using hm
          have HM := Lib.hid hm
          have em' : ((s.extract p k).toList == [101, 114, 114, 111, 114, 32, 109, 101, 109, 111, 114, 121, 58, 32, 99, 101, 108, 108, 115]) = false := em
          clear em hm ex
          go_wp2_with fail
          go_round
          case rel => exact ⟨k + 1, k + 1, by go_num, by go_num, by omega, by omega, by rw [Hid, H.out, hst.out, if_pos (by rw [hby.out]; exact G.out), if_neg HM.out]⟩
          case measure => simp [intOf]; omega
      · have e10' : ((s[k].toNat : Int) == 10) = false := e10.trans (by simpa using h10)
        have G := Lib.hid h10
        clear e10 h10
        go_wp2_with fail
        go_round
        case rel => exact ⟨p, k + 1, rfl, by go_num, by omega, by omega, by rw [Hid, H.out, hst.out, if_neg (by rw [hby.out]; exact G.out)]⟩
        case measure => simp [intOf]; omega
    · obtain rfl : s.size = k := by omega
      go_wp2_with fail
      go_ret
      refine ⟨?_, rfl⟩
      rw [H.out, scanAt, hsz.out, List.drop_length, scanM]
      rfl
end Go.Proofs.Ytkogfljjdgcdnaa
