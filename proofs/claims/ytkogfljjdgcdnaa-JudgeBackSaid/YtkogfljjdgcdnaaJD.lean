/-
  Walks of the reference's line and Lines.
-/
import Derived.Test.YtkogfljjdgcdnaaJC
namespace Go.Proofs.Ytkogfljjdgcdnaa
open Go.RowKit

theorem prefix_len {s p : List UInt8} (h : Lib.hasPrefix s p = true) : p.length ≤ s.length ∧ Lib.trimPrefix s p = s.drop p.length := by
  refine ⟨?_, by rw [Lib.trimPrefix, if_pos h]⟩
  exact (List.isPrefixOf_iff_prefix.1 h).length_le

theorem drop_extract (s : ByteArray) (n : Nat) : s.extract n s.size = ⟨(s.data.toList.drop n).toArray⟩ := by
  rw [Lib.extract_eq, List.take_of_length_le (by rw [List.length_drop, Lib.size_eq]; exact Nat.le_refl _)]

theorem ite_len (c : Prop) [Decidable c] (a b : List UInt8) (ha : a.length ≤ 9) (hb : b.length ≤ 9) : (if c then a else b).length ≤ 9 := by split <;> assumption

theorem mk_snoc (a : List UInt8) (c : UInt8) : (ByteArray.mk a.toArray ++ ByteArray.mk #[c]).data.toList = a ++ [c] := by
  simp [ByteArray.data_append]

theorem kindWord_len (k : Int) : (kindWord k).length ≤ 9 := by
  unfold kindWord
  repeat' (refine ite_len _ _ _ ?_ ?_)
  all_goals decide

theorem refline_any (s : ByteArray) (w : World) (hs : s.size ≤ 32768) :
    Calls Try.prog 23 #[.string s] w fun e w' => e = .returned (.agg (lineL s.data.toList).cells.toArray) ∧ Below w.heap.size w w' := by
  have HL : Hid (lineL s.data.toList = lineL s.data.toList) := rfl
  conv at HL => { arg 1; rhs; unfold lineL }
  generalize hl : lineL s.data.toList = L at HL
  clear hl
  obtain ⟨W, rfl⟩ : ∃ W : World, W = w := ⟨w, rfl⟩
  go_enter Try.func23, Try.ntmps23
  go_wp2_with fail
  refine (begins_any _ _ _).mono ?_
  rintro e w' ⟨rfl, rfl⟩
  cases h1 : Lib.hasPrefix s.data.toList [61, 62, 32]
  · go_wp2_with fail
    refine (begins_any _ _ _).mono ?_
    rintro e w' ⟨rfl, rfl⟩
    cases h2 : Lib.hasPrefix s.data.toList [101, 114, 114, 111, 114, 32]
    · go_wp2_with fail
      rw [h1, h2] at HL
      obtain rfl := HL.out
      exact bodyPost_ret (v := .agg #[.int .i64 3, .int .i64 0, .string s, .bool false]) (by simp [results, Try.results23, go_sem]) rfl ⟨rfl, ((Below.refl _ _).alloc (Nat.le_refl _) _)⟩
    · obtain ⟨hp1, hp2⟩ := prefix_len h2
      have hp3 : 6 ≤ s.size := hp1
      rw [h1, h2, hp2] at HL
      have hx := Lib.hid (drop_extract s 6)
      have hlen : (s.data.toList.drop 6).length ≤ 32768 := by simp; have : s.data.size = s.size := rfl; omega
      clear hp1 hp2 h1 h2
      go_wp2_with fail
      rw [hx.out]
      have HL' : Hid (L = if (told (s.data.toList.drop 6)).2.2 = true then ⟨2, (told (s.data.toList.drop 6)).1, (told (s.data.toList.drop 6)).2.1, false⟩ else ⟨3, 0, s.data.toList, false⟩) := HL
      clear HL hx
      generalize s.data.toList.drop 6 = x at HL' hlen
      go_loopw [4] (fun i wr => ∃ d : Nat, d ≤ 20 ∧ i = .int .i64 (21 - d : Int) ∧ wr.heap[W.heap.size]? = some (.cells #[.int .i64 0, .int .i64 0, .string ⟨#[]⟩, .bool false] 33 (0, 0)) ∧ Below W.heap.size W wr ∧ Hid (told x = toldF x d)) (fun i _ => (21 - intOf i).toNat)
      case atStart => exact ⟨20, by omega, by go_num, heap_alloc_new _ _, (Below.refl _ _).alloc (Nat.le_refl _) _, rfl⟩
      case round =>
        obtain ⟨d, hd, rfl, hblk, hb, H⟩ := hrel
        by_cases hd0 : d = 0
        · subst hd0
          have hh := HL'.out
          rw [H.out] at hh
          have hL := Lib.hid hh
          clear hh
          obtain ⟨⟨c0, c1, c2, c3⟩, f0, f1, f2, f3⟩ := cells_at4 hblk
          go_wp2_with fail
          obtain rfl := hL.out
          have hb2 := hb.size
          exact bodyPost_ret (v := .agg #[.int .i64 3, .int .i64 0, .string s, .bool false]) (by simp [results, Try.results23, go_sem, *]) rfl ⟨rfl, (((hb.setCell (p := ⟨_, 0, none⟩) (Nat.le_refl _) _).setCell (p := ⟨_, 1, none⟩) (Nat.le_refl _) _).setCell (p := ⟨_, 2, none⟩) (Nat.le_refl _) _).setCell (p := ⟨_, 3, none⟩) (Nat.le_refl _) _⟩
        · obtain ⟨d, rfl⟩ : ∃ m, d = m + 1 := ⟨d - 1, by omega⟩
          obtain ⟨k, hk⟩ : ∃ k : Nat, k = 21 - (d + 1) := ⟨_, rfl⟩
          have hk' : 20 - (d : Int) = (k : Int) := by omega
          rw [show (21 - ((d + 1 : Nat) : Int)) = (k : Int) by omega]
          have hk1 : 1 ≤ k := by omega
          have hk2 : k ≤ 20 := by omega
          have HK := Lib.hid hk
          have H1 : Hid (toldF x (d + 1) = if hit x k = true then ((k : Int), Lib.trimPrefix x (kindWord k), true) else toldF x d) := by
            simp only [Hid, toldF, hk']
          have ht := @hit_trim x k
          have H2 : Hid (hit x k = (Lib.hasPrefix x (kindWord k ++ [58]) || Lib.hasPrefix x (kindWord k ++ [32]))) := hit_eq x k
          have HT : Hid (hit x k = true → Lib.trimPrefix x (kindWord k) = x.drop (kindWord k).length) := ht
          clear hk hd0 hk' ht
          go_wp2_with fail
          refine (words_any _).mono ?_
          rintro e w1 ⟨b1, rfl, hb1, hc⟩
          have hck := hc k hk1 hk2
          have hwl := kindWord_len k
          clear hc
          go_wp2_with fail
          refine (begins_any _ _ _).mono ?_
          rintro e w' ⟨rfl, rfl⟩
          rw [mk_snoc, show (ByteArray.mk x.toArray).data.toList = x from rfl]
          have hx1 : Hid (∀ c, Lib.hasPrefix x (kindWord k ++ [c]) = true → (kindWord k).length ≤ x.length) := fun c h => by
            have := (prefix_len h).1
            simp at this
            omega
          generalize hp1 : Lib.hasPrefix x (kindWord k ++ [58]) = p1 at H2
          have hbw := below_trans hb hb1
          have hblk1 := heap_below hblk hb1 (heap_lt hblk)
          obtain ⟨⟨c0, c1, c2, c3⟩, f0, f1, f2, f3⟩ := cells_at4 hblk1
          have fin : hit x k = true → (kindWord k).length ≤ x.length → L = ⟨2, k, ((ByteArray.mk x.toArray).extract (kindWord k).length x.length).data.toList, false⟩ := fun h1 h2 => by
            rw [HL'.out, H.out, H1.out, h1, HT.out h1]
            simp only [if_true]
            rw [Lib.extract_data, List.take_of_length_le (by simp)]
          have FIN := Lib.hid fin
          clear fin
          have hbs := hbw.size
          cases p1
          · clear hp1
            go_wp2_with fail
            refine (begins_any _ _ _).mono ?_
            rintro e w' ⟨rfl, rfl⟩
            rw [mk_snoc, show (ByteArray.mk x.toArray).data.toList = x from rfl]
            generalize hp2 : Lib.hasPrefix x (kindWord k ++ [32]) = p2 at H2
            cases p2
            · clear hp2
              go_wp2_with fail
              go_roundw
              case rel => exact ⟨d, by omega, by have := HK.out; go_num, hblk1, hbw, by rw [Hid, H.out, H1.out, H2.out]; rfl⟩
              case measure => have := HK.out; simp [intOf]; omega
            · have hkx := hx1.out _ hp2
              clear hp2
              go_wp2_with fail
              obtain rfl := FIN.out (by rw [H2.out]; rfl) hkx
              exact bodyPost_ret (v := .agg #[.int .i64 2, .int .i64 k, .string ((ByteArray.mk x.toArray).extract (kindWord k).length x.length), .bool false]) (by simp [results, Try.results23, go_sem, *]) rfl ⟨by simp only [Ln.cells, Lib.mk_data], (((hbw.setCell (p := ⟨_, 0, none⟩) (Nat.le_refl _) _).setCell (p := ⟨_, 1, none⟩) (Nat.le_refl _) _).setCell (p := ⟨_, 2, none⟩) (Nat.le_refl _) _).setCell (p := ⟨_, 3, none⟩) (Nat.le_refl _) _⟩
          · have hkx := hx1.out _ hp1
            clear hp1
            go_wp2_with fail
            obtain rfl := FIN.out (by rw [H2.out]; rfl) hkx
            exact bodyPost_ret (v := .agg #[.int .i64 2, .int .i64 k, .string ((ByteArray.mk x.toArray).extract (kindWord k).length x.length), .bool false]) (by simp [results, Try.results23, go_sem, *]) rfl ⟨by simp only [Ln.cells, Lib.mk_data], (((hbw.setCell (p := ⟨_, 0, none⟩) (Nat.le_refl _) _).setCell (p := ⟨_, 1, none⟩) (Nat.le_refl _) _).setCell (p := ⟨_, 2, none⟩) (Nat.le_refl _) _).setCell (p := ⟨_, 3, none⟩) (Nat.le_refl _) _⟩
  · obtain ⟨hp1, hp2⟩ := prefix_len h1
    have hp3 : 3 ≤ s.size := hp1
    rw [h1, hp2] at HL
    have hx := Lib.hid (drop_extract s 3)
    clear hp1 hp2 h1
    go_wp2_with fail
    rw [hx.out]
    obtain rfl := HL.out
    exact bodyPost_ret (v := .agg #[.int .i64 1, .int .i64 0, .string ⟨(s.data.toList.drop 3).toArray⟩, .bool false]) (by simp [results, Try.results23, go_sem]) rfl ⟨rfl, ((Below.refl _ _).alloc (Nat.le_refl _) _)⟩
end Go.Proofs.Ytkogfljjdgcdnaa
