/-
  Walk of judge's Join.
-/
import Derived.Test.YtkogfljjdgcdnaaJF
import Derived.Test.YtkogfljjdgcdnaaBd
namespace Go.Proofs.Ytkogfljjdgcdnaa
open Go.RowKit

/-- What a line is written as. -/
def Ln.text' (l : Ln) : List UInt8 :=
  (if (l.what == 1) = true then [61, 62, 32] else if (l.what == 2) = true then [101, 114, 114, 111, 114, 32] ++ kindWord l.kind else []) ++ l.text ++ (if l.opn = true then [] else [10])

def joinL (l : List Ln) : List UInt8 := l.flatMap Ln.text'

theorem lies_builder : Lies 46 0 := ⟨by kernel_rfl, by decide⟩

theorem join_snoc (l : List Ln) (k : Nat) (h : k < l.length) : joinL (l.take (k + 1)) = joinL (l.take k) ++ l[k].text' := by
  rw [List.take_succ_eq_append_getElem h]
  simp only [joinL, List.flatMap_append, List.flatMap_cons, List.flatMap_nil, List.append_nil]

theorem join_len (l : List Ln) (k : Nat) (h : k < l.length) : (joinL (l.take k)).length + (l[k].text').length ≤ (joinL l).length := by
  have h1 : joinL l = joinL (l.take (k + 1)) ++ joinL (l.drop (k + 1)) := by
    rw [joinL, joinL, joinL, ← List.flatMap_append, List.take_append_drop]
  rw [h1, join_snoc l k h]
  simp only [List.length_append]
  omega

theorem oth_line {b n : Nat} {x y : World} {cs : Array Value} (ho : Oth b x y) (hne : n ≠ b) (h : x.heap[n]? = some (.cells cs 33 (0, 0))) : y.heap[n]? = some (.cells cs 33 (0, 0)) :=
  ho _ _ h (fun e => hne (Option.some.inj e)) (by intro c fz e; injection e with e1 e2; exact absurd e2 (by decide))

theorem join_any (v : Value) (l : List Ln) (w : World) (B : Nat) (h : OwnL w B v l) (hl : l.length ≤ 65536) (hj : (joinL l).length ≤ 140737488355328) :
    Calls Try.prog 16 #[v] w fun e w' => e = .returned (.string ⟨(joinL l).toArray⟩) ∧ Below w.heap.size w w' := by
  obtain ⟨W, rfl⟩ : ∃ W : World, W = w := ⟨w, rfl⟩
  obtain ⟨A1, d1, rfl, g1⟩ := own_form h
  go_enter Try.func16, Try.ntmps16
  go_wp2_with fail
  go_loopw [8] (fun i wr => ∃ k : Nat, i = .int .i64 k ∧ k ≤ l.length ∧ Below W.heap.size W wr ∧ Bld 46 [] W.heap.size W.heap.size (joinL (l.take k)) wr) (fun i _ => l.length - (intOf i).toNat)
  case atStart => exact ⟨0, rfl, by omega, (Below.refl _ _).alloc (Nat.le_refl _) _, bld_fresh _ [] _ _ (Nat.le_refl _)⟩
  case round =>
    obtain ⟨k, rfl, hk, hbr, hbd⟩ := hrel
    have hbs := hbr.size
    have hbl := hbd.lt
    by_cases hlt : k < l.length
    · obtain ⟨b1, rfl, _, hb1', c1⟩ := g1 (by omega)
      obtain ⟨e0, e1, e2, e3⟩ := flat_cells l k hlt
      have hsn := Lib.hid (join_snoc l k hlt)
      have hjl : (joinL (l.take k)).length + (l[k].text').length ≤ 140737488355328 := Nat.le_trans (join_len l k hlt) hj
      have p0 := (hbr.cell (p := ⟨b1, k * 4, none⟩) hb1').trans (c1 _ _ e0)
      have p1 := (hbr.cell (p := ⟨b1, k * 4 + 1, none⟩) hb1').trans (c1 _ _ e1)
      have p2 := (hbr.cell (p := ⟨b1, k * 4 + 2, none⟩) hb1').trans (c1 _ _ e2)
      have p3 := (hbr.cell (p := ⟨b1, k * 4 + 3, none⟩) hb1').trans (c1 _ _ e3)
      clear c1 e0 e1 e2 e3 g1
      generalize l[k] = L at *
      generalize joinL (l.take k) = pre at *
      obtain ⟨a, b, c, d⟩ := L
      simp only at p0 p1 p2 p3
      simp only [Ln.text'] at hsn hjl
      have hblk : (wr.alloc (.cells #[.int .i64 a, .int .i64 b, .string ⟨c.toArray⟩, .bool d] 33)).heap[wr.heap.size]? = some (.cells #[.int .i64 a, .int .i64 b, .string ⟨c.toArray⟩, .bool d] 33 (0, 0)) := heap_alloc_new _ _
      have hbd1 := hbd.below ((Below.refl wr.heap.size wr).alloc (Nat.le_refl _) (.cells #[.int .i64 a, .int .i64 b, .string ⟨c.toArray⟩, .bool d] 33))
      have hne : wr.heap.size ≠ W.heap.size := by omega
      have hbr1 := hbr.alloc hbs (.cells #[.int .i64 a, .int .i64 b, .string ⟨c.toArray⟩, .bool d] 33)
      clear hbd
      have hcl : (ByteArray.mk c.toArray).size = c.length := rfl
      cases h1 : (a == 1)
      · cases h2 : (a == 2)
        · rw [h1, h2] at hsn hjl
          simp only [Bool.false_eq_true, if_false, List.nil_append, List.length_append] at hsn hjl
          cases d
          all_goals
            go_wp2_with fail
            refine (writeString_any _ _ _ _ _ _ _ hbd1 lies_builder (by rw [hcl]; omega) hbr1.size).mono ?_
            rintro e w4 ⟨rfl, hbd4, hb4, ho4⟩
            have hbr4 := hbr1.trans hb4
            have hblk4 := oth_line ho4 hne hblk
            obtain ⟨⟨q0, q1, q2, q3⟩, _⟩ := cells_at4 hblk4
            go_wp2_with fail
          · refine (writeByte_any _ _ _ _ _ _ _ hbd4.bld lies_builder (by simp at hjl ⊢; omega) hbr4.size (by decide) (by decide)).mono ?_
            rintro e w5 ⟨rfl, hbd5, hb5, _⟩
            go_wp2_with fail
            go_roundw
            case rel => exact ⟨k + 1, by go_num, by omega, hbr4.trans hb5, by rw [hsn.out]; simpa using hbd5.bld⟩
            case measure => simp [intOf]; omega
          · go_roundw
            case rel => exact ⟨k + 1, by go_num, by omega, hbr4, by rw [hsn.out]; simpa using hbd4.bld⟩
            case measure => simp [intOf]; omega
        · rw [h1, h2] at hsn hjl
          simp only [Bool.false_eq_true, if_false, if_true, List.length_append, List.append_assoc] at hsn hjl
          go_wp2_with fail
          refine (writeString_any _ _ _ _ _ _ _ hbd1 lies_builder (by show pre.length + 6 ≤ _; simp at hjl; omega) hbr1.size).mono ?_
          rintro e w2 ⟨rfl, hbd2, hb2, ho2⟩
          have hbr2 := hbr1.trans hb2
          have hblk2 := oth_line ho2 hne hblk
          obtain ⟨⟨q0, q1, q2, q3⟩, _⟩ := cells_at4 hblk2
          go_wp2_with fail
          refine (error_any _ _).mono ?_
          rintro e w3 ⟨rfl, rfl⟩
          go_wp2_with fail
          refine (writeString_any _ _ _ _ _ _ _ hbd2.bld lies_builder (by show (pre ++ _).length + (kindWord b).length ≤ _; simp at hjl ⊢; omega) hbr2.size).mono ?_
          rintro e w3 ⟨rfl, hbd3, hb3, ho3⟩
          have hbr3 := hbr2.trans hb3
          have hblk3 := oth_line ho3 hne hblk2
          clear q0 q1 q2 q3
          obtain ⟨⟨q0, q1, q2, q3⟩, _⟩ := cells_at4 hblk3
          cases d
          all_goals
            go_wp2_with fail
            refine (writeString_any _ _ _ _ _ _ _ hbd3.bld lies_builder (by rw [hcl]; simp at hjl ⊢; omega) hbr3.size).mono ?_
            rintro e w4 ⟨rfl, hbd4, hb4, ho4⟩
            have hbr4 := hbr3.trans hb4
            have hblk4 := oth_line ho4 hne hblk3
            clear q0 q1 q2 q3
            obtain ⟨⟨q0, q1, q2, q3⟩, _⟩ := cells_at4 hblk4
            go_wp2_with fail
          · refine (writeByte_any _ _ _ _ _ _ _ hbd4.bld lies_builder (by simp at hjl ⊢; omega) hbr4.size (by decide) (by decide)).mono ?_
            rintro e w5 ⟨rfl, hbd5, hb5, _⟩
            go_wp2_with fail
            go_roundw
            case rel => exact ⟨k + 1, by go_num, by omega, hbr4.trans hb5, by rw [hsn.out]; simpa using hbd5.bld⟩
            case measure => simp [intOf]; omega
          · go_roundw
            case rel => exact ⟨k + 1, by go_num, by omega, hbr4, by rw [hsn.out]; simpa using hbd4.bld⟩
            case measure => simp [intOf]; omega
      · have h2 : a = 1 := by simpa using h1
        subst h2
        rw [h1] at hsn hjl
        simp only [if_true, List.length_append, List.append_assoc] at hsn hjl
        go_wp2_with fail
        refine (writeString_any _ _ _ _ _ _ _ hbd1 lies_builder (by show pre.length + 3 ≤ _; simp at hjl; omega) hbr1.size).mono ?_
        rintro e w3 ⟨rfl, hbd3, hb3, ho3⟩
        have hbr3 := hbr1.trans hb3
        have hblk3 := oth_line ho3 hne hblk
        obtain ⟨⟨q0, q1, q2, q3⟩, _⟩ := cells_at4 hblk3
        cases d
        all_goals
          go_wp2_with fail
          refine (writeString_any _ _ _ _ _ _ _ hbd3.bld lies_builder (by rw [hcl]; simp at hjl ⊢; omega) hbr3.size).mono ?_
          rintro e w4 ⟨rfl, hbd4, hb4, ho4⟩
          have hbr4 := hbr3.trans hb4
          have hblk4 := oth_line ho4 hne hblk3
          clear q0 q1 q2 q3
          obtain ⟨⟨q0, q1, q2, q3⟩, _⟩ := cells_at4 hblk4
          go_wp2_with fail
        · refine (writeByte_any _ _ _ _ _ _ _ hbd4.bld lies_builder (by simp at hjl ⊢; omega) hbr4.size (by decide) (by decide)).mono ?_
          rintro e w5 ⟨rfl, hbd5, hb5, _⟩
          go_wp2_with fail
          go_roundw
          case rel => exact ⟨k + 1, by go_num, by omega, hbr4.trans hb5, by rw [hsn.out]; simpa using hbd5.bld⟩
          case measure => simp [intOf]; omega
        · go_roundw
          case rel => exact ⟨k + 1, by go_num, by omega, hbr4, by rw [hsn.out]; simpa using hbd4.bld⟩
          case measure => simp [intOf]; omega
    · obtain rfl : l.length = k := by omega
      rw [List.take_length] at hbd
      go_wp2_with fail
      refine (bstring_any _ _ _ _ _ _ hbd).mono ?_
      rintro e w2 ⟨rfl, hb2⟩
      go_wp2_with fail
      go_ret
      exact ⟨rfl, hbr.trans hb2⟩
end Go.Proofs.Ytkogfljjdgcdnaa
