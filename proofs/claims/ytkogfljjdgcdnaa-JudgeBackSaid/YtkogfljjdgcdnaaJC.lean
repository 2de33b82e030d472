/-
  Walks of judge's Lines, and of the reference's.
-/
import Derived.Test.YtkogfljjdgcdnaaJL
namespace Go.Proofs.Ytkogfljjdgcdnaa
open Go.RowKit

theorem info_line : (Try.prog.info? 33).map (fun i => (i.zero, i.size, i.bytes)) = some (some (.agg #[.int .i64 0, .int .i64 0, .string ⟨#[]⟩, .bool false]), 4, 40) := by kernel_rfl

/-- A slice of lines that the call has made. -/
def OwnL (w : World) (B : Nat) (v : Value) (l : List Ln) : Prop := w.ownsRow B 33 4 v l.length (l.flatMap Ln.cells)

def strLen : Value → Nat | .string r => r.size | _ => 0

theorem lines_any (s : ByteArray) (w : World) (hs : s.size ≤ 32768) (hsh : w.ShapedOpen Try.prog) :
    Calls Try.prog 12 #[.string s] w fun e w' => ∃ v, e = .returned v ∧ OwnL w' w.heap.size v (linesA [] s.data.toList) ∧ Below w.heap.size w w' := by
  obtain ⟨i0, hi, hz0, hz1, hz2⟩ := info_parts info_line
  have HT := Lib.hid hs
  obtain ⟨W, rfl⟩ : ∃ W : World, W = w := ⟨w, rfl⟩
  go_enter Try.func12, Try.ntmps12
  go_wp2_with fail
  go_loopw [0, 2] (fun x v wr => ∃ (acc : List Ln) (r : List UInt8), x = .string ⟨r.toArray⟩ ∧ OwnL wr W.heap.size v acc ∧ Below W.heap.size W wr ∧ acc.length + r.length ≤ 32768 ∧ Hid (linesA [] s.data.toList = acc ++ linesA [] r)) (fun x _ _ => strLen x)
  case atStart => exact ⟨[], s.data.toList, rfl, World.ownsRow_nil _ _ _ _, Below.refl _ _, by have := HT.out; simp; omega, rfl⟩
  case round =>
    obtain ⟨acc, r, rfl, hown, hb, hlen, H⟩ := hrel
    have hsh1 := shaped_below hsh hb
    by_cases hr : r = []
    · subst hr
      go_wp2_with fail
      go_ret
      have hh := H.out
      simp only [linesA, List.append_nil, if_true] at hh
      rw [hh]
      exact ⟨_, rfl, hown, hb⟩
    · have ht := Lib.hid (lines_turn r hr)
      have hl := cut_less r hr
      generalize hc : Lib.cut r [10] = c at ht hl
      have hc' : Lib.cut (ByteArray.mk r.toArray).data.toList (ByteArray.mk #[10]).data.toList = c := hc
      obtain ⟨a, b, f⟩ := c
      have HC := Lib.hid hc'
      clear hc hc'
      have hr' : r.isEmpty = false := by simpa using hr
      go_wp2_with fail
      refine (Try.strings_Cut_shaped _ _ _ hsh1 (show r.length < _ by omega)).mono ?_
      rintro e w1 ⟨rfl, n, rfl⟩
      rw [HC.out]
      go_wp2_with fail
      refine (line_any _ _).mono ?_
      rintro e w2 ⟨rfl, hb2⟩
      have ha : (ByteArray.mk a.toArray).data.toList = a := rfl
      rw [ha]
      clear ha
      have HL : Hid (linesA [] r = { lineL a with opn := !f } :: linesA [] b) := ht
      clear ht
      generalize lineL a = L at HL
      obtain ⟨k1, k2, tx, op⟩ := L
      rw [show (Ln.mk k1 k2 tx op).cells.toArray = #[.int .i64 k1, .int .i64 k2, .string ⟨tx.toArray⟩, .bool op] from rfl]
      have hb3 := below_trans (below_drewN hb n) hb2
      have hown3 : OwnL w2 W.heap.size u2 acc := own_below (w := wr.drewN n) hown hb2
      unfold OwnL at hown3
      have hlen' : acc.length + b.length + 1 ≤ 32768 := by omega
      have hbs := hb3.size
      go_wp2_with (at_builtin; refine wpList_append_own _ rfl _ _ 28 rfl W.heap.size 33 i0 _ 4 40 Try.underlying28 hi hz0 hz1 hz2 rfl (by decide) u2 acc.length (acc.flatMap Ln.cells) rfl ((hown3.alloc _).alloc _) ⟨w2.heap.size + 1, 0, none⟩ 1 1 (Ln.mk k1 k2 tx (!f)).cells rfl rfl ?c1 ?c2 ?c3 ?c4 ?c5 ?_)
      case c1 => exact news_new _ [_, _, _, _] _ _ (by simp)
      case c2 => intro u hu; simp [Ln.cells] at hu; rcases hu with rfl | rfl | rfl | rfl <;> rfl
      case c3 => unfold maxLen; omega
      case c4 => omega
      case c5 => simp; omega
      intro v' w4 hown4 hgrow _
      go_wp2_with fail
      have hb4 : Below W.heap.size W w4 := ((hb3.alloc (by omega) _).alloc (by simp; omega) _).grown hgrow (by simp; omega) (fun k hk => (hown3.lt k hk).1)
      go_roundw
      case rel => exact ⟨acc ++ [⟨k1, k2, tx, !f⟩], b, rfl, by simpa [OwnL] using hown4, hb4, by simp; omega, by rw [Hid, H.out, HL.out]; simp⟩
      case measure => exact hl
end Go.Proofs.Ytkogfljjdgcdnaa
