/-
  Walks: two equal lists of lines are told the same; the kinds of the errors.
-/
import Derived.Test.YtkogfljjdgcdnaaJE
import Derived.Deep.QuietTactic
import Derived.BigQuiet
namespace Go.Proofs.Ytkogfljjdgcdnaa
open Go.RowKit

/-- A slice that is owned: its letters, and each of its cells. -/
theorem own_form {w : World} {B : Nat} {e : TypeId} {size n : Nat} {v : Value} {xs : List Value} (h : w.ownsRow B e size v n xs) :
    ∃ A c, v = .slice A n c ∧ (0 < n → ∃ g, A = some ⟨g, 0, none⟩ ∧ B ≤ g ∧ g < w.heap.size ∧ ∀ j u, xs[j]? = some u → w.cell? ⟨g, j, none⟩ = some u) := by
  rcases h.2 with ⟨rfl, rfl⟩ | ⟨g, cap, cur, rfl, hg, hh, _⟩
  · exact ⟨none, 0, rfl, fun hn => absurd hn (by omega)⟩
  · exact ⟨_, _, rfl, fun _ => ⟨g, rfl, hg, (Array.getElem?_eq_some_iff.1 hh).1, fun j u hu => by rw [← add_zero_off]; exact h.cells (g := g) rfl j u hu⟩⟩

theorem flat_cells (l : List Ln) (i : Nat) (hi : i < l.length) : (l.flatMap Ln.cells)[i * 4]? = some (.int .i64 l[i].what) ∧ (l.flatMap Ln.cells)[i * 4 + 1]? = some (.int .i64 l[i].kind) ∧ (l.flatMap Ln.cells)[i * 4 + 2]? = some (.string ⟨l[i].text.toArray⟩) ∧ (l.flatMap Ln.cells)[i * 4 + 3]? = some (.bool l[i].opn) := by
  induction l generalizing i with
  | nil => simp at hi
  | cons a l ih =>
    cases i with
    | zero => simp [Ln.cells]
    | succ i =>
      have := ih i (by simpa using hi)
      simp only [List.flatMap_cons]
      rw [show (i + 1) * 4 = i * 4 + 4 by omega]
      rw [List.getElem?_append_right (by simp [Ln.cells]), List.getElem?_append_right (by simp [Ln.cells, Nat.add_assoc]), List.getElem?_append_right (by simp [Ln.cells, Nat.add_assoc]), List.getElem?_append_right (by simp [Ln.cells, Nat.add_assoc])]
      simpa [Ln.cells, Nat.add_sub_cancel, Nat.add_right_comm _ 4] using this

theorem same_any (v1 v2 : Value) (l : List Ln) (w : World) (B1 B2 : Nat) (h1 : OwnL w B1 v1 l) (h2 : OwnL w B2 v2 l) (hl : l.length ≤ 65536) :
    Calls Try.prog 15 #[v1, v2] w fun e w' => e = .returned (.bool true) ∧ ∃ n, w' = w.drewN n := by
  obtain ⟨A1, d1, rfl, g1⟩ := own_form h1
  obtain ⟨A2, d2, rfl, g2⟩ := own_form h2
  obtain ⟨W, rfl⟩ : ∃ W : World, W = w := ⟨w, rfl⟩
  go_enter Try.func15, Try.ntmps15
  go_wp2_with fail
  go_loopw [5] (fun i wr => ∃ k n : Nat, i = .int .i64 k ∧ k ≤ l.length ∧ wr = W.drewN n) (fun i _ => l.length - (intOf i).toNat)
  case atStart => exact ⟨0, 0, rfl, by omega, rfl⟩
  case round =>
    obtain ⟨k, n, rfl, hk, rfl⟩ := hrel
    by_cases hlt : k < l.length
    · obtain ⟨b1, rfl, _, _, c1⟩ := g1 (by omega)
      obtain ⟨b2, rfl, _, _, c2⟩ := g2 (by omega)
      obtain ⟨e0, e1, e2, e3⟩ := flat_cells l k hlt
      have p0 := c1 _ _ e0
      have p1 := c1 _ _ e1
      have p2 := c1 _ _ e2
      have p3 := c1 _ _ e3
      have q0 := c2 _ _ e0
      have q1 := c2 _ _ e1
      have q2 := c2 _ _ e2
      have q3 := c2 _ _ e3
      clear c1 c2 e0 e1 e2 e3 g1 g2
      generalize l[k] = L at *
      obtain ⟨a, b, c, d⟩ := L
      simp only at p0 p1 p2 p3 q0 q1 q2 q3
      go_wp2_with fail
      go_quiet (fail)
      go_wp2_with fail
      go_roundw
      case rel => exact ⟨k + 1, n + nq, by go_num, by omega, rfl⟩
      case measure => simp [intOf]; omega
    · go_wp2_with fail
      go_ret
      exact ⟨rfl, _, rfl⟩

def kindsL (l : List Ln) : List Int := (l.filter (fun x => x.what == 2)).map Ln.kind

theorem kinds_snoc (l : List Ln) (k : Nat) (h : k < l.length) : kindsL (l.take (k + 1)) = kindsL (l.take k) ++ if (l[k].what == 2) = true then [l[k].kind] else [] := by
  rw [List.take_succ_eq_append_getElem h]
  unfold kindsL
  rw [List.filter_append]
  by_cases e : (l[k].what == 2) = true <;> simp [e]

theorem kinds_len (l : List Ln) : (kindsL l).length ≤ l.length := by
  unfold kindsL
  rw [List.length_map]
  exact List.length_filter_le _ _

theorem lines_len : ∀ (s acc : List UInt8), (linesA acc s).length ≤ s.length + 1
  | [], acc => by unfold linesA; split <;> simp
  | c :: s, acc => by
    rw [linesA]
    split
    · have := lines_len s []
      simp; omega
    · have := lines_len s (acc ++ [c])
      simp; omega

theorem info_kind : (Try.prog.info? 31).map (fun i => (i.zero, i.size, i.bytes)) = some (some (.int .i64 0), 1, 8) := by kernel_rfl

theorem errors_any (s : ByteArray) (w : World) (hs : s.size ≤ 32768) (hsh : w.ShapedOpen Try.prog) :
    Calls Try.prog 14 #[.string s] w fun e w' => ∃ v, e = .returned v ∧ w'.ownsRow w.heap.size 31 1 v (kindsL (linesA [] s.data.toList)).length ((kindsL (linesA [] s.data.toList)).map (Value.int .i64)) ∧ Below w.heap.size w w' := by
  obtain ⟨i0, hi, hz0, hz1, hz2⟩ := info_parts info_kind
  obtain ⟨W, rfl⟩ : ∃ W : World, W = w := ⟨w, rfl⟩
  have hll : (linesA [] s.data.toList).length ≤ 32769 := by
    have := lines_len s.data.toList []
    rw [← Lib.size_eq] at this
    omega
  have HL := Lib.hid hll
  clear hll
  go_enter Try.func14, Try.ntmps14
  go_wp2_with fail
  refine (lines_any _ _ hs hsh).mono ?_
  rintro e w1 ⟨v, rfl, hown, hb⟩
  generalize hle : linesA [] s.data.toList = l at hown HL
  have HLE := Lib.hid hle
  clear hle
  have hll := HL.out
  unfold OwnL at hown
  obtain ⟨A1, d1, rfl, g1⟩ := own_form hown
  go_wp2_with fail
  go_loopw [2, 8] (fun v i wr => ∃ k : Nat, i = .int .i64 k ∧ k ≤ l.length ∧ Below w1.heap.size w1 wr ∧ wr.ownsRow w1.heap.size 31 1 v (kindsL (l.take k)).length ((kindsL (l.take k)).map (Value.int .i64))) (fun _ i _ => l.length - (intOf i).toNat)
  case atStart => exact ⟨0, rfl, by omega, Below.refl _ _, World.ownsRow_nil _ _ _ _⟩
  case round =>
    obtain ⟨k, rfl, hk, hbr, hown2⟩ := hrel
    by_cases hlt : k < l.length
    · obtain ⟨b1, rfl, hb1, hb1', c1⟩ := g1 (by omega)
      obtain ⟨e0, e1, e2, e3⟩ := flat_cells l k hlt
      have hsn := Lib.hid (kinds_snoc l k hlt)
      have hkl := kinds_len (l.take k)
      rw [List.length_take] at hkl
      have p0 := (hbr.cell (p := ⟨b1, k * 4, none⟩) hb1').trans (c1 _ _ e0)
      have p1 := (hbr.cell (p := ⟨b1, k * 4 + 1, none⟩) hb1').trans (c1 _ _ e1)
      have p2 := (hbr.cell (p := ⟨b1, k * 4 + 2, none⟩) hb1').trans (c1 _ _ e2)
      have p3 := (hbr.cell (p := ⟨b1, k * 4 + 3, none⟩) hb1').trans (c1 _ _ e3)
      clear c1 e0 e1 e2 e3 g1
      generalize l[k] = L at *
      obtain ⟨a, b, c, d⟩ := L
      simp only at p0 p1 p2 p3
      have hbs := hbr.size
      have hbs1 := hb.size
      cases h2 : (a == 2)
      · rw [h2] at hsn
        go_wp2_with fail
        go_roundw
        case rel => exact ⟨k + 1, by go_num, by omega, hbr.alloc hbs _, by rw [hsn.out]; simpa using hown2.alloc _⟩
        case measure => simp [intOf]; omega
      · rw [h2] at hsn
        go_wp2_with (at_builtin; refine wpList_append_own _ rfl _ _ 30 rfl w1.heap.size 31 i0 _ 1 8 Try.underlying30 hi hz0 hz1 hz2 rfl (by decide) u2 _ _ rfl ((hown2.alloc _).alloc _) ⟨wr.heap.size + 1, 0, none⟩ 1 1 [.int .i64 b] rfl rfl ?c1 ?c2 ?c3 ?c4 ?c5 ?_)
        case c2 => rfl
        case c3 => unfold maxLen; omega
        case c4 => omega
        case c5 => omega
        intro v' w4 hown4 hgrow _
        go_wp2_with fail
        have hb4 : Below w1.heap.size w1 w4 := ((hbr.alloc hbs _).alloc (by simp; omega) _).grown hgrow (by simp; omega) (fun k hk => (hown2.lt k hk).1)
        go_roundw
        case rel => exact ⟨k + 1, by go_num, by omega, hb4, by rw [hsn.out]; simpa using hown4⟩
        case measure => simp [intOf]; omega
    · obtain rfl : l.length = k := by omega
      go_wp2_with fail
      go_ret
      rw [List.take_length] at hown2
      rw [HLE.out]
      exact ⟨_, rfl, own_mono hown2 hb.size, below_trans hb hbr⟩
end Go.Proofs.Ytkogfljjdgcdnaa
