/-
  A strings.Builder that the call has made itself, alone in its block or at the head of a struct: what its methods do. (The shelf's layings of these methods do not fit this translation's copyCheck.)
-/
import Derived.Test.YtkogfljjdgcdnaaW
import Derived.Lib.Builder
import Derived.Lib.AppendStr
import Derived.Lib.OthersKept
import Derived.Lib.Strings
import Derived.Lib.UnsafeStr
import Derived.RegionTactic
namespace Go.Proofs.Ytkogfljjdgcdnaa
open Go.RowKit

/-- The builder lies at the head of block b (one of the call's own, from B on) of type T, behind it the cells 'tail'; it holds the bytes l. -/
def Bld (T : TypeId) (tail : List Value) (B b : Nat) (l : List UInt8) (w : World) : Prop :=
  B ≤ b ∧ ∃ p v, (p = .pointer none ∨ p = .pointer (some ⟨b, 0, none⟩)) ∧ w.heap[b]? = some (.cells (p :: v :: tail).toArray T (0, 0)) ∧ w.ownsRow B 5 1 v l.length (Lib.byteCells l) ∧ v.ownBlock ≠ some b ∧ (l = [] → v = .slice none 0 0)

/-- Is a builder found at the head of a block of type T with n cells behind it? -/
def Lies (T : TypeId) (n : Nat) : Prop := liesAt Try.prog Try.prog.depth T ((2 + n) / Try.prog.cellsOf T) 0 46 1 = true ∧ T ≠ 5

theorem Bld.lt {T : TypeId} {tail : List Value} {B b : Nat} {l : List UInt8} {w : World} (h : Bld T tail B b l w) : b < w.heap.size := by
  obtain ⟨_, p, v, _, hb, _⟩ := h
  exact heap_lt hb

theorem bld_fresh (T : TypeId) (tail : List Value) (w : World) (B : Nat) (hB : B ≤ w.heap.size) : Bld T tail B w.heap.size [] (w.alloc (.cells (.pointer none :: .slice none 0 0 :: tail).toArray T)) :=
  ⟨hB, _, _, .inl rfl, heap_alloc_new w _, World.ownsRow_nil _ _ _ _, by simp [Value.ownBlock], fun _ => rfl⟩

theorem Bld.below {T : TypeId} {tail : List Value} {B b : Nat} {l : List UInt8} {w w' : World} (h : Bld T tail B b l w) (hb : Below w.heap.size w w') : Bld T tail B b l w' := by
  obtain ⟨hB, p, v, hp, hk, hown, hne, h0⟩ := h
  exact ⟨hB, p, v, hp, heap_below hk hb (heap_lt hk), own_below hown hb, hne, h0⟩

/-- What the builder's methods leave as it was: all but its block and rows of bytes. -/
abbrev Oth (b : Nat) (w w' : World) : Prop := Lib.OthersKept 5 (some b) w w'

theorem own_kind {w : World} {B : Nat} {e : TypeId} {v : Value} {n : Nat} {xs : List Value} (h : w.ownsRow B e 1 v n xs) : ∀ g, v.ownBlock = some g → ∃ c fz, w.heap[g]? = some (.cells c e fz) :=
  Lib.ownsRowF_kind (World.ownsRowF_of h)

theorem size_builder : (Try.prog.info? 46).map (·.size) = some 2 := by kernel_rfl
theorem info_byte : (Try.prog.info? 5).map (fun i => (i.zero, i.size, i.bytes)) = some (some (.int .u8 0), 1, 1) := by kernel_rfl

theorem copyCheck_used (b : Nat) (w : World) (h0 : w.cell? ⟨b, 0, none⟩ = some (.pointer (some ⟨b, 0, none⟩))) :
    Calls Try.prog 34 #[.pointer (some ⟨b, 0, none⟩)] w fun e w' => e = .returned (.tuple #[]) ∧ w' = w := by
  obtain ⟨j, hj, _⟩ := Option.map_eq_some_iff.1 size_builder
  go_enter Try.func34, Try.ntmps34
  go_wp2
  rw [Lib.run_neq_ptr_same w _ Try.underlying43 hj]
  go_wp2
  go_end0
  exact ⟨rfl, rfl⟩

theorem copyCheck_fresh (b n : Nat) (T : TypeId) (w : World) (h0 : w.cell? ⟨b, 0, none⟩ = some (.pointer none)) (hsh : w.shape? b = some (T, 2 + n)) (hlies : Lies T n) (hfz : w.frozen? ⟨b, 0, none⟩ = false) :
    Calls Try.prog 34 #[.pointer (some ⟨b, 0, none⟩)] w fun e w' => e = .returned (.tuple #[]) ∧ w' = w.setCell ⟨b, 0, none⟩ (.pointer (some ⟨b, 0, none⟩)) := by
  obtain ⟨j, hj, hjs⟩ := Option.map_eq_some_iff.1 size_builder
  go_enter Try.func34, Try.ntmps34
  go_wp2
  rw [Lib.run_to_unsafe w ⟨b, 0, none⟩ Try.underlying43 Try.underlying61 hj (by rw [hjs]; decide) hsh (by show 0 < 2 + n; omega)]
  simp only [Result.andThen]
  rw [Oper.upon_value]
  go_wp2
  rw [run_callFunc_extern Try.func37 (by kernel_rfl) (by kernel_rfl) (by kernel_rfl) (e := Extern.AbiNoEscape.same) (by kernel_rfl)]
  rw [Lib.run_noEscape]
  simp only [Result.andThen]
  rw [Oper.upon_value]
  go_wp2
  rw [Lib.run_from_unsafe w ⟨b, 0, none⟩ Try.underlying61 Try.underlying43 hj hsh hlies.1]
  simp only [Result.andThen]
  rw [Oper.upon_value]
  go_wp2
  go_end0
  exact ⟨rfl, rfl⟩

/-- A builder that has been written, its first cell told. -/
def BldU (T : TypeId) (tail : List Value) (B b : Nat) (l : List UInt8) (w : World) : Prop :=
  B ≤ b ∧ ∃ v, w.heap[b]? = some (.cells (.pointer (some ⟨b, 0, none⟩) :: v :: tail).toArray T (0, 0)) ∧ w.ownsRow B 5 1 v l.length (Lib.byteCells l) ∧ v.ownBlock ≠ some b ∧ (l = [] → v = .slice none 0 0)

theorem BldU.bld {T : TypeId} {tail : List Value} {B b : Nat} {l : List UInt8} {w : World} (h : BldU T tail B b l w) : Bld T tail B b l w := by
  obtain ⟨hB, v, hb, hown, hne, h0⟩ := h
  exact ⟨hB, _, v, .inr rfl, hb, hown, hne, h0⟩

theorem set_heap {w : World} {b : Nat} {cs : Array Value} {T : TypeId} (h : w.heap[b]? = some (.cells cs T (0, 0))) (i : Nat) (u : Value) :
    (w.setCell ⟨b, i, none⟩ u).heap[b]? = some (.cells (cs.setIfInBounds i u) T (0, 0)) := by
  simp [World.setCell, Array.getElem?_modify, h]

theorem own_ne_block {w : World} {B : Nat} {e T : TypeId} {v : Value} {n : Nat} {xs : List Value} {b : Nat} {cs : Array Value} {fr : Nat × Nat} (hown : w.ownsRow B e 1 v n xs) (hb : w.heap[b]? = some (.cells cs T fr)) (hTe : T ≠ e) : v.ownBlock ≠ some b :=
  Lib.ownBlock_ne hown hb hTe

theorem own_set {w : World} {B : Nat} {e : TypeId} {v : Value} {n : Nat} {xs : List Value} {b : Nat} (hown : w.ownsRow B e 1 v n xs) (hne : v.ownBlock ≠ some b) (i : Nat) (u : Value) : (w.setCell ⟨b, i, none⟩ u).ownsRow B e 1 v n xs :=
  hown.kept (row := some b) ⟨rfl, rfl, rfl, by simp [World.setCell], fun k _ hk => Below.heap_setCell _ _ _ _ (by intro e; exact hk (by rw [e]))⟩ (.inr hne)

theorem copyCheck_any (T : TypeId) (tail : List Value) (B b : Nat) (l : List UInt8) (w : World) (h : Bld T tail B b l w) (hlies : Lies T tail.length) :
    Calls Try.prog 34 #[.pointer (some ⟨b, 0, none⟩)] w fun e w' => e = .returned (.tuple #[]) ∧ BldU T tail B b l w' ∧ Below B w w' ∧ Oth b w w' := by
  obtain ⟨hB, p, v, hp, hb, hown, hne, hnil⟩ := h
  rcases hp with rfl | rfl
  · have h0 : w.cell? ⟨b, 0, none⟩ = some (.pointer none) := by rw [Lib.cell_of_heap hb]; rfl
    have hsh : w.shape? b = some (T, 2 + tail.length) := by
      simp [World.shape?, hb]; omega
    refine (copyCheck_fresh b tail.length T w h0 hsh hlies (Lib.frozen_of_heap hb 0)).mono ?_
    rintro e w' ⟨rfl, rfl⟩
    refine ⟨rfl, ⟨hB, v, ?_, own_set hown hne _ _, hne, hnil⟩, (Below.refl B w).setCell (p := ⟨b, 0, none⟩) hB _, (Lib.OthersKept.refl _ _ _).setCell ⟨b, 0, none⟩ rfl _⟩
    rw [set_heap hb]
    rfl
  · refine (copyCheck_used b w (by rw [Lib.cell_of_heap hb]; rfl)).mono ?_
    rintro e w' ⟨rfl, rfl⟩
    exact ⟨rfl, ⟨hB, v, hb, hown, hne, hnil⟩, Below.refl B _, Lib.OthersKept.refl _ _ _⟩

theorem BldU.put {T : TypeId} {tail : List Value} {B b : Nat} {l : List UInt8} {w : World} {p v v' : Value} (hB : B ≤ b) (hb : w.heap[b]? = some (.cells (p :: v :: tail).toArray T (0, 0))) (hp : p = .pointer (some ⟨b, 0, none⟩))
    (hown : w.ownsRow B 5 1 v' l.length (Lib.byteCells l)) (hT : T ≠ 5) (hnil : l = [] → v' = .slice none 0 0) : BldU T tail B b l (w.setCell ⟨b, 1, none⟩ v') := by
  subst hp
  have hne := own_ne_block hown hb hT
  refine ⟨hB, v', ?_, own_set hown hne _ _, hne, hnil⟩
  rw [set_heap hb]
  rfl

theorem ba_nil {s : ByteArray} (h : s.data.toList = []) : s = ByteArray.empty := by
  obtain ⟨⟨x⟩⟩ := s
  obtain rfl : x = [] := h
  rfl

set_option maxHeartbeats 1000000 in
theorem writeString_any (T : TypeId) (tail : List Value) (B b : Nat) (l : List UInt8) (s : ByteArray) (w : World) (h : Bld T tail B b l w) (hlies : Lies T tail.length) (hlen : l.length + s.size ≤ 140737488355328) (hBw : B ≤ w.heap.size) :
    Calls Try.prog 24 #[.pointer (some ⟨b, 0, none⟩), .string s] w fun e w' => e = .returned (.tuple #[.int .i64 s.size, .nilIface]) ∧ BldU T tail B b (l ++ s.data.toList) w' ∧ Below B w w' ∧ Oth b w w' := by
  obtain ⟨i0, hi, hz0, hz1, hz2⟩ := info_parts info_byte
  obtain ⟨W, rfl⟩ : ∃ W : World, W = w := ⟨w, rfl⟩
  go_enter Try.func24, Try.ntmps24
  go_wp2_with fail
  refine (copyCheck_any T tail B b l _ h hlies).mono ?_
  rintro e w1 ⟨rfl, h1, hb1, ho1⟩
  obtain ⟨hB, v, hbk, hown, hne, hnil⟩ := h1
  have hNil := Lib.hid hnil
  clear hnil
  have c0 : w1.cell? ⟨b, 0, none⟩ = some (.pointer (some ⟨b, 0, none⟩)) := by rw [Lib.cell_of_heap hbk]; rfl
  have c1 : w1.cell? ⟨b, 1, none⟩ = some v := by rw [Lib.cell_of_heap hbk]; rfl
  have hbs := hb1.size
  go_wp2_with (at_builtin; refine Lib.wpList_append_own_string _ rfl _ _ 44 9 rfl B 5 i0 Try.underlying44 Try.underlying9 hi hz0 hz1 hz2 _ _ _ rfl hown s rfl ?c3 ?c4 ?c5 ?_)
  case c3 => unfold maxLen; omega
  case c4 => omega
  case c5 => omega
  intro v' w2 hown' hgrow hn'
  have hN := Lib.hid hn'
  clear hn'
  have hlt : b < w1.heap.size := heap_lt hbk
  have hb2 : w2.heap[b]? = some (.cells (.pointer (some ⟨b, 0, none⟩) :: v :: tail).toArray T (0, 0)) := by
    rw [hgrow.block b hlt (fun e => hne e.symm)]
    exact hbk
  have d0 : w2.cell? ⟨b, 0, none⟩ = some (.pointer (some ⟨b, 0, none⟩)) := by rw [Lib.cell_of_heap hb2]; rfl
  have d1 : w2.cell? ⟨b, 1, none⟩ = some v := by rw [Lib.cell_of_heap hb2]; rfl
  have f1 : w2.frozen? ⟨b, 1, none⟩ = false := Lib.frozen_of_heap hb2 1
  obtain ⟨ao, n', cap, rfl⟩ : ∃ ao n' cap, v' = .slice ao n' cap := by
    rcases hown'.2 with ⟨hv, _⟩ | ⟨g, cap, cur, hv, _⟩
    · exact ⟨_, _, _, hv⟩
    · exact ⟨_, _, _, hv⟩
  go_wp2
  go_ret2
  refine ⟨rfl, ?_, ?_, ?_⟩
  · refine BldU.put hB hb2 rfl ?_ hlies.2 ?_
    · rw [Lib.byteCells_append, List.length_append, ← Lib.size_eq]
      exact hown'
    · intro e
      rw [List.append_eq_nil_iff] at e
      exact hN.out.2 ⟨hNil.out e.1, ba_nil e.2⟩
  · exact (hb1.grown hgrow (by omega) (fun k hk => (hown.lt k hk).1)).setCell (p := ⟨b, 1, none⟩) hB _
  · exact (ho1.grown hgrow (own_kind hown)).setCell ⟨b, 1, none⟩ rfl _

set_option maxHeartbeats 1000000 in
theorem writeByte_any (T : TypeId) (tail : List Value) (B b : Nat) (l : List UInt8) (c : Int) (w : World) (h : Bld T tail B b l w) (hlies : Lies T tail.length) (hlen : l.length + 1 ≤ 140737488355328) (hBw : B ≤ w.heap.size) (h0 : 0 ≤ c) (h255 : c < 256) :
    Calls Try.prog 26 #[.pointer (some ⟨b, 0, none⟩), .int .u8 c] w fun e w' => e = .returned .nilIface ∧ BldU T tail B b (l ++ [UInt8.ofNat c.toNat]) w' ∧ Below B w w' ∧ Oth b w w' := by
  obtain ⟨i0, hi, hz0, hz1, hz2⟩ := info_parts info_byte
  obtain ⟨W, rfl⟩ : ∃ W : World, W = w := ⟨w, rfl⟩
  go_enter Try.func26, Try.ntmps26
  go_wp2_with fail
  refine (copyCheck_any T tail B b l _ h hlies).mono ?_
  rintro e w1 ⟨rfl, h1, hb1, ho1⟩
  obtain ⟨hB, v, hbk, hown, hne, hnil⟩ := h1
  clear hnil
  have c0 : w1.cell? ⟨b, 0, none⟩ = some (.pointer (some ⟨b, 0, none⟩)) := by rw [Lib.cell_of_heap hbk]; rfl
  have c1 : w1.cell? ⟨b, 1, none⟩ = some v := by rw [Lib.cell_of_heap hbk]; rfl
  have hbs := hb1.size
  go_wp2_with (at_builtin; refine wpList_append_own _ rfl _ _ 44 rfl B 5 i0 (.int .u8 0) 1 1 Try.underlying44 hi hz0 hz1 hz2 rfl (by decide) _ _ _ rfl (hown.alloc _) ⟨w1.heap.size, 0, none⟩ 1 1 [.int .u8 c] rfl rfl ?c1 ?c2 ?c3 ?c4 ?c5 ?_)
  case c1 => exact news_new _ [_] _ _ rfl
  case c2 => first | rfl | (intro u hu; simp at hu; subst hu; rfl)
  case c3 => unfold maxLen; simp; omega
  case c4 => simp; omega
  case c5 => simp; omega
  intro v' w2 hown' hgrow _
  have hlt : b < w1.heap.size := heap_lt hbk
  have hb2 : w2.heap[b]? = some (.cells (.pointer (some ⟨b, 0, none⟩) :: v :: tail).toArray T (0, 0)) := by
    rw [hgrow.block b (by simp; omega) (fun e => hne e.symm), Lib.alloc_old w1 _ b hlt]
    exact hbk
  have d0 : w2.cell? ⟨b, 0, none⟩ = some (.pointer (some ⟨b, 0, none⟩)) := by rw [Lib.cell_of_heap hb2]; rfl
  have d1 : w2.cell? ⟨b, 1, none⟩ = some v := by rw [Lib.cell_of_heap hb2]; rfl
  have f1 : w2.frozen? ⟨b, 1, none⟩ = false := Lib.frozen_of_heap hb2 1
  obtain ⟨g, cap, rfl⟩ : ∃ g cap, v' = .slice (some ⟨g, 0, none⟩) (l.length + 1) cap := by
    rcases hown'.2 with ⟨_, h0⟩ | ⟨g, cap, cur, hv, _⟩
    · omega
    · exact ⟨g, cap, hv⟩
  go_wp2
  go_ret
  refine ⟨rfl, ?_, ?_, ?_⟩
  · refine BldU.put hB hb2 rfl ?_ hlies.2 (by simp)
    have hc : ((UInt8.ofNat c.toNat).toNat : Int) = c := by
      simp [UInt8.toNat_ofNat']
      omega
    have e : Lib.byteCells [UInt8.ofNat c.toNat] = [.int .u8 c] := by rw [Lib.byteCells, List.map_cons, hc]; rfl
    rw [Lib.byteCells_append, List.length_append, e]
    exact hown'
  · exact ((hb1.alloc (by omega) _).grown hgrow (by simp; omega) (fun k hk => (hown.lt k hk).1)).setCell (p := ⟨b, 1, none⟩) hB _
  · exact ((ho1.alloc _).grown hgrow (own_kind (hown.alloc _))).setCell ⟨b, 1, none⟩ rfl _

theorem cells_byte : Try.prog.cellsOf 5 = 1 := by kernel_rfl

set_option maxHeartbeats 2000000 in
set_option maxRecDepth 100000 in
theorem bstring_any (T : TypeId) (tail : List Value) (B b : Nat) (l : List UInt8) (w : World) (h : Bld T tail B b l w) :
    Calls Try.prog 27 #[.pointer (some ⟨b, 0, none⟩)] w fun e w' => e = .returned (.string ⟨l.toArray⟩) ∧ Below B w w' := by
  obtain ⟨hB, p, v, hp, hbk, hown, hne, hnil⟩ := h
  clear hp
  by_cases h0 : l = []
  · subst h0
    obtain rfl := hnil rfl
    have hUS : ∀ (W : World) (q : Option Addr), (Builtin.unsafeString_ #[60, 3] 9 #[.pointer q, .int .i64 0]).run Try.prog W = .ok (.string .empty) W := fun W q => Lib.run_unsafeString_none W _ _ _ q
    have c1 : w.drew.cell? ⟨b, 1, none⟩ = some (.slice none 0 0) := by
      have : w.drew.heap[b]? = some (.cells (p :: .slice none 0 0 :: tail).toArray T (0, 0)) := hbk
      rw [Lib.cell_of_heap this]; rfl
    have hSD : (Builtin.unsafeSliceData_ #[44] 60 #[.slice none 0 0]).run Try.prog w.drew = .ok (.pointer none) w.drew := rfl
    clear hown hne hnil hbk
    go_enter Try.func27, Try.ntmps27
    go_wp2
    go_region
    all_goals (go_wp2; go_ret; exact ⟨rfl, Below.drew (Below.refl B w)⟩)
  · have hl0 : l.length ≠ 0 := by simpa using h0
    obtain ⟨g, cap, cur, rfl, hbg, hg, hnc, hcm, hcs, htake⟩ : ∃ g cap cur, v = .slice (some ⟨g, 0, none⟩) l.length cap ∧ B ≤ g ∧ w.heap[g]? = some (.cells cur 5 (0, 0)) ∧ l.length ≤ cap ∧ cap ≤ maxLen ∧ cur.size = cap * 1 ∧ cur.toList.take (l.length * 1) = Lib.byteCells l := by
      rcases hown.2 with ⟨_, hz⟩ | ⟨g, cap, cur, hv, r⟩
      · exact absurd hz hl0
      · exact ⟨g, cap, cur, hv, r⟩
    have c1 : w.drew.cell? ⟨b, 1, none⟩ = some (.slice (some ⟨g, 0, none⟩) l.length cap) := by
      have : w.drew.heap[b]? = some (.cells (p :: .slice (some ⟨g, 0, none⟩) l.length cap :: tail).toArray T (0, 0)) := hbk
      rw [Lib.cell_of_heap this]; rfl
    have hSD : (Builtin.unsafeSliceData_ #[44] 60 #[.slice (some ⟨g, 0, none⟩) l.length cap]).run Try.prog w.drew = .ok (.pointer (some ⟨g, 0, none⟩)) w.drew :=
      Lib.run_unsafeSliceData_row _ _ _ _ _ _ (by omega)
    have hUS : (Builtin.unsafeString_ #[60, 3] 9 #[.pointer (some ⟨g, 0, none⟩), .int .i64 l.length]).run Try.prog w.drew = .ok (.string ⟨l.toArray⟩) (w.drew.freeze ⟨g, 0, none⟩ l.length) := by
      refine Lib.run_unsafeString_row w.drew 60 3 9 5 Try.underlying60 cells_byte g cur.size (by have hg' : w.drew.heap[g]? = some (.cells cur 5 (0, 0)) := hg; simp [World.shape?, hg']) l h0 (by omega) (by unfold maxLen at hcm; omega) ?_
      intro j x hx
      exact hown.cells (g := g) rfl j (.int .u8 x.toNat) (by simp [Lib.byteCells, hx])
    clear hown hne hnil hbk hg hnc hcm hcs htake
    go_enter Try.func27, Try.ntmps27
    go_wp2
    go_region
    all_goals (go_wp2; go_ret; exact ⟨rfl, Lib.below_freeze (Below.drew (Below.refl B w)) (p := ⟨g, 0, none⟩) hbg _⟩)
end Go.Proofs.Ytkogfljjdgcdnaa
