/-
  Layer 11: the law EnvDeep.
-/
import Derived.Test.YthighbbikpnpgaaDoorEvK
import Derived.ProofKit
import Derived.OpenShut
import Derived.SliceStrings
namespace Go.Proofs.YthighbbikpnpgaaDoor
open Go.RowKit Go.Maps Go.ChangeShapes Go.WideShapes

/-- What a name means by the innermost place that binds it. -/
def WantR (PL : List Pl) (ask : ByteArray) (wk wn : Int) : Prop :=
  (upP PL ask PL.length = 0 ∧ wk = 0 ∧ wn = 0) ∨ (upP PL ask PL.length ≠ 0 ∧ ∃ x, PL[upP PL ask PL.length - 1]? = some x ∧ x.k = wk ∧ x.n = wn)
theorem want_nil (ask : ByteArray) : WantR [] ask 0 0 := .inl ⟨rfl, rfl, rfl⟩
theorem want_hit {PL : List Pl} {ask : ByteArray} (x : Pl) (hs : x.name = ask) : WantR (PL ++ [x]) ask x.k x.n := by
  have h : upP (PL ++ [x]) ask (PL ++ [x]).length = (PL ++ [x]).length := up_hit (q := x) (by simp) (by simp) hs
  refine .inr ⟨by rw [h]; simp, x, ?_, rfl, rfl⟩
  rw [h]
  simp
theorem want_miss {PL : List Pl} {ask : ByteArray} {wk wn : Int} (hN : Nest PL) (x : Pl) (hw : x.within = PL.length) (hs : ¬ x.name = ask) (h : WantR PL ask wk wn) : WantR (PL ++ [x]) ask wk wn := by
  have hN' : Nest (PL ++ [x]) := hN.more x (by omega) (by omega)
  have e : upP (PL ++ [x]) ask (PL ++ [x]).length = upP PL ask PL.length := by
    rw [up_miss hN' (q := x) (by simp) (by simp) hs, hw, Int.toNat_natCast]
    exact up_more hN x ask _ (Nat.le_refl _)
  unfold WantR
  rw [e]
  rcases h with h | ⟨h0, y, hy, h1, h2⟩
  · exact .inl h
  · refine .inr ⟨h0, y, ?_, h1, h2⟩
    rw [List.getElem?_append_left (List.getElem?_eq_some_iff.1 hy).1]
    exact hy
theorem want_finds {PL : List Pl} {ask : ByteArray} {wk wn : Int} (h : WantR PL ask wk wn) : Finds PL [] (.map []) PL.length ask wk wn := by
  rcases h with ⟨h0, rfl, rfl⟩ | ⟨h0, x, hx, h1, h2⟩
  · exact ⟨0, ask, .bare h0 rfl, .inr ⟨rfl, rfl⟩⟩
  · exact ⟨_, _, .here h0, .inl ⟨h0, x, hx, h1, h2⟩⟩
theorem want_none {PL : List Pl} {ask : ByteArray} {wk wn : Int} (hW : Words PL []) (hn : nameB [] ask = false) (h : WantR PL ask wk wn) : wk = 0 ∧ wn = 0 := by
  rcases h with ⟨_, h⟩ | ⟨h0, _⟩
  · exact h
  · exfalso
    obtain ⟨q, hq, hqn⟩ := (up_le hW.nest ask PL.length).2 h0
    have := hW.names q (List.mem_of_getElem? hq)
    rw [hqn, hn] at this
    cases this

/-- A table without places may be thought to lie lower. -/
theorem TabIs.rebase {w : World} {B B' b ba bt nT : Nat} {AL : List Al} {DA DT : DataW Value} (h : TabIs w B b ba bt (.slice none 0 0) [] AL nT DA DT) (hB : B ≤ B') : TabIs w B' b ba bt (.slice none 0 0) [] AL nT DA DT := by
  obtain ⟨⟨⟨h1, h2, h3, h4⟩, own, row, al, top⟩, r1, r2, r3⟩ := h
  exact ⟨⟨⟨by omega, by omega, by omega, h4⟩, own, World.ownsRow_nil _ _ _ _, al, top⟩, r1, r2, r3⟩

/-- What stands at every round's head. -/
structure DeepR (W : World) (X b ba bt : Nat) (ask : ByteArray) (k : Nat) (PL : List Pl) (v : Value) (wk wn : Int) (wr : World) : Prop where
  tab : TabIs wr (X + 1) b ba bt v PL [] 0 (.map []) (.map [])
  words : Words PL []
  few : PL.length ≤ k
  c0 : wr.cell? ⟨X, 0, none⟩ = some (.int .i64 wk)
  c1 : wr.cell? ⟨X, 1, none⟩ = some (.int .i64 wn)
  f0 : wr.frozen? ⟨X, 0, none⟩ = false
  f1 : wr.frozen? ⟨X, 1, none⟩ = false
  lt : X < wr.heap.size
  want : WantR PL ask wk wn
  below : Below W.heap.size W wr
  high : W.heap.size ≤ X ∧ W.heap.size ≤ b ∧ W.heap.size ≤ ba ∧ W.heap.size ≤ bt

theorem DeepR.below' {W : World} {X b ba bt : Nat} {ask : ByteArray} {k : Nat} {PL : List Pl} {v : Value} {wk wn : Int} {wr w' : World} (h : DeepR W X b ba bt ask k PL v wk wn wr) (hb : Below wr.heap.size wr w') : DeepR W X b ba bt ask (k + 1) PL v wk wn w' where
  tab := h.tab.below hb
  words := h.words
  few := by have := h.few; omega
  c0 := (hb.cell (p := ⟨X, 0, none⟩) h.lt).trans h.c0
  c1 := (hb.cell (p := ⟨X, 1, none⟩) h.lt).trans h.c1
  f0 := (hb.frozen (p := ⟨X, 0, none⟩) h.lt).trans h.f0
  f1 := (hb.frozen (p := ⟨X, 1, none⟩) h.lt).trans h.f1
  lt := Nat.lt_of_lt_of_le h.lt hb.size
  want := h.want
  below := below_trans h.below hb
  high := h.high

theorem Turned.cell {w w' : World} {F : Nat → Prop} (h : Turned w w' F) {a : Addr} (hl : a.block < w.heap.size) (hF : ¬ F a.block) : w'.cell? a = w.cell? a := World.cell?_of_block (h.block a.block hl hF)
theorem Turned.frozen {w w' : World} {F : Nat → Prop} (h : Turned w w' F) {a : Addr} (hl : a.block < w.heap.size) (hF : ¬ F a.block) : w'.frozen? a = w.frozen? a := World.frozen?_of_block (h.block a.block hl hF)

/-- Behind a call of Extend that made a place; M: the block of the new meaning. -/
theorem DeepR.more {W : World} {X b ba bt : Nat} {ask : ByteArray} {k : Nat} {PL : List Pl} {v v' : Value} {wk wn : Int} {wr w1 w' : World} {x : Pl} (h : DeepR W X b ba bt ask k PL v wk wn wr) (hb : Below wr.heap.size wr w1)
    (hT : TabIs w' (X + 1) b ba bt v' (PL ++ [x]) [] 0 (.map []) (.map [])) (ht : Turned w1 w' (fun i => i = b ∨ some i = v.ownBlock)) :
    w'.cell? ⟨X, 0, none⟩ = some (.int .i64 wk) ∧ w'.cell? ⟨X, 1, none⟩ = some (.int .i64 wn) ∧ w'.frozen? ⟨X, 0, none⟩ = false ∧ w'.frozen? ⟨X, 1, none⟩ = false ∧ X < w'.heap.size ∧ Below W.heap.size W w' := by
  have h1 := h.below' hb
  have hX : ¬ (X = b ∨ some X = v.ownBlock) := by
    rintro (e | e)
    · have := h1.tab.mem.low
      have hm := h1.tab.mem.own
      have hc := h1.c0
      rw [e, cell_of_row w1 b 0 _ _ (0, 0) hm] at hc
      obtain ⟨p, cap, rfl⟩ := own_len h1.tab.mem.row
      simp at hc
    · have := (h1.tab.mem.row.lt X e.symm).1
      omega
  refine ⟨(ht.cell (a := ⟨X, 0, none⟩) h1.lt hX).trans h1.c0, (ht.cell (a := ⟨X, 1, none⟩) h1.lt hX).trans h1.c1, (ht.frozen (a := ⟨X, 0, none⟩) h1.lt hX).trans h1.f0, (ht.frozen (a := ⟨X, 1, none⟩) h1.lt hX).trans h1.f1, Nat.lt_of_lt_of_le h1.lt ht.size, ?_⟩
  refine h1.below.trans (ht.below h1.below.size ?_)
  rintro i (rfl | e)
  · exact h.high.2.1
  · have := (h1.tab.mem.row.lt i e.symm).1
    have := h.high.1
    omega

/-- The round's end where the name is asked for: what it means is told anew. -/
theorem DeepR.store {W : World} {X b ba bt : Nat} {ask : ByteArray} {k : Nat} {PL : List Pl} {v' : Value} {w' : World} {x : Pl} {wk wn : Int} (hW : Words (PL ++ [x]) []) (hlen : PL.length ≤ k) (hs : x.name = ask)
    (hT : TabIs w' (X + 1) b ba bt v' (PL ++ [x]) [] 0 (.map []) (.map [])) (c0 : w'.cell? ⟨X, 0, none⟩ = some (.int .i64 wk)) (c1 : w'.cell? ⟨X, 1, none⟩ = some (.int .i64 wn)) (f0 : w'.frozen? ⟨X, 0, none⟩ = false) (f1 : w'.frozen? ⟨X, 1, none⟩ = false)
    (hlt : X < w'.heap.size) (hb : Below W.heap.size W w') (high : W.heap.size ≤ X ∧ W.heap.size ≤ b ∧ W.heap.size ≤ ba ∧ W.heap.size ≤ bt) (hXb : X ≠ b) (hXa : X ≠ ba) (hXt : X ≠ bt) :
    DeepR W X b ba bt ask (k + 1) (PL ++ [x]) v' x.k x.n ((w'.setCell ⟨X, 0, none⟩ (.int .i64 x.k)).setCell ⟨X, 1, none⟩ (.int .i64 x.n)) := by
  have e0 : (w'.setCell ⟨X, 0, none⟩ (.int .i64 x.k)).cell? ⟨X, 1, none⟩ = some (.int .i64 wn) := by rw [World.cell?_setCell_other _ _ _ _ (by simp)]; exact c1
  have own := hT.mem.own
  refine ⟨⟨⟨hT.mem.low, ?_, ?_, ?_, ?_⟩, hT.has, hT.get, hT.size⟩, hW, by simp; omega, ?_, ?_, by simpa using f0, by simpa using f1, by simpa using hlt, want_hit x hs, ?_, high⟩
  · rw [RowKit.Below.heap_setCell _ _ _ _ (Ne.symm hXb), RowKit.Below.heap_setCell _ _ _ _ (Ne.symm hXb)]; exact own
  · refine ownsRow_setCell_other (ownsRow_setCell_other hT.mem.row ?_ _) ?_ _
    all_goals
      intro e
      have := (hT.mem.row.lt X e).1
      omega
  · exact (hT.mem.al.setCell (Ne.symm hXa) _).setCell (Ne.symm hXa) _
  · exact (hT.mem.top.setCell (Ne.symm hXt) _).setCell (Ne.symm hXt) _
  · rw [World.cell?_setCell_other _ _ _ _ (by simp), World.cell?_setCell_same _ _ _ c0]
  · rw [World.cell?_setCell_same _ _ _ e0]
  · exact (hb.setCell high.1 _).setCell high.1 _
end Go.Proofs.YthighbbikpnpgaaDoor
