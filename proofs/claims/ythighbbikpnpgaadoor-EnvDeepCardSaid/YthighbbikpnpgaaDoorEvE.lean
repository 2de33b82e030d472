/-
  Layer 11: Extend.
-/
import Derived.Test.YthighbbikpnpgaaDoorEvP
import Derived.Laws.Rows
import Derived.OneCell
import Derived.Deep.RegionLaw
import Derived.Deep.AppendLies
namespace Go.Proofs.YthighbbikpnpgaaDoor
open Go.RowKit Go.Maps

/-- Of the blocks that were there only some have turned. -/
structure Turned (w w' : World) (F : Nat → Prop) : Prop where
  os : w'.os = w.os
  tape : w'.tape = w.tape
  output : w'.output = w.output
  size : w.heap.size ≤ w'.heap.size
  block : ∀ k, k < w.heap.size → ¬ F k → w'.heap[k]? = w.heap[k]?

theorem Turned.of_below {w w' : World} (h : Below w.heap.size w w') (F : Nat → Prop) : Turned w w' F := ⟨h.os, h.tape, h.output, h.size, fun k hk _ => h.block k hk⟩
theorem Turned.trans {w w1 w2 : World} {F G : Nat → Prop} (h : Turned w w1 F) (k : Turned w1 w2 G) (hG : ∀ i, i < w.heap.size → G i → F i) : Turned w w2 F :=
  ⟨k.os.trans h.os, k.tape.trans h.tape, k.output.trans h.output, Nat.le_trans h.size k.size, fun i hi hn => (k.block i (Nat.lt_of_lt_of_le hi h.size) (fun hg => hn (hG i hi hg))).trans (h.block i hi hn)⟩
theorem Turned.below {w w' : World} {F : Nat → Prop} {B : Nat} (h : Turned w w' F) (hB : B ≤ w.heap.size) (hF : ∀ i, F i → B ≤ i) : Below B w w' :=
  ⟨h.os, h.tape, h.output, h.size, fun k hk => h.block k (by omega) (fun hf => by have := hF k hf; omega)⟩

theorem info_place : (Tryd.prog.info? 103).map (fun i => (i.zero, i.size, i.bytes)) = some (some (.agg #[.int .i64 0, .string ⟨#[]⟩, .int .i64 0, .int .i64 0]), 4, 40) := by kernel_rfl

/-- What is wrong with a call of Extend. -/
def extK (at_ : Int) (n : Nat) (ok : Bool) (k : Int) : Int := if thereK at_ n ok ≠ 0 then thereK at_ n ok else if k < 1 ∨ 3 < k then 2 else if 65536 ≤ n then 14 else 0

theorem thereK_cases (at_ : Int) (n : Nat) (ok : Bool) : thereK at_ n ok = 3 ∨ thereK at_ n ok = 2 ∨ (thereK at_ n ok = 0 ∧ 0 ≤ at_ ∧ at_ ≤ n ∧ ok = true) := by
  unfold thereK
  split
  · exact .inl rfl
  · cases ok
    · exact .inr (.inl rfl)
    · exact .inr (.inr ⟨rfl, by omega, by omega, rfl⟩)

theorem cell_alloc_drew (w : World) (o : Obj) (a : Addr) (v : Value) (h : w.cell? a = some v) : (w.alloc o).drew.cell? a = some v := by
  have hl := World.block_lt_of_cell? w a h
  have e : (w.alloc o).drew.heap[a.block]? = w.heap[a.block]? := RowKit.Below.heap_alloc w o _ hl
  unfold World.cell? at h ⊢
  rw [e]
  exact h
theorem frz_a (w : World) (o : Obj) (a : Addr) (h : a.block < w.heap.size) : (w.alloc o).frozen? a = w.frozen? a := by
  have e : (w.alloc o).heap[a.block]? = w.heap[a.block]? := RowKit.Below.heap_alloc w o _ h
  unfold World.frozen?
  rw [e]
theorem frz_ad (w : World) (o : Obj) (a : Addr) (h : a.block < w.heap.size) : (w.alloc o).drew.frozen? a = w.frozen? a := frz_a w o a h
theorem frz_alloc_drew (w : World) (o : Obj) (a : Addr) (h : a.block < w.heap.size) (hf : w.frozen? a = false) : (w.alloc o).drew.frozen? a = false := by
  have e : (w.alloc o).drew.heap[a.block]? = w.heap[a.block]? := RowKit.Below.heap_alloc w o _ h
  unfold World.frozen? at hf ⊢
  rw [e]
  exact hf

theorem map_heap {w w' : World} {P : Program} {k : TypeId} {R : Value → Option (DataW Value × List MemPlace)} {b n : Nat} {D : DataW Value} (h : w.ownsMap P k R b n D) (e : w'.heap[b]? = w.heap[b]?) : w'.ownsMap P k R b n D := by
  obtain ⟨es, clock, hb, r⟩ := h
  exact ⟨es, clock, e.trans hb, r⟩

/-- What is left of Extend's walk. -/
theorem ext_close {B b ba bt nT gg cap' : Nat} {v : Value} {PL : List Pl} {AL : List Al} {DA DT : DataW Value} {W w1 w4 : World} {o : Obj} {x : Pl} (hbb : Below W.heap.size W w1) (h1 : TabIs w1 B b ba bt v PL AL nT DA DT)
    (hown4 : w4.ownsRow B 103 4 (.slice (some ⟨gg, 0, none⟩) (PL.length + 1) cap') (PL.length + 1) (PL.flatMap Pl.cells ++ x.cells))
    (hgrow : (w1.alloc o).drew.grownBy w4 v.ownBlock) (hat : v.ownBlock = some gg ∨ gg = w1.heap.size + 1) :
    ∃ v', TabIs (w4.setCell ⟨b, 0, none⟩ (.slice (some ⟨gg, 0, none⟩) (PL.length + 1) cap')) B b ba bt v' (PL ++ [x]) AL nT DA DT ∧
      Turned W (w4.setCell ⟨b, 0, none⟩ (.slice (some ⟨gg, 0, none⟩) (PL.length + 1) cap')) (fun i => i = b ∨ some i = v.ownBlock) := by
  obtain ⟨hb, hba, hbt, n1, n2, n3⟩ := h1.mem.low
  have hs := hbb.size
  have low : ∀ i, v.ownBlock = some i → B ≤ i ∧ i < w1.heap.size := fun i hi => h1.mem.row.lt i hi
  have far : ∀ i, i < w1.heap.size → some i ≠ v.ownBlock → w4.heap[i]? = w1.heap[i]? := by
    intro i hi hne
    have e1 : (w1.alloc o).drew.heap[i]? = w1.heap[i]? := RowKit.Below.heap_alloc w1 o _ hi
    exact (hgrow.block i (by simp; omega) hne).trans e1
  have lb := heap_lt h1.mem.own
  have nb : some b ≠ v.ownBlock := fun e => by have := (low b e.symm).1; omega
  have na : some ba ≠ v.ownBlock := fun e => by have := (low ba e.symm).1; omega
  have nt : some bt ≠ v.ownBlock := fun e => by have := (low bt e.symm).1; omega
  have la := h1.mem.al.lt
  have lt := h1.mem.top.lt
  have own4 : w4.heap[b]? = some (.cells #[v, .map (some ba), .map (some bt)] 100 (0, 0)) := (far b lb nb).trans h1.mem.own
  have hgg : gg ≠ b := by
    rcases hat with h | h
    · exact fun e => nb (by rw [h, e])
    · omega
  refine ⟨.slice (some ⟨gg, 0, none⟩) (PL.length + 1) cap', ⟨⟨h1.mem.low, ?_, ?_, ?_, ?_⟩, h1.has, h1.get, h1.size⟩, ?_⟩
  · rw [heap_setCell_same w4 b 0 _ _ _ own4]; rfl
  · have e : (PL ++ [x]).flatMap Pl.cells = PL.flatMap Pl.cells ++ x.cells := by simp
    rw [e, List.length_append]
    exact ownsRow_setCell_other hown4 (by simp [Value.ownBlock]; exact hgg) _
  · exact map_heap h1.mem.al ((RowKit.Below.heap_setCell w4 _ _ _ (Ne.symm n1)).trans (far ba la na))
  · exact map_heap h1.mem.top ((RowKit.Below.heap_setCell w4 _ _ _ (Ne.symm n2)).trans (far bt lt nt))
  · refine ⟨hgrow.os.trans hbb.os, hgrow.tape.trans hbb.tape, hgrow.output.trans hbb.output, ?_, ?_⟩
    · have := hgrow.size
      simp at this ⊢
      omega
    · intro i hi hne
      rw [not_or] at hne
      exact (RowKit.Below.heap_setCell w4 _ _ _ hne.1).trans ((far i (by omega) hne.2).trans (hbb.block i hi))

set_option maxRecDepth 100000 in
set_option maxHeartbeats 3200000 in
theorem extend_ok {B b ba bt nT : Nat} {v : Value} {PL : List Pl} {AL : List Al} {DA DT : DataW Value} (at_ : Int) (s : ByteArray) (k n : Int) (hs : s.size ≤ maxLen) (W : World) (h : TabIs W B b ba bt v PL AL nT DA DT)
    (hB : B ≤ W.heap.size) (hE : extK at_ PL.length (nameB AL s) k = 0) :
    Calls Tryd.prog 19 #[.pointer (some ⟨b, 0, none⟩), .int .i64 at_, .string s, .agg #[.int .i64 k, .int .i64 n]] W fun e w' =>
      e = .returned (.tuple #[.int .i64 (PL.length + 1 : Nat), .nilIface]) ∧ ∃ v', TabIs w' B b ba bt v' (PL ++ [⟨at_, s, k, n⟩]) AL nT DA DT ∧ Turned W w' (fun i => i = b ∨ some i = v.ownBlock) := by
  obtain ⟨i0, hi, hz0, hz1, hz2⟩ := info_parts info_place
  have cT := Lib.hid (fun (w : World) (h : TabIs w B b ba bt v PL AL nT DA DT) => there_any at_ s hs w h.mem)
  rw [h.has] at cT
  have e1 : thereK at_ PL.length (nameB AL s) = 0 ∧ ¬ (k < 1 ∨ 3 < k) ∧ ¬ 65536 ≤ PL.length := by
    unfold extK at hE
    by_cases h1 : thereK at_ PL.length (nameB AL s) = 0
    · rw [if_neg (by simpa using h1)] at hE
      by_cases h2 : k < 1 ∨ 3 < k
      · rw [if_pos h2] at hE; simp at hE
      · rw [if_neg h2] at hE
        by_cases h3 : 65536 ≤ PL.length
        · rw [if_pos h3] at hE; simp at hE
        · exact ⟨h1, h2, h3⟩
    · rw [if_pos h1] at hE; exact absurd hE h1
  obtain ⟨e1, e2, e3⟩ := e1
  rw [show ((aliasOf AL s).isSome || symL s.data.toList) = nameB AL s from rfl, e1, show errV 0 = .nilIface from rfl] at cT
  have k1 : decide (k < 1) = false := by simp; omega
  have k2 : decide (3 < k) = false := by simp; omega
  have p1 : decide (65536 ≤ (PL.length : Int)) = false := by simp; omega
  clear e1 hE
  go_enter Tryd.func19, Tryd.ntmps19
  go_wp2_with fail
  have hbm : Below W.heap.size W (W.alloc (.cells #[.int .i64 k, .int .i64 n] 27)) := (Below.refl _ _).alloc (Nat.le_refl _) _
  refine (cT.out _ (h.below hbm)).mono ?_
  rintro e w1 ⟨rfl, hb1⟩
  have hm : w1.heap[W.heap.size]? = some (.cells #[.int .i64 k, .int .i64 n] 27 (0, 0)) := heap_below (heap_alloc_new W _) hb1 (by simp)
  have hbb := below_trans hbm hb1
  have hm0 : w1.cell? ⟨W.heap.size, 0, none⟩ = some (.int .i64 k) := by rw [cell_of_row w1 _ _ _ _ (0, 0) hm]; rfl
  have hm1 : w1.cell? ⟨W.heap.size, 1, none⟩ = some (.int .i64 n) := by rw [cell_of_row w1 _ _ _ _ (0, 0) hm]; rfl
  clear hm hbm hb1 cT
  have h1 := h.below hbb
  have hv : w1.cell? ⟨b, 0, none⟩ = some v := by rw [cell_of_row w1 b _ _ _ (0, 0) h1.mem.own]; rfl
  obtain ⟨pp, cap, rfl⟩ := own_len h.mem.row
  have hrow := h1.mem.row
  have hbs := hbb.size
  have hlow := h.mem.low
  have hob : (Value.slice pp PL.length cap).ownBlock ≠ some b := by
    intro e
    have := (hrow.lt b e).1
    omega
  have hobW : (Value.slice pp PL.length cap).ownBlock ≠ some W.heap.size := by
    intro e
    have := (h.mem.row.lt _ e).2
    omega
  have lb := heap_lt h1.mem.own
  have lw := World.block_lt_of_cell? w1 _ hm0
  have hfb : w1.frozen? ⟨b, 0, none⟩ = false := by simp [World.frozen?, h1.mem.own]
  go_wp2_with fail
  go_region_law ((refine step_append_lies _ (by rfl) _ _ _ (by rfl) B 103 i0 _ 4 40 Tryd.underlying98 hi hz0 hz1 hz2 rfl (by omega) (.slice pp PL.length cap) PL.length (PL.flatMap Pl.cells) (by rfl) ((hrow.alloc _).drew) ⟨w1.heap.size, 0, none⟩ 1 1 (Pl.mk at_ s k n).cells (by rfl) (by rfl) (World.news_of_block (cs := #[.int .i64 at_, .string s, .int .i64 k, .int .i64 n]) (t := 103) (fr := (0, 0)) (heap_alloc_new w1 _)) (by simp [Value.oneCell', Pl.cells]) (by omega) (by unfold maxLen; omega) (by omega) (by simp; omega) (w1.heap.size + 1) (by simp) ?_; intro gg cap' w4 hown4 hgrow hat hlt; have hc4 : w4.cell? ⟨b, 0, none⟩ = some (.slice pp PL.length cap) := (hgrow.cell_far _ (by simp; omega) (Ne.symm hob)).trans (cell_alloc_drew _ _ _ _ hv); have hf4 : w4.frozen? ⟨b, 0, none⟩ = false := (hgrow.frozen_far _ (by simp; omega) (Ne.symm hob)).trans (frz_alloc_drew _ _ _ lb hfb); have hb4 : b < w4.heap.size := World.block_lt_of_cell? w4 _ hc4))
  all_goals go_wp2
  all_goals go_ret2
  all_goals exact ⟨by simp, ext_close hbb h1 hown4 hgrow hat⟩

/-- What Extend refuses. -/
theorem extend_bad {B b ba bt nT : Nat} {v : Value} {PL : List Pl} {AL : List Al} {DA DT : DataW Value} (at_ : Int) (s : ByteArray) (k n : Int) (hs : s.size ≤ maxLen) (W : World) (h : TabIs W B b ba bt v PL AL nT DA DT)
    (hE : extK at_ PL.length (nameB AL s) k ≠ 0) :
    Calls Tryd.prog 19 #[.pointer (some ⟨b, 0, none⟩), .int .i64 at_, .string s, .agg #[.int .i64 k, .int .i64 n]] W fun e w' =>
      e = .returned (.tuple #[.int .i64 0, errV (extK at_ PL.length (nameB AL s) k)]) ∧ Below W.heap.size W w' := by
  have cT := Lib.hid (fun (w : World) (h : TabIs w B b ba bt v PL AL nT DA DT) => there_any at_ s hs w h.mem)
  rw [h.has] at cT
  rw [show ((aliasOf AL s).isSome || symL s.data.toList) = nameB AL s from rfl] at cT
  have hbm : Below W.heap.size W (W.alloc (.cells #[.int .i64 k, .int .i64 n] 27)) := (Below.refl _ _).alloc (Nat.le_refl _) _
  have hx := Lib.hid (show ∀ t, thereK at_ PL.length (nameB AL s) = t → extK at_ PL.length (nameB AL s) k = if t ≠ 0 then t else if k < 1 ∨ 3 < k then 2 else if 65536 ≤ PL.length then 14 else 0 from fun t e => by rw [extK, e])
  rcases thereK_cases at_ PL.length (nameB AL s) with e | e | ⟨e, _, _, _⟩
  · rw [e] at cT
    have R := Lib.hid (hx.out 3 e)
    generalize extK at_ PL.length (nameB AL s) k = r at R hE ⊢
    rw [show errV 3 = kindV 3 from rfl] at cT
    clear e hx
    go_enter Tryd.func19, Tryd.ntmps19
    go_wp2_with fail
    refine (cT.out _ (h.below hbm)).mono ?_
    rintro e w1 ⟨rfl, hb1⟩
    go_wp2_with fail
    go_ret2
    exact ⟨by rw [R.out]; rfl, below_trans hbm hb1⟩
  · rw [e] at cT
    have R := Lib.hid (hx.out 2 e)
    generalize extK at_ PL.length (nameB AL s) k = r at R hE ⊢
    rw [show errV 2 = kindV 2 from rfl] at cT
    clear e hx
    go_enter Tryd.func19, Tryd.ntmps19
    go_wp2_with fail
    refine (cT.out _ (h.below hbm)).mono ?_
    rintro e w1 ⟨rfl, hb1⟩
    go_wp2_with fail
    go_ret2
    exact ⟨by rw [R.out]; rfl, below_trans hbm hb1⟩
  · rw [e] at cT
    have R0 := Lib.hid (hx.out 0 e)
    generalize extK at_ PL.length (nameB AL s) k = r at R0 hE ⊢
    rw [show errV 0 = .nilIface from rfl] at cT
    clear e hx
    obtain ⟨pp, cap, rfl⟩ := own_len h.mem.row
    by_cases h1 : k < 1
    · have k1 : decide (k < 1) = true := decide_eq_true h1
      have R := Lib.hid (show r = 2 by rw [R0.out]; simp [h1])
      clear R0 hE
      go_enter Tryd.func19, Tryd.ntmps19
      go_wp2_with fail
      refine (cT.out _ (h.below hbm)).mono ?_
      rintro e w1 ⟨rfl, hb1⟩
      have hm : w1.heap[W.heap.size]? = some (.cells #[.int .i64 k, .int .i64 n] 27 (0, 0)) := heap_below (heap_alloc_new W _) hb1 (by simp)
      have hm0 : w1.cell? ⟨W.heap.size, 0, none⟩ = some (.int .i64 k) := by rw [cell_of_row w1 _ _ _ _ (0, 0) hm]; rfl
      clear hm
      go_wp2_with fail
      go_ret2
      exact ⟨by rw [R.out]; rfl, below_trans hbm hb1⟩
    · have k1 : decide (k < 1) = false := decide_eq_false h1
      by_cases h2 : 3 < k
      · have k2 : decide (3 < k) = true := decide_eq_true h2
        have R := Lib.hid (show r = 2 by rw [R0.out]; simp [h2])
        clear R0 hE
        go_enter Tryd.func19, Tryd.ntmps19
        go_wp2_with fail
        refine (cT.out _ (h.below hbm)).mono ?_
        rintro e w1 ⟨rfl, hb1⟩
        have hm : w1.heap[W.heap.size]? = some (.cells #[.int .i64 k, .int .i64 n] 27 (0, 0)) := heap_below (heap_alloc_new W _) hb1 (by simp)
        have hm0 : w1.cell? ⟨W.heap.size, 0, none⟩ = some (.int .i64 k) := by rw [cell_of_row w1 _ _ _ _ (0, 0) hm]; rfl
        clear hm
        go_wp2_with fail
        go_ret2
        exact ⟨by rw [R.out]; rfl, below_trans hbm hb1⟩
      · have k2 : decide (3 < k) = false := decide_eq_false h2
        have h3 : 65536 ≤ PL.length := by
          rcases Nat.lt_or_ge PL.length 65536 with h3 | h3
          · exfalso
            apply hE
            rw [R0.out]
            simp
            omega
          · exact h3
        have p1 : decide (65536 ≤ (PL.length : Int)) = true := by simp; omega
        have R := Lib.hid (show r = 14 by rw [R0.out]; simp; omega)
        clear R0 hE
        go_enter Tryd.func19, Tryd.ntmps19
        go_wp2_with fail
        refine (cT.out _ (h.below hbm)).mono ?_
        rintro e w1 ⟨rfl, hb1⟩
        have hm : w1.heap[W.heap.size]? = some (.cells #[.int .i64 k, .int .i64 n] 27 (0, 0)) := heap_below (heap_alloc_new W _) hb1 (by simp)
        have hm0 : w1.cell? ⟨W.heap.size, 0, none⟩ = some (.int .i64 k) := by rw [cell_of_row w1 _ _ _ _ (0, 0) hm]; rfl
        have hv : w1.cell? ⟨b, 0, none⟩ = some (.slice pp PL.length cap) := by rw [cell_of_row w1 b _ _ _ (0, 0) (h.below (below_trans hbm hb1)).mem.own]; rfl
        clear hm
        go_wp2_with fail
        go_ret2
        exact ⟨by rw [R.out]; rfl, below_trans hbm hb1⟩
end Go.Proofs.YthighbbikpnpgaaDoor
