/-
  Layer 11: Find.
-/
import Derived.Test.YthighbbikpnpgaaDoorEvF
namespace Go.Proofs.YthighbbikpnpgaaDoor
open Go.RowKit Go.Maps

theorem binds_size {PL : List Pl} {AL : List Al} (hW : Words PL AL) {p : Nat} {s : ByteArray} {q : Nat} {t : ByteArray} (h : Binds PL AL p s q t) : s.size ≤ maxLen → t.size ≤ maxLen := by
  induction h with
  | here => exact id
  | bare => exact id
  | via _ ha _ ih => intro _; exact ih (by have := (hW.sizes _ (alias_mem ha).1).1; unfold maxLen; omega)

def Finds (PL : List Pl) (AL : List Al) (DT : DataW Value) (p : Nat) (s : ByteArray) (k n : Int) : Prop :=
  ∃ q t, Binds PL AL p s q t ∧ ((q ≠ 0 ∧ ∃ x, PL[q - 1]? = some x ∧ x.k = k ∧ x.n = n) ∨ (q = 0 ∧ DT.atKey (keyL t) (.held (.agg #[.int .i64 0, .int .i64 0])) = .held (.agg #[.int .i64 k, .int .i64 n])))

theorem Finds.one {PL : List Pl} {AL : List Al} {DT : DataW Value} {p : Nat} {s : ByteArray} {k n k' n' : Int} (h : Finds PL AL DT p s k n) (h' : Finds PL AL DT p s k' n') : k = k' ∧ n = n' := by
  obtain ⟨q, t, hb, h⟩ := h
  obtain ⟨q', t', hb', h'⟩ := h'
  obtain ⟨rfl, rfl⟩ := hb.one hb'
  rcases h with ⟨h0, x, hx, rfl, rfl⟩ | ⟨h0, e⟩
  · rcases h' with ⟨_, x', hx', rfl, rfl⟩ | ⟨h0', _⟩
    · rw [hx] at hx'; cases hx'; exact ⟨rfl, rfl⟩
    · exact absurd h0' h0
  · rcases h' with ⟨h0', _⟩ | ⟨_, e'⟩
    · exact absurd h0 h0'
    · rw [e] at e'
      simp at e'
      exact e'

def FindsTo (PL : List Pl) (AL : List Al) (DT : DataW Value) (p : Nat) (s : ByteArray) (W : World) (e : Ending) (w' : World) : Prop :=
  ∃ k n, Finds PL AL DT p s k n ∧ e = .returned (.tuple #[.agg #[.int .i64 k, .int .i64 n], .nilIface]) ∧ Below W.heap.size W w'

/-- What a look at the top finds. -/
theorem look_top {w : World} {B b ba bt nT : Nat} {v : Value} {PL : List Pl} {AL : List Al} {DA DT : DataW Value} (h : TabIs w B b ba bt v PL AL nT DA DT) (s : ByteArray) (hs : s.size ≤ maxLen) :
    ∃ k n, DT.atKey (keyL s) (.held (.agg #[.int .i64 0, .int .i64 0])) = .held (.agg #[.int .i64 k, .int .i64 n]) ∧ (Instr.lookup 97 (.map (some bt)) (.string s) false).run Tryd.prog w = .ok (.agg #[.int .i64 k, .int .i64 n]) w := by
  obtain ⟨x, ps, hl, hx⟩ := h.mem.top.lookup (Maps.string_keyed underKey) Tryd.underlying97 (zero_meaning w) (zd := .held (.agg #[.int .i64 0, .int .i64 0])) rfl (keyOf_str s hs)
  obtain ⟨a, b, rfl, hz⟩ := meaningR_inv hx
  simp at hz
  exact ⟨a, b, hz.1, hl⟩

theorem new_cells2 (W w : World) (a b : Value) (t : TypeId) (hb : Below (W.alloc (.cells #[a, b] t)).heap.size (W.alloc (.cells #[a, b] t)) w) :
    w.cell? ⟨W.heap.size, 0, none⟩ = some a ∧ w.cell? ⟨W.heap.size, 1, none⟩ = some b ∧ w.frozen? ⟨W.heap.size, 0, none⟩ = false ∧ w.frozen? ⟨W.heap.size, 1, none⟩ = false ∧ W.heap.size < w.heap.size := by
  have hm : w.heap[W.heap.size]? = some (.cells #[a, b] t (0, 0)) := heap_below (heap_alloc_new W _) hb (by simp)
  refine ⟨?_, ?_, ?_, ?_, (Array.getElem?_eq_some_iff.1 hm).1⟩
  all_goals first | (rw [cell_of_row w _ _ _ _ (0, 0) hm]; rfl) | simp [World.frozen?, hm]

set_option maxRecDepth 16000 in
set_option maxHeartbeats 1000000 in
theorem find_ok {B b ba bt nT : Nat} {v : Value} {PL : List Pl} {AL : List Al} {DA DT : DataW Value} (hW : Words PL AL) (hl63 : PL.length ≤ 1000000) (p : Nat) (s : ByteArray) (hs : s.size ≤ maxLen) (hp : p ≤ PL.length) (hn : nameB AL s = true) (W : World) (h : TabIs W B b ba bt v PL AL nT DA DT) :
    Calls Tryd.prog 20 #[.pointer (some ⟨b, 0, none⟩), .int .i64 (p : Nat), .string s] W (FindsTo PL AL DT p s W) := by
  have cT := Lib.hid (fun (w : World) (h : TabIs w B b ba bt v PL AL nT DA DT) => there_any p s hs w h.mem)
  rw [h.has] at cT
  rw [show ((aliasOf AL s).isSome || symL s.data.toList) = nameB AL s from rfl, hn, show thereK (p : Int) PL.length true = 0 by rw [thereK, if_neg (by omega)]; rfl, show errV 0 = .nilIface from rfl] at cT
  obtain ⟨kk, hc⟩ := hW.chain s
  have cB := Lib.hid (fun (w : World) (h : TabIs w B b ba bt v PL AL nT DA DT) => binds_any hW hl63 kk s hc p w hs hp h)
  have HH := Lib.hid h
  have HW := Lib.hid hW
  clear hc hn hW h
  go_enter Tryd.func20, Tryd.ntmps20
  go_wp2_with fail
  have hb0 : Below W.heap.size W (W.alloc (.cells #[.int .i64 0, .int .i64 0] 27)) := (Below.refl _ _).alloc (Nat.le_refl _) _
  refine (cT.out _ (HH.out.below hb0)).mono ?_
  rintro e w1 ⟨rfl, hb1⟩
  go_wp2_with fail
  refine (cB.out _ (HH.out.below (below_trans hb0 hb1))).mono ?_
  rintro e w2 ⟨q, t, hB, rfl, hb2⟩
  have hb3 := below_trans hb1 hb2
  have hb4 := below_trans hb0 hb3
  obtain ⟨c0, c1, f0, f1, hlt⟩ := new_cells2 W w2 _ _ _ hb3
  have hT := HH.out.below hb4
  have hts := binds_size HW.out hB hs
  have hql := binds_le HW.out hB hp
  have hqh := binds_has HW.out hB
  have HB := Lib.hid hB
  clear hB hb1 hb2 cT cB
  by_cases hq : q = 0
  · subst hq
    obtain ⟨k, n, hk, hr⟩ := look_top hT t hts
    have HK := Lib.hid hk
    have h0 : w2.cell? ⟨b, 2, none⟩ = some (.map (some bt)) := by rw [cell_of_row w2 b _ _ _ (0, 0) hT.mem.own]; rfl
    clear hk hT hqh
    go_wp2_with fail
    refine bodyPost_ret (v := .tuple #[.agg #[.int .i64 k, .int .i64 n], .nilIface]) (by simp [results, Tryd.results20, go_sem, *]) rfl ⟨k, n, ⟨0, t, HB.out, .inr ⟨rfl, HK.out⟩⟩, rfl, ?_⟩
    exact (hb4.setCell (Nat.le_refl _) _).setCell (Nat.le_refl _) _
  · obtain ⟨x, hx⟩ := hqh hq
    obtain ⟨g, cap, rfl, hcap, d0, _, _, d2, d3⟩ := place_cells hT (q - 1) x hx
    have HX := Lib.hid hx
    have hq0 : (0 : Int) < q := by omega
    have HQ := Lib.hid hq
    clear hx hT hqh hq
    go_wp2_with fail
    refine bodyPost_ret (v := .tuple #[.agg #[.int .i64 x.k, .int .i64 x.n], .nilIface]) (by simp [results, Tryd.results20, go_sem, *]) rfl ⟨x.k, x.n, ⟨q, t, HB.out, .inl ⟨HQ.out, x, HX.out, rfl, rfl⟩⟩, rfl, ?_⟩
    exact (hb4.setCell (Nat.le_refl _) _).setCell (Nat.le_refl _) _

theorem find_bad {B b ba bt nT : Nat} {v : Value} {PL : List Pl} {AL : List Al} {DA DT : DataW Value} (at_ : Int) (s : ByteArray) (hs : s.size ≤ maxLen) (W : World) (h : TabIs W B b ba bt v PL AL nT DA DT) (hE : thereK at_ PL.length (nameB AL s) ≠ 0) :
    Calls Tryd.prog 20 #[.pointer (some ⟨b, 0, none⟩), .int .i64 at_, .string s] W fun e w' => e = .returned (.tuple #[.agg #[.int .i64 0, .int .i64 0], kindV (thereK at_ PL.length (nameB AL s))]) ∧ Below W.heap.size W w' := by
  have cT := Lib.hid (fun (w : World) (h : TabIs w B b ba bt v PL AL nT DA DT) => there_any at_ s hs w h.mem)
  rw [h.has] at cT
  rw [show ((aliasOf AL s).isSome || symL s.data.toList) = nameB AL s from rfl] at cT
  have HH := Lib.hid h
  clear h
  have h3 : thereK at_ PL.length (nameB AL s) = 3 ∨ thereK at_ PL.length (nameB AL s) = 2 := by
    rcases thereK_cases at_ PL.length (nameB AL s) with e | e | ⟨e, _, _, _⟩
    · exact .inl e
    · exact .inr e
    · exact absurd e hE
  clear hE
  rcases h3 with e | e
  all_goals
    rw [e] at cT ⊢
    clear e
    (first | rw [show errV 3 = kindV 3 from rfl] at cT | rw [show errV 2 = kindV 2 from rfl] at cT)
    go_enter Tryd.func20, Tryd.ntmps20
    go_wp2_with fail
    have hb0 : Below W.heap.size W (W.alloc (.cells #[.int .i64 0, .int .i64 0] 27)) := (Below.refl _ _).alloc (Nat.le_refl _) _
    refine (cT.out _ (HH.out.below hb0)).mono ?_
    rintro e w1 ⟨rfl, hb1⟩
    have hb4 := below_trans hb0 hb1
    obtain ⟨c0, c1, f0, f1, hlt⟩ := new_cells2 W w1 _ _ _ hb1
    go_wp2_with fail
    refine bodyPost_ret (v := .tuple #[.agg #[.int .i64 0, .int .i64 0], _]) (by simp [results, Tryd.results20, go_sem, *]) rfl ⟨rfl, ?_⟩
    exact (hb4.setCell (Nat.le_refl _) _).setCell (Nat.le_refl _) _
end Go.Proofs.YthighbbikpnpgaaDoor
