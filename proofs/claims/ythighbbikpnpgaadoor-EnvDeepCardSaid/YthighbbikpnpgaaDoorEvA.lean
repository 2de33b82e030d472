/-
  Layer 11's tables: what the memory of one holds; whether a text is a name.
-/
import Derived.Test.YthighbbikpnpgaaDoorLxD
import Derived.Maps.OwnSet
namespace Go.Proofs.YthighbbikpnpgaaDoor
open Go.RowKit Go.Maps

/-- How an alias's origin reads here: as itself; likewise a meaning. -/
def originR (v : Value) : Option (DataW Value × List MemPlace) :=
  match v with
  | .agg ⟨[.string _, .string _, .int .i64 _]⟩ => some (.held v, [])
  | _ => none
def meaningR (v : Value) : Option (DataW Value × List MemPlace) :=
  match v with
  | .agg ⟨[.int .i64 _, .int .i64 _]⟩ => some (.held v, [])
  | _ => none
theorem originR_inv {v : Value} {z : DataW Value × List MemPlace} (h : originR v = some z) : ∃ a b c, v = .agg #[.string a, .string b, .int .i64 c] ∧ z = (.held v, []) := by
  unfold originR at h
  split at h
  · cases h; exact ⟨_, _, _, rfl, rfl⟩
  · cases h
theorem meaningR_inv {v : Value} {z : DataW Value × List MemPlace} (h : meaningR v = some z) : ∃ a b, v = .agg #[.int .i64 a, .int .i64 b] ∧ z = (.held v, []) := by
  unfold meaningR at h
  split at h
  · cases h; exact ⟨_, _, rfl, rfl⟩
  · cases h
abbrev keyL (s : ByteArray) : Lit := .string s.data.toList

theorem underKey : Tryd.prog.underlying 9 = some .string := Tryd.underlying9
theorem keyOf_str (s : ByteArray) (h : s.size ≤ maxLen) : keyOf Tryd.prog 9 (.string s) = some (keyL s) := by
  first | exact keyOf_string_mk underKey h | exact keyOf_string_mk underKey | exact Go.WideMaps.keyOf_string_mk underKey h

theorem zero_origin (w : World) : (zeroValue 116).run Tryd.prog w = .ok (.agg #[.string ⟨#[]⟩, .string ⟨#[]⟩, .int .i64 0]) w := by kernel_rfl
theorem zero_meaning (w : World) : (zeroValue 27).run Tryd.prog w = .ok (.agg #[.int .i64 0, .int .i64 0]) w := by kernel_rfl

/-- A table in memory: its own block b, its maps' blocks, its places' row. -/
structure TabAt (w : World) (B b ba bt : Nat) (v : Value) (n : Nat) (cells : List Value) (nA nT : Nat) (DA DT : DataW Value) : Prop where
  low : b < B ∧ ba < B ∧ bt < B ∧ b ≠ ba ∧ b ≠ bt ∧ ba ≠ bt
  own : w.heap[b]? = some (.cells #[v, .map (some ba), .map (some bt)] 100 (0, 0))
  row : w.ownsRow B 103 4 v n cells
  al : w.ownsMap Tryd.prog 9 originR ba nA DA
  top : w.ownsMap Tryd.prog 9 meaningR bt nT DT

theorem TabAt.below {w w' : World} {B b ba bt n nA nT : Nat} {v : Value} {cells : List Value} {DA DT : DataW Value} (h : TabAt w B b ba bt v n cells nA nT DA DT) (hb : Below w.heap.size w w') :
    TabAt w' B b ba bt v n cells nA nT DA DT where
  low := h.low
  own := heap_below h.own hb (heap_lt h.own)
  row := own_below h.row hb
  al := h.al.kept (row := none) ⟨hb.os, hb.tape, hb.output, hb.size, fun k hk _ => hb.block k hk⟩ (by simp)
  top := h.top.kept (row := none) ⟨hb.os, hb.tape, hb.output, hb.size, fun k hk _ => hb.block k hk⟩ (by simp)

set_option maxRecDepth 16000 in
theorem name_any {B b ba bt n nA nT : Nat} {v : Value} {cells : List Value} {DA DT : DataW Value} (s : ByteArray) (hs : s.size ≤ maxLen) (W : World) (h : TabAt W B b ba bt v n cells nA nT DA DT) :
    Calls Tryd.prog 78 #[.pointer (some ⟨b, 0, none⟩), .string s] W fun e w' => e = .returned (.bool (Maps.has DA (keyL s) || symL s.data.toList)) ∧ Below W.heap.size W w' := by
  have h0 : W.cell? ⟨b, 1, none⟩ = some (.map (some ba)) := by rw [cell_of_row W b _ _ _ (0, 0) h.own]; rfl
  obtain ⟨x, ps, hl, hx⟩ := h.al.look_ok (Maps.string_keyed underKey) Tryd.underlying96 (zero_origin W) (zd := .held (.agg #[.string ⟨#[]⟩, .string ⟨#[]⟩, .int .i64 0])) rfl (keyOf_str s hs)
  obtain ⟨a1, a2, a3, rfl, _⟩ := originR_inv hx
  clear hx
  generalize Maps.has DA (keyL s) = q at hl ⊢
  have cS := Lib.hid (fun W => symbol_any s W)
  generalize symL s.data.toList = y at cS ⊢
  clear h
  cases q
  · go_enter Tryd.func78, Tryd.ntmps78
    go_wp2_with fail
    refine (cS.out _).mono ?_
    rintro e w' ⟨rfl, hb⟩
    go_wp2_with fail
    go_ret
    exact ⟨by simp, below_trans ((Below.refl _ _).alloc (Nat.le_refl _) _) hb⟩
  · go_enter Tryd.func78, Tryd.ntmps78
    go_wp2_with fail
    go_ret
    exact ⟨by simp, (Below.refl _ _).alloc (Nat.le_refl _) _⟩
end Go.Proofs.YthighbbikpnpgaaDoor
