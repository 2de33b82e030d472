/-
  Layer 11: a table's words; Strip.
-/
import Derived.Test.YthighbbikpnpgaaDoorEvC
namespace Go.Proofs.YthighbbikpnpgaaDoor
open Go.RowKit Go.Maps

/-- A place: within which one, the name that is bound there, what it means. -/
structure Pl where
  within : Int
  name : ByteArray
  k : Int
  n : Int
def Pl.cells (p : Pl) : List Value := [.int .i64 p.within, .string p.name, .int .i64 p.k, .int .i64 p.n]
/-- An alias: its text, what it was made of. -/
structure Al where
  alias : ByteArray
  name : ByteArray
  symbol : ByteArray
  place : Int
def Al.value (a : Al) : Value := .agg #[.string a.name, .string a.symbol, .int .i64 a.place]
def aliasOf (l : List Al) (s : ByteArray) : Option Al := l.find? (fun a => decide (a.alias = s))

/-- A table in memory, by its words. -/
structure TabIs (w : World) (B b ba bt : Nat) (v : Value) (PL : List Pl) (AL : List Al) (nT : Nat) (DA DT : DataW Value) : Prop where
  mem : TabAt w B b ba bt v PL.length (PL.flatMap Pl.cells) AL.length nT DA DT
  has : ∀ s, Maps.has DA (keyL s) = (aliasOf AL s).isSome
  get : ∀ s a z, aliasOf AL s = some a → DA.atKey (keyL s) z = .held a.value
  size : Maps.size DA = AL.length

theorem TabIs.below {w w' : World} {B b ba bt nT : Nat} {v : Value} {PL : List Pl} {AL : List Al} {DA DT : DataW Value} (h : TabIs w B b ba bt v PL AL nT DA DT) (hb : Below w.heap.size w w') :
    TabIs w' B b ba bt v PL AL nT DA DT := ⟨h.mem.below hb, h.has, h.get, h.size⟩

/-- What a look for an alias finds. -/
theorem look_alias {w : World} {B b ba bt nT : Nat} {v : Value} {PL : List Pl} {AL : List Al} {DA DT : DataW Value} (h : TabIs w B b ba bt v PL AL nT DA DT) (s : ByteArray) (hs : s.size ≤ maxLen) :
    (∃ a, aliasOf AL s = some a ∧ (Instr.lookup 96 (.map (some ba)) (.string s) true).run Tryd.prog w = .ok (.tuple #[a.value, .bool true]) w) ∨
    (aliasOf AL s = none ∧ ∃ x y z, (Instr.lookup 96 (.map (some ba)) (.string s) true).run Tryd.prog w = .ok (.tuple #[.agg #[.string x, .string y, .int .i64 z], .bool false]) w) := by
  obtain ⟨x, ps, hl, hx⟩ := h.mem.al.look_ok (Maps.string_keyed underKey) Tryd.underlying96 (zero_origin w) (zd := .held (.agg #[.string ⟨#[]⟩, .string ⟨#[]⟩, .int .i64 0])) rfl (keyOf_str s hs)
  obtain ⟨a1, a2, a3, rfl, hz⟩ := originR_inv hx
  rw [h.has] at hl
  cases ha : aliasOf AL s with
  | none => rw [ha] at hl; exact .inr ⟨rfl, _, _, _, hl⟩
  | some a =>
    rw [h.get s a _ ha] at hz
    simp only [Prod.mk.injEq, DataW.held.injEq] at hz
    rw [ha, ← hz.1] at hl
    exact .inl ⟨a, rfl, hl⟩

/-- The symbol that a name comes from. -/
def stripL (AL : List Al) (s : ByteArray) : ByteArray := match aliasOf AL s with | some a => a.symbol | none => if symL s.data.toList = true then s else ⟨#[]⟩

set_option maxRecDepth 16000 in
theorem strip_any {B b ba bt nT : Nat} {v : Value} {PL : List Pl} {AL : List Al} {DA DT : DataW Value} (s : ByteArray) (hs : s.size ≤ maxLen) (W : World) (h : TabIs W B b ba bt v PL AL nT DA DT) :
    Calls Tryd.prog 29 #[.pointer (some ⟨b, 0, none⟩), .string s] W fun e w' => e = .returned (.string (stripL AL s)) ∧ Below W.heap.size W w' := by
  have h0 : W.cell? ⟨b, 1, none⟩ = some (.map (some ba)) := by rw [cell_of_row W b _ _ _ (0, 0) h.mem.own]; rfl
  have hbl := heap_lt h.mem.own
  rcases look_alias h s hs with ⟨a, ha, hl⟩ | ⟨ha, x, y, z, hl⟩
  · obtain ⟨a0, a1, a2, a3⟩ := a
    have R := Lib.hid (show stripL AL s = a2 by rw [stripL, ha])
    generalize stripL AL s = r at R ⊢
    rw [Al.value] at hl
    clear h ha
    go_enter Tryd.func29, Tryd.ntmps29
    go_wp2_with fail
    go_ret
    exact ⟨by rw [R.out]; rfl, (Below.refl _ _).alloc (Nat.le_refl _) _⟩
  · have R := Lib.hid (show stripL AL s = if symL s.data.toList = true then s else ⟨#[]⟩ by rw [stripL, ha])
    generalize stripL AL s = r at R ⊢
    have cS := Lib.hid (fun W => symbol_any s W)
    generalize symL s.data.toList = q at cS R
    clear h ha
    cases q
    all_goals
      go_enter Tryd.func29, Tryd.ntmps29
      go_wp2_with fail
      refine (cS.out _).mono ?_
      rintro e w' ⟨rfl, hb⟩
      go_wp2_with fail
      go_ret
      exact ⟨by rw [R.out]; rfl, below_trans ((Below.refl _ _).alloc (Nat.le_refl _) _) hb⟩
end Go.Proofs.YthighbbikpnpgaaDoor
