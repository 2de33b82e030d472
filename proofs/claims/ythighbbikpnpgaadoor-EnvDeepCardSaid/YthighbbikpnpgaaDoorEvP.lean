/-
  Layer 11, plain words: which place binds a name; what stays as places and aliases are made.
-/
import Derived.Test.YthighbbikpnpgaaDoorEvD
namespace Go.Proofs.YthighbbikpnpgaaDoor
open Go.RowKit Go.Maps

def nameB (AL : List Al) (s : ByteArray) : Bool := (aliasOf AL s).isSome || symL s.data.toList

/-- From a place outwards: the innermost place that binds a name; 0: none. -/
def upL (PL : List Pl) (s : ByteArray) : Nat → Nat → Nat
  | 0, _ => 0
  | f + 1, p => if p = 0 then 0 else match PL[p - 1]? with
    | none => 0
    | some q => if q.name = s then p else upL PL s f q.within.toNat

/-- Each place lies within an earlier one. -/
def Nest (PL : List Pl) : Prop := ∀ (i : Nat) (q : Pl), PL[i]? = some q → 0 ≤ q.within ∧ q.within ≤ i

theorem up_fuel {PL : List Pl} (h : Nest PL) (s : ByteArray) : ∀ p f g, p ≤ f → p ≤ g → upL PL s f p = upL PL s g p := by
  intro p
  induction p using Nat.strongRecOn with
  | ind p ih =>
    intro f g hf hg
    by_cases h0 : p = 0
    · subst h0; cases f <;> cases g <;> simp [upL]
    · obtain ⟨f, rfl⟩ : ∃ m, f = m + 1 := ⟨f - 1, by omega⟩
      obtain ⟨g, rfl⟩ : ∃ m, g = m + 1 := ⟨g - 1, by omega⟩
      simp only [upL, if_neg h0]
      cases hq : PL[p - 1]? with
      | none => rfl
      | some q =>
        obtain ⟨h1, h2⟩ := h _ q hq
        simp only
        split
        · rfl
        · exact ih q.within.toNat (by omega) f g (by omega) (by omega)

abbrev upP (PL : List Pl) (s : ByteArray) (p : Nat) : Nat := upL PL s p p

theorem up_zero (PL : List Pl) (s : ByteArray) : upP PL s 0 = 0 := rfl
theorem up_hit {PL : List Pl} {s : ByteArray} {p : Nat} {q : Pl} (hp : 0 < p) (hq : PL[p - 1]? = some q) (hn : q.name = s) : upP PL s p = p := by
  obtain ⟨f, rfl⟩ : ∃ m, p = m + 1 := ⟨p - 1, by omega⟩
  simp only [upP, upL, if_neg (Nat.succ_ne_zero f), hq, if_pos hn]
theorem up_miss {PL : List Pl} (h : Nest PL) {s : ByteArray} {p : Nat} {q : Pl} (hp : 0 < p) (hq : PL[p - 1]? = some q) (hn : ¬ q.name = s) : upP PL s p = upP PL s q.within.toNat := by
  obtain ⟨h1, h2⟩ := h _ q hq
  obtain ⟨f, rfl⟩ : ∃ m, p = m + 1 := ⟨p - 1, by omega⟩
  simp only [upP, upL, if_neg (Nat.succ_ne_zero f), hq, if_neg hn]
  exact up_fuel h s _ _ _ (by omega) (Nat.le_refl _)

theorem up_le {PL : List Pl} (h : Nest PL) (s : ByteArray) : ∀ p, upP PL s p ≤ p ∧ (upP PL s p ≠ 0 → ∃ q, PL[upP PL s p - 1]? = some q ∧ q.name = s) := by
  intro p
  induction p using Nat.strongRecOn with
  | ind p ih =>
    by_cases h0 : p = 0
    · subst h0; exact ⟨Nat.le_refl _, fun h => absurd (up_zero PL s) h⟩
    · cases hq : PL[p - 1]? with
      | none =>
        obtain ⟨f, rfl⟩ : ∃ m, p = m + 1 := ⟨p - 1, by omega⟩
        have e : upP PL s (f + 1) = 0 := by simp only [upP, upL, if_neg (Nat.succ_ne_zero f), hq]
        rw [e]
        exact ⟨by omega, fun h => absurd rfl h⟩
      | some q =>
        by_cases hn : q.name = s
        · rw [up_hit (by omega) hq hn]
          exact ⟨Nat.le_refl _, fun _ => ⟨q, hq, hn⟩⟩
        · rw [up_miss h (by omega) hq hn]
          obtain ⟨h1, h2⟩ := h _ q hq
          obtain ⟨i1, i2⟩ := ih q.within.toNat (by omega)
          exact ⟨by omega, i2⟩

/-- A place more, further in: what was known further out stays. -/
theorem up_more {PL : List Pl} (h : Nest PL) (x : Pl) (s : ByteArray) : ∀ p, p ≤ PL.length → upP (PL ++ [x]) s p = upP PL s p := by
  intro p
  induction p using Nat.strongRecOn with
  | ind p ih =>
    intro hp
    by_cases h0 : p = 0
    · subst h0; rfl
    · have hq : PL[p - 1]? = some (PL[p - 1]'(by omega)) := List.getElem?_eq_getElem (by omega)
      have hq' : (PL ++ [x])[p - 1]? = some (PL[p - 1]'(by omega)) := by rw [List.getElem?_append_left (by omega)]; exact hq
      generalize (PL[p - 1]'(by omega)) = q at hq hq'
      obtain ⟨h1, h2⟩ := h _ q hq
      obtain ⟨f, rfl⟩ : ∃ m, p = m + 1 := ⟨p - 1, by omega⟩
      by_cases hn : q.name = s
      · rw [up_hit (by omega) hq hn, up_hit (by omega) hq' hn]
      · rw [up_miss h (by omega) hq hn]
        have hN : upP (PL ++ [x]) s (f + 1) = upL (PL ++ [x]) s f q.within.toNat := by
          simp only [upP, upL, if_neg (Nat.succ_ne_zero f)]
          rw [show (PL ++ [x])[f + 1 - 1]? = some q from hq']
          simp only [if_neg hn]
        rw [hN, ← ih q.within.toNat (by omega) (by omega)]
        have : ∀ f g p, p ≤ f → p ≤ g → p ≤ PL.length → upL (PL ++ [x]) s f p = upL (PL ++ [x]) s g p := by
          intro f g p
          induction p using Nat.strongRecOn generalizing f g with
          | ind p ihp =>
            intro hf hg hl
            by_cases h0 : p = 0
            · subst h0; cases f <;> cases g <;> simp [upL]
            · obtain ⟨f, rfl⟩ : ∃ m, f = m + 1 := ⟨f - 1, by omega⟩
              obtain ⟨g, rfl⟩ : ∃ m, g = m + 1 := ⟨g - 1, by omega⟩
              simp only [upL, if_neg h0]
              have hr : PL[p - 1]? = some (PL[p - 1]'(by omega)) := List.getElem?_eq_getElem (by omega)
              have hr' : (PL ++ [x])[p - 1]? = some (PL[p - 1]'(by omega)) := by rw [List.getElem?_append_left (by omega)]; exact hr
              generalize (PL[p - 1]'(by omega)) = r at hr hr'
              obtain ⟨k1, k2⟩ := h _ r hr
              rw [hr']
              simp only
              split
              · rfl
              · exact ihp r.within.toNat (by omega) f g (by omega) (by omega) (by omega)
        exact this _ _ _ (by omega) (Nat.le_refl _) (by omega)

theorem Nest.more {PL : List Pl} (h : Nest PL) (x : Pl) (h0 : 0 ≤ x.within) (h1 : x.within ≤ PL.length) : Nest (PL ++ [x]) := by
  intro i q hq
  by_cases hi : i < PL.length
  · rw [List.getElem?_append_left hi] at hq
    exact h i q hq
  · rw [List.getElem?_append_right (by omega)] at hq
    by_cases hi' : i = PL.length
    · subst hi'
      simp at hq
      subst hq
      exact ⟨h0, by omega⟩
    · rw [List.getElem?_eq_none (by simp; omega)] at hq
      cases hq

/-- Which place binds a name, and the name there. -/
inductive Binds (PL : List Pl) (AL : List Al) : Nat → ByteArray → Nat → ByteArray → Prop
  | here {p : Nat} {s : ByteArray} (h : upP PL s p ≠ 0) : Binds PL AL p s (upP PL s p) s
  | bare {p : Nat} {s : ByteArray} (h : upP PL s p = 0) (ha : aliasOf AL s = none) : Binds PL AL p s 0 s
  | via {p : Nat} {s : ByteArray} {a : Al} {q : Nat} {t : ByteArray} (h : upP PL s p = 0) (ha : aliasOf AL s = some a) (hb : Binds PL AL a.place.toNat a.name q t) : Binds PL AL p s q t

theorem Binds.one {PL : List Pl} {AL : List Al} {p : Nat} {s : ByteArray} {q q' : Nat} {t t' : ByteArray} (h : Binds PL AL p s q t) (h' : Binds PL AL p s q' t') : q = q' ∧ t = t' := by
  induction h with
  | here h =>
    cases h' with
    | here => exact ⟨rfl, rfl⟩
    | bare h0 => exact absurd h0 h
    | via h0 => exact absurd h0 h
  | bare h ha =>
    cases h' with
    | here h0 => exact absurd h h0
    | bare => exact ⟨rfl, rfl⟩
    | via _ ha' => rw [ha] at ha'; cases ha'
  | via h ha _ ih =>
    cases h' with
    | here h0 => exact absurd h h0
    | bare _ ha' => rw [ha] at ha'; cases ha'
    | via _ ha' hb' => rw [ha] at ha'; cases ha'; exact ih hb'

/-- How far a name's chain of aliases goes. -/
inductive Chain (AL : List Al) : Nat → ByteArray → Prop
  | stop {k : Nat} {s : ByteArray} (h : aliasOf AL s = none) : Chain AL k s
  | step {k : Nat} {s : ByteArray} {a : Al} (h : aliasOf AL s = some a) (hn : nameB AL a.name = true) (hc : Chain AL k a.name) : Chain AL (k + 1) s

/-- What holds of a table's words. -/
structure Words (PL : List Pl) (AL : List Al) : Prop where
  nest : Nest PL
  chain : ∀ s, ∃ k, Chain AL k s
  names : ∀ p ∈ PL, nameB AL p.name = true
  places : ∀ a ∈ AL, 0 ≤ a.place ∧ a.place ≤ PL.length
  sizes : ∀ a ∈ AL, a.name.size ≤ 1000 ∧ a.symbol.size ≤ 60 ∧ a.alias.size ≤ 1000
  syms : ∀ a ∈ AL, symL a.symbol.data.toList = true
  fresh : ∀ (i : Nat) (a : Al), AL[i]? = some a → a.alias.data.toList = a.symbol.data.toList ++ 32 :: Lib.itoa ((i : Int) + 1)

theorem alias_mem {AL : List Al} {s : ByteArray} {a : Al} (h : aliasOf AL s = some a) : a ∈ AL ∧ a.alias = s := by
  unfold aliasOf at h
  exact ⟨List.mem_of_find?_eq_some h, by simpa using List.find?_some h⟩

theorem binds_le {PL : List Pl} {AL : List Al} (hN : Words PL AL) {p : Nat} {s : ByteArray} {q : Nat} {t : ByteArray} (h : Binds PL AL p s q t) : p ≤ PL.length → q ≤ PL.length := by
  induction h with
  | @here p s h => intro hp; have := (up_le hN.nest s p).1; omega
  | bare => intro _; omega
  | via _ ha _ ih => intro _; have := hN.places _ (alias_mem ha).1; exact ih (by omega)
theorem binds_has {PL : List Pl} {AL : List Al} (hN : Words PL AL) {p : Nat} {s : ByteArray} {q : Nat} {t : ByteArray} (h : Binds PL AL p s q t) : q ≠ 0 → ∃ x, PL[q - 1]? = some x := by
  induction h with
  | @here p s h => intro h0; obtain ⟨x, hx, _⟩ := (up_le hN.nest s p).2 h0; exact ⟨x, hx⟩
  | bare => intro h; exact absurd rfl h
  | via _ _ _ ih => exact ih
end Go.Proofs.YthighbbikpnpgaaDoor
