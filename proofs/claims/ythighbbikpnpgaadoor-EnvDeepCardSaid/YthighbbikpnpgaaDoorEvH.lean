/-
  Layer 11: Alias.
-/
import Derived.Test.YthighbbikpnpgaaDoorEvG
import Derived.Test.YthighbbikpnpgaaDoorFI
namespace Go.Proofs.YthighbbikpnpgaaDoor
open Go.RowKit Go.Maps

/-- An alias's text. -/
def aliasB (sym : ByteArray) (n : Nat) : ByteArray := ⟨(sym.data.toList ++ 32 :: Lib.itoa ((n : Int) + 1)).toArray⟩

theorem split32 {a b x y : List UInt8} (ha : (32 : UInt8) ∉ a) (hb : (32 : UInt8) ∉ b) (h : a ++ 32 :: x = b ++ 32 :: y) : a = b ∧ x = y := by
  induction a generalizing b with
  | nil =>
    cases b with
    | nil => simp at h; exact ⟨rfl, h⟩
    | cons c b => simp at h; exact absurd (by rw [h.1]; simp) hb
  | cons c a ih =>
    cases b with
    | nil => simp at h; exact absurd (by rw [← h.1]; simp) ha
    | cons d b =>
      simp at h ha hb
      obtain ⟨rfl, h⟩ := h
      obtain ⟨rfl, rfl⟩ := ih (by simpa using ha.2) (by simpa using hb.2) h
      exact ⟨rfl, rfl⟩

theorem sym_no32 {l : List UInt8} (h : symL l = true) : (32 : UInt8) ∉ l := by
  intro hm
  unfold symL at h
  simp only [Bool.and_eq_true, List.all_eq_true] at h
  have := h.2 32 hm
  simp [symCh] at this
theorem sym_len {l : List UInt8} (h : symL l = true) : l.length ≤ 60 := by
  unfold symL at h
  simp only [Bool.and_eq_true, decide_eq_true_eq] at h
  exact h.1.1.1.2

theorem alias_no {PL : List Pl} {AL : List Al} (hW : Words PL AL) {sym : ByteArray} (hs : symL sym.data.toList = true) : nameB AL (aliasB sym AL.length) = false := by
  unfold nameB
  have h1 : symL (aliasB sym AL.length).data.toList = false := by
    rw [← Bool.not_eq_true]
    intro h
    exact sym_no32 h (by simp [aliasB])
  have h2 : aliasOf AL (aliasB sym AL.length) = none := by
    cases h : aliasOf AL (aliasB sym AL.length) with
    | none => rfl
    | some a =>
      exfalso
      obtain ⟨hm, he⟩ := alias_mem h
      obtain ⟨i, hi⟩ := List.getElem?_of_mem hm
      have hl : i < AL.length := (List.getElem?_eq_some_iff.1 hi).1
      have hf := hW.fresh i a hi
      rw [he] at hf
      simp only [aliasB] at hf
      have h3 := (split32 (sym_no32 hs) (sym_no32 (hW.syms a hm)) hf).2
      have h4 := i_itoa_inj (a := AL.length + 1) (b := i + 1) (by push_cast; exact h3)
      omega
  simp [h1, h2]

theorem aliasOf_more (AL : List Al) (a : Al) (s : ByteArray) : aliasOf (AL ++ [a]) s = match aliasOf AL s with | some x => some x | none => if a.alias = s then some a else none := by
  unfold aliasOf
  rw [List.find?_append]
  cases List.find? (fun x => decide (x.alias = s)) AL with
  | some x => rfl
  | none =>
    by_cases h : a.alias = s <;> simp [h]

theorem nameB_more (AL : List Al) (a : Al) (s : ByteArray) (h : nameB AL s = true) : nameB (AL ++ [a]) s = true := by
  unfold nameB at *
  rw [aliasOf_more]
  cases hx : aliasOf AL s with
  | some x => simp
  | none => rw [hx] at h; simp at h; simp [h]

theorem nameB_of_alias {AL : List Al} {s : ByteArray} {a : Al} (h : aliasOf AL s = some a) : nameB AL s = true := by simp [nameB, h]

/-- A new alias's words. -/
theorem Words.more {PL : List Pl} {AL : List Al} (hW : Words PL AL) (a : Al) (hs : symL a.symbol.data.toList = true) (he : a.alias = aliasB a.symbol AL.length) (hn : nameB AL a.name = true) (hp : 0 ≤ a.place ∧ a.place ≤ PL.length)
    (h63 : AL.length ≤ 1000000) : Words PL (AL ++ [a]) := by
  have hno := alias_no hW hs
  rw [← he] at hno
  have hnone : aliasOf AL a.alias = none := by
    cases h : aliasOf AL a.alias with
    | none => rfl
    | some x => rw [nameB_of_alias h] at hno; cases hno
  have old : ∀ k s, Chain AL k s → nameB AL s = true → Chain (AL ++ [a]) k s := by
    intro k s h
    induction h with
    | stop h0 =>
      intro hn
      refine .stop ?_
      rw [aliasOf_more, h0]
      simp only
      rw [if_neg]
      intro e
      rw [← e, hno] at hn
      cases hn
    | step h0 hn' _ ih =>
      intro _
      refine .step ?_ (nameB_more _ _ _ hn') (ih hn')
      rw [aliasOf_more, h0]
  have hsz : a.alias.size ≤ 1000 := by
    rw [he]
    have h1 := sym_len hs
    have h2 := Lib.itoa_length_le ((AL.length : Int) + 1) (by omega) (by omega)
    show (aliasB a.symbol AL.length).data.size ≤ 1000
    simp [aliasB]
    simp at h1
    omega
  have hnz : a.name.size ≤ 1000 := by
    unfold nameB at hn
    cases h : aliasOf AL a.name with
    | some x =>
      obtain ⟨hm, e⟩ := alias_mem h
      rw [← e]
      exact (hW.sizes x hm).2.2
    | none =>
      rw [h] at hn
      have := sym_len (by simpa using hn)
      simp at this
      omega
  refine ⟨hW.nest, ?_, fun p hp => nameB_more _ _ _ (hW.names p hp), ?_, ?_, ?_, ?_⟩
  · intro s
    cases h : aliasOf AL s with
    | some x =>
      obtain ⟨k, hk⟩ := hW.chain s
      exact ⟨k, old k s hk (nameB_of_alias h)⟩
    | none =>
      by_cases e : a.alias = s
      · obtain ⟨k, hk⟩ := hW.chain a.name
        refine ⟨k + 1, .step (a := a) ?_ (nameB_more _ _ _ hn) (old k _ hk hn)⟩
        rw [aliasOf_more, h]
        simp [e]
      · refine ⟨0, .stop ?_⟩
        rw [aliasOf_more, h]
        simp [e]
  · intro x hx
    rcases List.mem_append.1 hx with hx | hx
    · exact hW.places x hx
    · simp at hx; subst hx; exact hp
  · intro x hx
    rcases List.mem_append.1 hx with hx | hx
    · exact hW.sizes x hx
    · simp at hx; subst hx
      have := sym_len hs
      simp at this
      exact ⟨hnz, this, hsz⟩
  · intro x hx
    rcases List.mem_append.1 hx with hx | hx
    · exact hW.syms x hx
    · simp at hx; subst hx; exact hs
  · intro i x hx
    by_cases hi : i < AL.length
    · rw [List.getElem?_append_left hi] at hx
      exact hW.fresh i x hx
    · rw [List.getElem?_append_right (by omega)] at hx
      by_cases hi' : i = AL.length
      · subst hi'
        simp at hx
        subst hx
        rw [he]
        simp [aliasB]
      · rw [List.getElem?_eq_none (by simp; omega)] at hx
        cases hx

/-- A place more. -/
theorem Words.place {PL : List Pl} {AL : List Al} (hW : Words PL AL) (x : Pl) (h0 : 0 ≤ x.within) (h1 : x.within ≤ PL.length) (hn : nameB AL x.name = true) : Words (PL ++ [x]) AL := by
  refine ⟨hW.nest.more x h0 h1, hW.chain, ?_, ?_, hW.sizes, hW.syms, hW.fresh⟩
  · intro p hp
    rcases List.mem_append.1 hp with hp | hp
    · exact hW.names p hp
    · simp at hp; subst hp; exact hn
  · intro a ha
    have := hW.places a ha
    simp
    omega
theorem words_nil : Words [] [] := ⟨by intro i q h; simp at h, fun s => ⟨0, .stop rfl⟩, by simp, by simp, by simp, by simp, by intro i a h; simp at h⟩

theorem strip_sym {PL : List Pl} {AL : List Al} (hW : Words PL AL) {s : ByteArray} (hn : nameB AL s = true) : symL (stripL AL s).data.toList = true := by
  unfold stripL
  unfold nameB at hn
  cases h : aliasOf AL s with
  | some a => exact hW.syms a (alias_mem h).1
  | none =>
    rw [h] at hn
    have : symL s.data.toList = true := by simpa using hn
    simp [this]
end Go.Proofs.YthighbbikpnpgaaDoor
