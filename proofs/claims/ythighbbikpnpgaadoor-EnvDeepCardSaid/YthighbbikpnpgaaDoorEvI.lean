/-
  Layer 11: Alias, the walk.
-/
import Derived.Test.YthighbbikpnpgaaDoorEvH
namespace Go.Proofs.YthighbbikpnpgaaDoor
open Go.RowKit Go.Maps

/-- What is wrong with a call of Alias. -/
def aliK (at_ : Int) (n m : Nat) (ok : Bool) : Int := if thereK at_ n ok ≠ 0 then thereK at_ n ok else if 65536 ≤ m then 14 else 0

def AliasTo (PL : List Pl) (AL : List Al) (B b ba bt nT : Nat) (v : Value) (DT : DataW Value) (s : ByteArray) (p : Int) (W : World) (e : Ending) (w' : World) : Prop :=
  e = .returned (.tuple #[.string (aliasB (stripL AL s) AL.length), .nilIface]) ∧ ∃ DA', TabIs w' B b ba bt v PL (AL ++ [⟨aliasB (stripL AL s) AL.length, s, stripL AL s, p⟩]) nT DA' DT ∧ Turned W w' (fun i => i = ba)

theorem alias_close {B b ba bt nT : Nat} {v : Value} {PL : List Pl} {AL : List Al} {DA DT : DataW Value} {W w1 w2 : World} {a : Al} (hb : Below W.heap.size W w1) (h : TabIs w1 B b ba bt v PL AL nT DA DT) (hno : nameB AL a.alias = false)
    (hm : w2.ownsMap Tryd.prog 9 originR ba (AL.length + 1) (DA.put (keyL a.alias) (.held a.value))) (ht : w1.mapTurned w2 ba) :
    ∃ DA', TabIs w2 B b ba bt v PL (AL ++ [a]) nT DA' DT ∧ Turned W w2 (fun i => i = ba) := by
  have hg := ht.grown
  obtain ⟨_, _, _, n1, n2, n3⟩ := h.mem.low
  have hnone : aliasOf AL a.alias = none := by
    cases hx : aliasOf AL a.alias with
    | none => rfl
    | some x => rw [nameB_of_alias hx] at hno; cases hno
  have hhas : Maps.has DA (keyL a.alias) = false := by rw [h.has, hnone]; rfl
  have hkey : WideAt.IsKeyLit (keyL a.alias) := trivial
  have hT := h.mem.al.tidy (Maps.string_keyed underKey)
  have kne : ∀ {s t : ByteArray}, s ≠ t → keyL s ≠ keyL t := by
    intro s t hst e
    simp only [keyL, Lit.string.injEq] at e
    exact hst (ByteArray.ext (Array.toList_inj.1 e))
  refine ⟨DA.put (keyL a.alias) (.held a.value), ⟨⟨h.mem.low, ?_, ?_, ?_, ?_⟩, ?_, ?_, ?_⟩, ?_⟩
  · exact (hg.block b (heap_lt h.mem.own) (by simp; exact n1)).trans h.mem.own
  · refine h.mem.row.kept hg ?_
    cases hv : v.ownBlock with
    | none => exact .inl rfl
    | some i =>
      right
      intro e
      simp at e
      have h1 := (h.mem.row.lt i hv).1
      have h2 := h.mem.low.2.1
      omega
  · rw [List.length_append]; exact hm
  · exact h.mem.top.kept hg (by simp; exact Ne.symm n3)
  · intro s
    rw [aliasOf_more]
    by_cases e : a.alias = s
    · subst e
      rw [Maps.has_put_same hT.isMap hkey, hnone]
      simp
    · rw [Maps.has_put_other (kne (Ne.symm e)), h.has]
      cases aliasOf AL s with
      | some x => rfl
      | none => simp [e]
  · intro s x z hx
    rw [aliasOf_more] at hx
    by_cases e : a.alias = s
    · subst e
      rw [hnone] at hx
      simp at hx
      subst hx
      exact Maps.atKey_put_same hT.isMap hkey _ _
    · rw [Maps.atKey_put_other (kne (Ne.symm e))]
      refine h.get s x z ?_
      cases h' : aliasOf AL s with
      | some y => rw [h'] at hx; exact hx
      | none => rw [h'] at hx; simp [e] at hx
  · rw [Maps.size_put hT, hhas, h.size, List.length_append]; rfl
  · refine ⟨hg.os.trans hb.os, hg.tape.trans hb.tape, hg.output.trans hb.output, Nat.le_trans hb.size hg.size, fun i hi hne => ?_⟩
    exact (hg.block i (Nat.lt_of_lt_of_le hi hb.size) (by simp; exact hne)).trans (hb.block i hi)

set_option maxRecDepth 16000 in
set_option maxHeartbeats 1000000 in
theorem alias_ok {B b ba bt nT : Nat} {v : Value} {PL : List Pl} {AL : List Al} {DA DT : DataW Value} (hW : Words PL AL) (p : Int) (s : ByteArray) (hs : s.size ≤ maxLen) (W : World) (h : TabIs W B b ba bt v PL AL nT DA DT) (htab : Tab W)
    (hE : aliK p PL.length AL.length (nameB AL s) = 0) :
    Calls Tryd.prog 26 #[.pointer (some ⟨b, 0, none⟩), .string s, .int .i64 p] W (AliasTo PL AL B b ba bt nT v DT s p W) := by
  have cT := Lib.hid (fun (w : World) (h : TabIs w B b ba bt v PL AL nT DA DT) => there_any p s hs w h.mem)
  rw [h.has] at cT
  have e1 : thereK p PL.length (nameB AL s) = 0 ∧ ¬ 65536 ≤ AL.length := by
    unfold aliK at hE
    by_cases h1 : thereK p PL.length (nameB AL s) = 0
    · rw [if_neg (by simpa using h1)] at hE
      by_cases h3 : 65536 ≤ AL.length
      · rw [if_pos h3] at hE; simp at hE
      · exact ⟨h1, h3⟩
    · rw [if_pos h1] at hE; exact absurd hE h1
  obtain ⟨e1, e3⟩ := e1
  have hn : nameB AL s = true := by
    rcases thereK_cases p PL.length (nameB AL s) with h | h | ⟨_, _, _, h⟩
    · omega
    · omega
    · exact h
  rw [show ((aliasOf AL s).isSome || symL s.data.toList) = nameB AL s from rfl, e1, show errV 0 = .nilIface from rfl] at cT
  have hsym := strip_sym hW hn
  have hno := alias_no hW hsym
  have hsl := sym_len hsym
  have cS := Lib.hid (fun (w : World) (h : TabIs w B b ba bt v PL AL nT DA DT) => strip_any s hs w h)
  generalize hy : stripL AL s = y at cS hno hsl hsym
  have HY := Lib.hid hy
  have HNO := Lib.hid hno
  have HTab := Lib.hid htab
  have HH := Lib.hid h
  have HW := Lib.hid hW
  have p1 : decide (65536 ≤ (AL.length : Int)) = false := by simp; omega
  have hys : (y.size : Int) ≤ 60 := by simp at hsl; omega
  have HL := Lib.hid h.size
  clear e1 hE hn h hW htab hno hy hsym hsl
  go_enter Tryd.func26, Tryd.ntmps26
  go_wp2_with fail
  refine (cT.out _ HH.out).mono ?_
  rintro e w1 ⟨rfl, hb1⟩
  have h1 := Lib.hid (HH.out.below hb1)
  have c1 : w1.cell? ⟨b, 1, none⟩ = some (.map (some ba)) := by rw [cell_of_row w1 b _ _ _ (0, 0) h1.out.mem.own]; rfl
  have hlen := Lib.hid h1.out.mem.al
  go_wp2_with (at_len; refine wpList_len_own _ rfl _ _ rfl 9 116 Tryd.underlying96 originR ba AL.length DA rfl hlen.out ?_; rw [HL.out])
  refine (cS.out _ h1.out).mono ?_
  rintro e w2 ⟨rfl, hb2⟩
  have h2 := Lib.hid (h1.out.below hb2)
  have c2 : w2.cell? ⟨b, 1, none⟩ = some (.map (some ba)) := by rw [cell_of_row w2 b _ _ _ (0, 0) h2.out.mem.own]; rfl
  have hlen2 := Lib.hid h2.out.mem.al
  clear hlen c1
  go_wp2_with (at_len; refine wpList_len_own _ rfl _ _ rfl 9 116 Tryd.underlying96 originR ba AL.length DA rfl hlen2.out ?_; rw [HL.out])
  refine (text_any _ _ (by omega) (by omega) (tab_below (tab_below HTab.out hb1) hb2)).mono ?_
  rintro e w3 ⟨rfl, hb3⟩
  have h3 := Lib.hid (h2.out.below hb3)
  have c3 : w3.cell? ⟨b, 1, none⟩ = some (.map (some ba)) := by rw [cell_of_row w3 b _ _ _ (0, 0) h3.out.mem.own]; rfl
  clear hlen2 c2
  have hal := Lib.hid (show aliasB y AL.length = y ++ ⟨#[32]⟩ ++ ⟨(Lib.itoa ((AL.length : Int) + 1)).toArray⟩ by apply ByteArray.ext; simp [aliasB])
  have hsz : (y ++ ⟨#[32]⟩ ++ ⟨(Lib.itoa ((AL.length : Int) + 1)).toArray⟩ : ByteArray).size ≤ maxLen := by
    have := Lib.itoa_length_le ((AL.length : Int) + 1) (by omega) (by omega)
    simp only [ByteArray.size_append]
    show y.size + 1 + (Lib.itoa ((AL.length : Int) + 1)).toArray.size ≤ maxLen
    simp only [List.size_toArray]
    unfold maxLen
    omega
  obtain ⟨w4, hrun, hown4, htd⟩ := h3.out.mem.al.store (Maps.string_keyed underKey) Tryd.underlying96 (by unfold maxLen; omega) (keyOf_str _ hsz) (val := .agg #[.string s, .string y, .int .i64 p]) (d := .held (.agg #[.string s, .string y, .int .i64 p])) rfl
  have hil := Lib.itoa_length_le ((AL.length : Int) + 1) (by omega) (by omega)
  have hys' : y.size ≤ 60 := by omega
  have HO := Lib.hid hown4
  have HD := Lib.hid htd
  clear hown4 htd hsz
  go_wp2_with fail
  go_ret2
  unfold AliasTo
  rw [HY.out]
  refine ⟨by rw [hal.out]; rfl, alias_close (a := ⟨aliasB y AL.length, s, y, p⟩) (below_trans hb1 (below_trans hb2 hb3)) h3.out HNO.out (by show World.ownsMap _ _ _ _ _ _ (DA.put (keyL (aliasB y AL.length)) _); rw [hal.out]; exact HO.out) HD.out⟩

/-- What Alias refuses. -/
theorem alias_bad {B b ba bt nT : Nat} {v : Value} {PL : List Pl} {AL : List Al} {DA DT : DataW Value} (p : Int) (s : ByteArray) (hs : s.size ≤ maxLen) (W : World) (h : TabIs W B b ba bt v PL AL nT DA DT)
    (hE : aliK p PL.length AL.length (nameB AL s) ≠ 0) :
    Calls Tryd.prog 26 #[.pointer (some ⟨b, 0, none⟩), .string s, .int .i64 p] W fun e w' => e = .returned (.tuple #[.string ⟨#[]⟩, kindV (aliK p PL.length AL.length (nameB AL s))]) ∧ Below W.heap.size W w' := by
  have cT := Lib.hid (fun (w : World) (h : TabIs w B b ba bt v PL AL nT DA DT) => there_any p s hs w h.mem)
  rw [h.has] at cT
  rw [show ((aliasOf AL s).isSome || symL s.data.toList) = nameB AL s from rfl] at cT
  have HH := Lib.hid h
  have hx := Lib.hid (show ∀ t, thereK p PL.length (nameB AL s) = t → aliK p PL.length AL.length (nameB AL s) = if t ≠ 0 then t else if 65536 ≤ AL.length then 14 else 0 from fun t e => by rw [aliK, e])
  have HL := Lib.hid h.size
  clear h
  rcases thereK_cases p PL.length (nameB AL s) with e | e | ⟨e, _, _, _⟩
  · rw [e] at cT
    have R := Lib.hid (hx.out 3 e)
    generalize aliK p PL.length AL.length (nameB AL s) = r at R hE ⊢
    rw [show errV 3 = kindV 3 from rfl] at cT
    clear e hx
    go_enter Tryd.func26, Tryd.ntmps26
    go_wp2_with fail
    refine (cT.out _ HH.out).mono ?_
    rintro e w1 ⟨rfl, hb1⟩
    go_wp2_with fail
    go_ret2
    exact ⟨by rw [R.out]; rfl, hb1⟩
  · rw [e] at cT
    have R := Lib.hid (hx.out 2 e)
    generalize aliK p PL.length AL.length (nameB AL s) = r at R hE ⊢
    rw [show errV 2 = kindV 2 from rfl] at cT
    clear e hx
    go_enter Tryd.func26, Tryd.ntmps26
    go_wp2_with fail
    refine (cT.out _ HH.out).mono ?_
    rintro e w1 ⟨rfl, hb1⟩
    go_wp2_with fail
    go_ret2
    exact ⟨by rw [R.out]; rfl, hb1⟩
  · rw [e] at cT
    have R0 := Lib.hid (hx.out 0 e)
    generalize aliK p PL.length AL.length (nameB AL s) = r at R0 hE ⊢
    rw [show errV 0 = .nilIface from rfl] at cT
    clear e hx
    have h3 : 65536 ≤ AL.length := by
      rcases Nat.lt_or_ge AL.length 65536 with h3 | h3
      · exact absurd (by rw [R0.out]; simp; omega) hE
      · exact h3
    have p1 : decide (65536 ≤ (AL.length : Int)) = true := by simp; omega
    have R := Lib.hid (show r = 14 by rw [R0.out]; simp; omega)
    clear R0 hE
    go_enter Tryd.func26, Tryd.ntmps26
    go_wp2_with fail
    refine (cT.out _ HH.out).mono ?_
    rintro e w1 ⟨rfl, hb1⟩
    have h1 := Lib.hid (HH.out.below hb1)
    have c1 : w1.cell? ⟨b, 1, none⟩ = some (.map (some ba)) := by rw [cell_of_row w1 b _ _ _ (0, 0) h1.out.mem.own]; rfl
    have hlen := Lib.hid h1.out.mem.al
    go_wp2_with (at_len; refine wpList_len_own _ rfl _ _ rfl 9 116 Tryd.underlying96 originR ba AL.length DA rfl hlen.out ?_; rw [HL.out])
    go_ret2
    exact ⟨by rw [R.out]; rfl, hb1⟩
end Go.Proofs.YthighbbikpnpgaaDoor
