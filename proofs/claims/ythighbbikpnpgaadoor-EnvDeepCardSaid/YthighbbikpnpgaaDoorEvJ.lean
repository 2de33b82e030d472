/-
  Layer 11: New, Same.
-/
import Derived.Test.YthighbbikpnpgaaDoorEvI
import Derived.Carry
namespace Go.Proofs.YthighbbikpnpgaaDoor
open Go.RowKit Go.Maps

theorem new_any (W : World) :
    Calls Tryd.prog 17 #[] W fun e w' => ∃ b ba bt, e = .returned (.pointer (some ⟨b, 0, none⟩)) ∧ TabIs w' w'.heap.size b ba bt (.slice none 0 0) [] [] 0 (.map []) (.map []) ∧ Below W.heap.size W w' ∧ W.heap.size ≤ b ∧ W.heap.size ≤ ba ∧ W.heap.size ≤ bt := by
  have hmm := @run_makeMap Tryd.prog
  go_enter Tryd.func17, Tryd.ntmps17
  go_wp2_with fail
  go_ret
  refine ⟨W.heap.size + 1 + 1, W.heap.size, W.heap.size + 1, rfl, ?_, ?_, by omega, by omega, by omega⟩
  · have m0 := World.ownsMap_made W Tryd.prog 9 originR
    have m1 := World.ownsMap_made (W.alloc (.map #[] 0)) Tryd.prog 9 meaningR
    refine ⟨⟨by simp; omega, ?_, ?_, ?_, ?_⟩, ?_, ?_, rfl⟩
    · have := heap_alloc_new ((W.alloc (.map #[] 0)).alloc (.map #[] 0)) (.cells #[.slice none 0 0, .map (some W.heap.size), .map (some (W.heap.size + 1))] 100)
      simpa using this
    · exact World.ownsRow_nil _ _ _ _
    · exact (m0.alloc _).alloc _
    · have := m1.alloc (.cells #[.slice none 0 0, .map (some W.heap.size), .map (some (W.heap.size + 1))] 100)
      simpa using this
    · intro s; rfl
    · intro s a z h; cases h
  · exact (((Below.refl _ _).alloc (Nat.le_refl _) _).alloc (by simp) _).alloc (by simp; omega) _

def SameTo (PL : List Pl) (AL : List Al) (p p' : Nat) (s s' : ByteArray) (W : World) (e : Ending) (w' : World) : Prop :=
  ∃ q t q' t', Binds PL AL p s q t ∧ Binds PL AL p' s' q' t' ∧ e = .returned (.bool (decide (q = q' ∧ (0 < q ∨ t = t')))) ∧ Below W.heap.size W w'

theorem same_zero (t t' : ByteArray) : decide ((0 : Nat) = 0 ∧ (0 < (0 : Nat) ∨ t = t')) = (t.toList == t'.toList) := by
  cases hb : (t.toList == t'.toList) with
  | true => simp [ba_eq.1 hb]
  | false => simp; rintro rfl; simp at hb
theorem same_pos (q : Nat) (t t' : ByteArray) (h : (0 : Int) < q) : decide (q = q ∧ (0 < q ∨ t = t')) = true := by simp; left; omega

set_option maxRecDepth 16000 in
set_option maxHeartbeats 1000000 in
theorem same_ok {B b ba bt nT : Nat} {v : Value} {PL : List Pl} {AL : List Al} {DA DT : DataW Value} (hW : Words PL AL) (hl63 : PL.length ≤ 1000000) (p p' : Nat) (s s' : ByteArray) (hs : s.size ≤ maxLen) (hs' : s'.size ≤ maxLen) (hp : p ≤ PL.length) (hp' : p' ≤ PL.length)
    (hn : nameB AL s = true) (hn' : nameB AL s' = true) (W : World) (h : TabIs W B b ba bt v PL AL nT DA DT) :
    Calls Tryd.prog 28 #[.pointer (some ⟨b, 0, none⟩), .int .i64 (p : Nat), .string s, .int .i64 (p' : Nat), .string s'] W (SameTo PL AL p p' s s' W) := by
  have cT := Lib.hid (fun (w : World) (h : TabIs w B b ba bt v PL AL nT DA DT) => there_any p s hs w h.mem)
  have cT' := Lib.hid (fun (w : World) (h : TabIs w B b ba bt v PL AL nT DA DT) => there_any p' s' hs' w h.mem)
  rw [h.has] at cT cT'
  rw [show ((aliasOf AL s).isSome || symL s.data.toList) = nameB AL s from rfl, hn, show thereK (p : Int) PL.length true = 0 by rw [thereK, if_neg (by omega)]; rfl, show errV 0 = .nilIface from rfl] at cT
  rw [show ((aliasOf AL s').isSome || symL s'.data.toList) = nameB AL s' from rfl, hn', show thereK (p' : Int) PL.length true = 0 by rw [thereK, if_neg (by omega)]; rfl, show errV 0 = .nilIface from rfl] at cT'
  obtain ⟨kk, hc⟩ := hW.chain s
  obtain ⟨kk', hc'⟩ := hW.chain s'
  have cB := Lib.hid (fun (w : World) (h : TabIs w B b ba bt v PL AL nT DA DT) => binds_any hW hl63 kk s hc p w hs hp h)
  have cB' := Lib.hid (fun (w : World) (h : TabIs w B b ba bt v PL AL nT DA DT) => binds_any hW hl63 kk' s' hc' p' w hs' hp' h)
  have HH := Lib.hid h
  clear hc hc' hn hn' hW h
  go_enter Tryd.func28, Tryd.ntmps28
  go_wp2_with fail
  refine (cT.out _ HH.out).mono ?_
  rintro e w1 ⟨rfl, hb1⟩
  go_wp2_with fail
  refine (cT'.out _ (HH.out.below hb1)).mono ?_
  rintro e w2 ⟨rfl, hb2⟩
  have hb12 := below_trans hb1 hb2
  clear hb1 hb2
  go_wp2_with fail
  refine (cB.out _ (HH.out.below hb12)).mono ?_
  rintro e w3 ⟨q, t, hB, rfl, hb3⟩
  have HB := Lib.hid hB
  have hb13 := below_trans hb12 hb3
  clear hB hb12 hb3
  go_wp2_with fail
  refine (cB'.out _ (HH.out.below hb13)).mono ?_
  rintro e w4 ⟨q', t', hB', rfl, hb4⟩
  have HB' := Lib.hid hB'
  have hb14 := below_trans hb13 hb4
  clear hB' hb13 hb4 cB cB' cT cT'
  by_cases hqq : q = q'
  · subst hqq
    by_cases h0 : q = 0
    · subst h0
      go_wp2_with fail
      go_ret
      exact ⟨0, t, 0, t', HB.out, HB'.out, by rw [same_zero]; rfl, hb14⟩
    · have h1 : (0 : Int) < q := by omega
      clear h0
      go_wp2_with fail
      go_ret
      exact ⟨q, t, q, t', HB.out, HB'.out, by rw [same_pos q t t' h1]; rfl, hb14⟩
  · have b1 : ((q : Int) == (q' : Int)) = false := by rw [beq_eq_false_iff_ne]; omega
    have R := Lib.hid (show decide (q = q' ∧ (0 < q ∨ t = t')) = false by simp [hqq])
    clear hqq
    go_wp2_with fail
    go_ret
    exact ⟨q, t, q', t', HB.out, HB'.out, by rw [R.out]; rfl, hb14⟩
end Go.Proofs.YthighbbikpnpgaaDoor
