/-
  Layer 11: which place binds a name (binds).
-/
import Derived.Test.YthighbbikpnpgaaDoorEvE
namespace Go.Proofs.YthighbbikpnpgaaDoor
open Go.RowKit Go.Maps

theorem cells_get (PL : List Pl) : ∀ (i j : Nat) (q : Pl), PL[i]? = some q → j < 4 → (PL.flatMap Pl.cells)[i * 4 + j]? = q.cells[j]? := by
  induction PL with
  | nil => intro i j q h; simp at h
  | cons x r ih =>
    intro i j q h hj
    have hl : x.cells.length = 4 := rfl
    cases i with
    | zero =>
      simp at h
      subst h
      rw [List.flatMap_cons, List.getElem?_append_left (by rw [hl]; omega)]
      simp
    | succ i =>
      rw [List.flatMap_cons, List.getElem?_append_right (by rw [hl]; omega), hl, show (i + 1) * 4 + j - 4 = i * 4 + j by omega]
      exact ih i j q (by simpa using h) hj

/-- A place's cells in memory. -/
theorem place_cells {w : World} {B b ba bt nT : Nat} {v : Value} {PL : List Pl} {AL : List Al} {DA DT : DataW Value} (h : TabIs w B b ba bt v PL AL nT DA DT) (i : Nat) (q : Pl) (hq : PL[i]? = some q) :
    ∃ g cap, v = .slice (some ⟨g, 0, none⟩) PL.length cap ∧ PL.length ≤ cap ∧ w.cell? ⟨b, 0, none⟩ = some v ∧ w.cell? ⟨g, i * 4, none⟩ = some (.int .i64 q.within) ∧ w.cell? ⟨g, i * 4 + 1, none⟩ = some (.string q.name) ∧
      w.cell? ⟨g, i * 4 + 2, none⟩ = some (.int .i64 q.k) ∧ w.cell? ⟨g, i * 4 + 3, none⟩ = some (.int .i64 q.n) := by
  have hl : i < PL.length := (List.getElem?_eq_some_iff.1 hq).1
  obtain ⟨g, cap, rfl, _, _⟩ := h.mem.row.form (by omega)
  have hc : PL.length ≤ cap := by
    rcases h.mem.row.2 with ⟨h0, _⟩ | ⟨g', cap', cur, hv, _, _, r⟩
    · simp at h0
    · simp at hv
      obtain ⟨rfl, rfl⟩ := hv
      simp_all
  have hb : w.cell? ⟨b, 0, none⟩ = some (.slice (some ⟨g, 0, none⟩) PL.length cap) := by rw [cell_of_row w b _ _ _ (0, 0) h.mem.own]; rfl
  have f : ∀ j, j < 4 → w.cell? ⟨g, i * 4 + j, none⟩ = q.cells[j]? := by
    intro j hj
    rw [h.mem.row.cellAt _ (by omega)]
    exact cells_get PL i j q hq hj
  exact ⟨g, cap, rfl, hc, hb, f 0 (by omega), f 1 (by omega), f 2 (by omega), f 3 (by omega)⟩

def BindsTo (PL : List Pl) (AL : List Al) (p : Nat) (s : ByteArray) (W : World) (e : Ending) (w' : World) : Prop :=
  ∃ q t, Binds PL AL p s q t ∧ e = .returned (.tuple #[.int .i64 (q : Nat), .string t]) ∧ Below W.heap.size W w'

theorem ba_eq {a b : ByteArray} : (a.toList == b.toList) = true ↔ a = b := by
  constructor
  · intro h
    have h' := eq_of_beq h
    rw [ByteArray.toList_eq, ByteArray.toList_eq] at h'
    exact ByteArray.ext (Array.toList_inj.1 h')
  · rintro rfl; simp

set_option maxRecDepth 16000 in
set_option maxHeartbeats 1000000 in
theorem binds_step {B b ba bt nT : Nat} {v : Value} {PL : List Pl} {AL : List Al} {DA DT : DataW Value} (p : Nat) (s : ByteArray) (hs : s.size ≤ maxLen) (hp : p ≤ PL.length) (hN : Nest PL) (hl63 : PL.length ≤ 1000000) (W : World) (h : TabIs W B b ba bt v PL AL nT DA DT)
    (hrec : ∀ a, aliasOf AL s = some a → ∀ W', TabIs W' B b ba bt v PL AL nT DA DT → Calls Tryd.prog 56 #[.pointer (some ⟨b, 0, none⟩), .int .i64 a.place, .string a.name] W' (BindsTo PL AL a.place.toNat a.name W')) :
    Calls Tryd.prog 56 #[.pointer (some ⟨b, 0, none⟩), .int .i64 (p : Nat), .string s] W (BindsTo PL AL p s W) := by
  have HR := Lib.hid hrec
  clear hrec
  have HN := Lib.hid hN
  clear hN
  have HH := Lib.hid h
  have hl := Lib.hid (look_alias h s hs)
  have h0 : W.cell? ⟨b, 1, none⟩ = some (.map (some ba)) := by rw [cell_of_row W b _ _ _ (0, 0) h.mem.own]; rfl
  clear h
  go_enter Tryd.func56, Tryd.ntmps56
  go_wp2_with fail
  go_loop [8] (fun i => ∃ j : Nat, j ≤ p ∧ i = .int .i64 (j : Nat) ∧ Hid (upP PL s p = upP PL s j)) (fun i => (intOf i).toNat)
  case atStart => exact ⟨p, Nat.le_refl _, rfl, Lib.hid rfl⟩
  case round =>
    obtain ⟨j, hj, rfl, HJ⟩ := hrel
    by_cases hpos : 0 < j
    · obtain ⟨q, hq⟩ : ∃ q, PL[j - 1]? = some q := ⟨_, List.getElem?_eq_getElem (by omega)⟩
      obtain ⟨g, cap, rfl, hcap, c0, c1, c2, _, _⟩ := place_cells HH.out (j - 1) q hq
      have HQ := Lib.hid hq
      have hw := HN.out _ q hq
      clear hq
      by_cases he : q.name = s
      · have e1 : (q.name.toList == s.toList) = true := ba_eq.2 he
        have HU := Lib.hid (show upP PL s p = j from HJ.out.trans (up_hit hpos HQ.out he))
        clear he
        go_wp2_with fail
        go_ret2
        refine ⟨upP PL s p, s, .here (by rw [HU.out]; omega), ?_, Below.refl _ _⟩
        rw [HU.out]
        rfl
      · have e1 : (q.name.toList == s.toList) = false := by rw [← Bool.not_eq_true]; exact fun e => he (ba_eq.1 e)
        have HU := Lib.hid (show upP PL s p = upP PL s q.within.toNat from HJ.out.trans (up_miss HN.out hpos HQ.out he))
        clear he
        obtain ⟨m, hm⟩ := Int.eq_ofNat_of_zero_le hw.1
        rw [hm] at c1 hw HU
        clear hm
        obtain ⟨_, hw2⟩ := hw
        go_wp2_with fail
        go_round
        case rel => exact ⟨m, by omega, rfl, HU⟩
        case measure => simp [intOf]; omega
    · obtain rfl : j = 0 := by omega
      have HU := Lib.hid (show upP PL s p = 0 from HJ.out)
      clear HJ hj
      rcases hl.out with ⟨a, ha, hk⟩ | ⟨ha, x, y, z, hk⟩
      · have HA := Lib.hid ha
        have cR := Lib.hid (HR.out a ha)
        clear ha
        obtain ⟨a0, a1, a2, a3⟩ := a
        rw [Al.value] at hk
        go_wp2_with fail
        refine (cR.out _ ?_).mono ?_
        · exact HH.out.below ((Below.refl _ _).alloc (Nat.le_refl _) _)
        rintro e w' ⟨q, t, hb, rfl, hbl⟩
        have HB := Lib.hid hb
        clear hb
        go_wp2_with fail
        go_ret2
        exact ⟨q, t, .via HU.out HA.out HB.out, rfl, below_trans ((Below.refl _ _).alloc (Nat.le_refl _) _) hbl⟩
      · have HA := Lib.hid ha
        clear ha
        go_wp2_with fail
        go_ret2
        exact ⟨0, s, .bare HU.out HA.out, rfl, (Below.refl _ _).alloc (Nat.le_refl _) _⟩

theorem binds_any {B b ba bt nT : Nat} {v : Value} {PL : List Pl} {AL : List Al} {DA DT : DataW Value} (hW : Words PL AL) (hl63 : PL.length ≤ 1000000) (k : Nat) (s : ByteArray) (hc : Chain AL k s) :
    ∀ (p : Nat) (W : World), s.size ≤ maxLen → p ≤ PL.length → TabIs W B b ba bt v PL AL nT DA DT →
    Calls Tryd.prog 56 #[.pointer (some ⟨b, 0, none⟩), .int .i64 (p : Nat), .string s] W (BindsTo PL AL p s W) := by
  induction hc with
  | stop h =>
    intro p W hs hp hT
    exact binds_step p _ hs hp hW.nest hl63 W hT (fun a ha => by rw [h] at ha; cases ha)
  | step h hn _ ih =>
    intro p W hs hp hT
    refine binds_step p _ hs hp hW.nest hl63 W hT (fun a ha => ?_)
    rw [h] at ha
    cases ha
    intro W' hT'
    have hm := alias_mem h
    have hpl := hW.places _ hm.1
    have hsz := hW.sizes _ hm.1
    obtain ⟨m, hm⟩ := Int.eq_ofNat_of_zero_le hpl.1
    have := ih m W' (by unfold maxLen; omega) (by omega) hT'
    rw [hm]
    exact this
end Go.Proofs.YthighbbikpnpgaaDoor
