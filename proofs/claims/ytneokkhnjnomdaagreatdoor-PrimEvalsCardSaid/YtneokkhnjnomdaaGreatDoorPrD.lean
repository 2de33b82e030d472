/-
  The library's loops over a procedure's arguments.
-/
import Derived.Test.YtneokkhnjnomdaaGreatDoorPrC
import Derived.Deep.LoopGhost
import Derived.Deep.RegionHeld3
namespace Go.Proofs.YtneokkhnjnomdaaGreatDoor
open Go.RowKit Go.Proofs.YtneokkhnjnomdaaGreatDoorW.PrintWords

/-- A row of data lies there. -/
structure ArgsAt (L : List Nd) (v : Value) (w : World) : Prop where
  row : ∃ A cap, v = .slice A L.length cap ∧ ∀ j (hj : j < L.length), ∃ g o, A = some ⟨g, o, none⟩ ∧ g < w.heap.size ∧ w.cell? ⟨g, o + j * 4, none⟩ = some (.int .i64 L[j].k) ∧ w.cell? ⟨g, o + j * 4 + 1, none⟩ = some (.int .i64 L[j].n) ∧ w.cell? ⟨g, o + j * 4 + 2, none⟩ = some (.string L[j].t) ∧ w.cell? ⟨g, o + j * 4 + 3, none⟩ = some (.slice L[j].a L[j].m L[j].c)
theorem ArgsAt.later {L : List Nd} {v : Value} {w w' : World} (h : ArgsAt L v w) (hb : Below w.heap.size w w') : ArgsAt L v w' := by
  obtain ⟨A, cap, rfl, hc⟩ := h.row
  refine ⟨⟨A, cap, rfl, fun j hj => ?_⟩⟩
  obtain ⟨g, o, e, hg, h0, h1, h2, h3⟩ := hc j hj
  exact ⟨g, o, e, Nat.lt_of_lt_of_le hg hb.size, (hb.cell (p := ⟨g, o + j * 4, none⟩) hg).trans h0, (hb.cell (p := ⟨g, o + j * 4 + 1, none⟩) hg).trans h1, (hb.cell (p := ⟨g, o + j * 4 + 2, none⟩) hg).trans h2, (hb.cell (p := ⟨g, o + j * 4 + 3, none⟩) hg).trans h3⟩

structure IxI (L : List Nd) (k : Nat) (w : World) (w' : World) : Prop where
  below : Below w.heap.size w w'
  all : (L.take k).all plainN = true
  le : k ≤ L.length

structure IxTo (L : List Nd) (w : World) (e : Ending) (w' : World) : Prop where
  ret : ∃ r : Int, e = .returned (.int .i64 r) ∧ decide (0 ≤ r) = L.any (fun d => !plainN d)
  below : Below w.heap.size w w'

theorem any_not {L : List Nd} (h : L.all plainN = true) : L.any (fun d => !plainN d) = false := by
  rw [List.any_eq_false]
  intro d hd
  have := List.all_eq_true.1 h d hd
  simp [this]
theorem any_yes {L : List Nd} (k : Nat) (hk : k < L.length) (h : plainN L[k] = false) : L.any (fun d => !plainN d) = true := by
  rw [List.any_eq_true]
  exact ⟨L[k], List.getElem_mem hk, by simp [h]⟩

set_option maxRecDepth 100000 in
set_option maxHeartbeats 4000000 in
theorem index_plain (L : List Nd) (v : Value) (pb : Nat) (w : World) (hA : ArgsAt L v w) (hp : PlainAt pb w) (hN : ∀ d ∈ L, ∃ p, NdOk d p w) (hl : L.length ≤ 1000000000) :
    Calls Tryz.prog 56 #[v, .func (.func 29) #[] #[.pointer (some ⟨pb, 0, none⟩)]] w (IxTo L w) := by
  have HA := Lib.hid hA
  have HP := Lib.hid hp
  have HN := Lib.hid hN
  obtain ⟨A, cap, rfl, hc0⟩ := hA.row
  clear hp hN hc0
  go_enter Tryz.func56, Tryz.ntmps56
  go_wp2_with fail
  go_loopg [8] L.length (fun gk v w' => ∃ (k : Nat), v = .int .i64 (k : Nat) ∧ gk = L.length - k ∧ Hid (IxI L k w w'))
  case atStart => exact ⟨0, rfl, rfl, Lib.hid ⟨Below.refl _ _, by simp, Nat.zero_le _⟩⟩
  case round =>
    obtain ⟨k, rfl, rfl, HJ⟩ := hrel
    have hk := HJ.out.le
    by_cases hlt : k < L.length
    · have hlt' : (k : Int) < (L.length : Nat) := by omega
      have HAr := Lib.hid (HA.out.later HJ.out.below)
      obtain ⟨A2, cap2, e2, hc⟩ := HAr.out.row
      injection e2 with eA _ ec
      subst eA ec
      obtain ⟨g, o, rfl, hg, h0, h1, h2, h3⟩ := hc k hlt
      obtain ⟨d, hd⟩ : ∃ d, L[k] = d := ⟨_, rfl⟩
      rw [hd] at h0 h1 h2 h3
      have HD := Lib.hid hd
      have HLT := Lib.hid hlt
      clear hc hd
      go_wp2_with fail
      obtain ⟨p, hNd⟩ := HN.out d (HD.out ▸ List.getElem_mem HLT.out)
      refine (clo2_of pb d p _ (blk_below HP.out HJ.out.below) (hNd.later HJ.out.below)).mono ?_
      rintro e w2 ⟨rfl, hb2⟩
      have HB2 := Lib.hid (below_step HJ.out.below hb2)
      clear hb2 hNd h0 h1 h2 h3
      have hpl : plainN d = true ∨ plainN d = false := by cases plainN d <;> simp
      rcases hpl with hpl | hpl
      · have HX := Lib.hid (show (L.take (k + 1)).all plainN = true by
          rw [List.take_succ_eq_append_getElem HLT.out, List.all_append, HJ.out.all, HD.out]
          simp [hpl])
        rw [hpl]
        clear hpl
        go_wp2_with fail
        go_roundg (L.length - (k + 1))
        case measure => omega
        case rel => exact ⟨k + 1, rfl, rfl, Lib.hid ⟨HB2.out, HX.out, HLT.out⟩⟩
      · have HE := Lib.hid (show L.any (fun d => !plainN d) = true from any_yes k HLT.out (by rw [HD.out]; exact hpl))
        rw [hpl]
        clear hpl
        go_wp2_with fail
        go_ret
        exact ⟨⟨(k : Nat), rfl, by rw [HE.out]; exact decide_eq_true (by omega)⟩, HB2.out⟩
    · have hlt' : ¬ (k : Int) < (L.length : Nat) := by omega
      have HE := Lib.hid (show L.any (fun d => !plainN d) = false from any_not (by have := HJ.out.all; rw [List.take_of_length_le (by omega)] at this; exact this))
      go_wp2_with fail
      go_ret
      exact ⟨⟨_, rfl, by rw [HE.out]; rfl⟩, HJ.out.below⟩

set_option maxRecDepth 100000 in
set_option maxHeartbeats 4000000 in
theorem contains_plain (L : List Nd) (v : Value) (pb : Nat) (w : World) (hA : ArgsAt L v w) (hp : PlainAt pb w) (hN : ∀ d ∈ L, ∃ p, NdOk d p w) (hl : L.length ≤ 1000000000) :
    Calls Tryz.prog 28 #[v, .func (.func 29) #[] #[.pointer (some ⟨pb, 0, none⟩)]] w (Giv (.bool (L.any (fun d => !plainN d))) w) := by
  have HC := Lib.hid (index_plain L v pb w hA hp hN hl)
  obtain ⟨A, cap, rfl, -⟩ := hA.row
  clear hA hp hN
  go_enter Tryz.func28, Tryz.ntmps28
  go_wp2_with fail
  refine HC.out.mono ?_
  rintro e w2 ⟨⟨r, rfl, hr⟩, hb⟩
  have HR := Lib.hid hr
  have HB := Lib.hid hb
  clear hr hb
  go_wp2_with fail
  go_ret
  exact ⟨by rw [← HR.out]; rfl, HB.out⟩

/-- A row of numbers lies there. -/
structure IntsAt (L : List Int) (v : Value) (w : World) : Prop where
  row : ∃ g cap, v = .slice (some ⟨g, 0, none⟩) L.length cap ∧ g < w.heap.size ∧ ∀ j (hj : j < L.length), w.cell? ⟨g, j, none⟩ = some (.int .i64 L[j])
theorem IntsAt.later {L : List Int} {v : Value} {w w' : World} (h : IntsAt L v w) (hb : Below w.heap.size w w') : IntsAt L v w' := by
  obtain ⟨g, cap, rfl, hg, hc⟩ := h.row
  exact ⟨⟨g, cap, rfl, Nat.lt_of_lt_of_le hg hb.size, fun j hj => (hb.cell (p := ⟨g, j, none⟩) hg).trans (hc j hj)⟩⟩

structure EqI (L : List Nd) (K : List Int) (k : Nat) (w : World) (w' : World) : Prop where
  below : Below w.heap.size w w'
  all : (L.take k).map Nd.k = K.take k
  le : k ≤ L.length

def eqK (L : List Nd) (K : List Int) : Bool := decide (L.map Nd.k = K)

set_option maxRecDepth 100000 in
set_option maxHeartbeats 4000000 in
theorem equal_kinds (L : List Nd) (K : List Int) (v u : Value) (w : World) (hA : ArgsAt L v w) (hK : IntsAt K u w) (hl : L.length ≤ 1000000000) (hlk : L.length = K.length) :
    Calls Tryz.prog 31 #[v, u, .func (.func 32) #[] #[]] w (Giv (.bool (eqK L K)) w) := by
  have HA := Lib.hid hA
  have HK := Lib.hid hK
  have HLK := Lib.hid hlk
  obtain ⟨A, cap, rfl, hc0⟩ := hA.row
  obtain ⟨gk, capk, rfl, hgk, hck⟩ := hK.row
  have HGK := Lib.hid hgk
  have HCK := Lib.hid hck
  rw [← hlk]
  clear hc0 hck hgk hlk
  go_enter Tryz.func31, Tryz.ntmps31
  go_wp2_with fail
  go_loopg [17] L.length (fun gk v w' => ∃ (k : Nat), v = .int .i64 (k : Nat) ∧ gk = L.length - k ∧ Hid (EqI L K k w w'))
  case atStart => exact ⟨0, rfl, rfl, Lib.hid ⟨Below.refl _ _, by simp, Nat.zero_le _⟩⟩
  case round =>
    obtain ⟨k, rfl, rfl, HJ⟩ := hrel
    have hk := HJ.out.le
    by_cases hlt : k < L.length
    · have hlt' : (k : Int) < (L.length : Nat) := by omega
      have HAr := Lib.hid (HA.out.later HJ.out.below)
      obtain ⟨A2, cap2, e2, hc⟩ := HAr.out.row
      injection e2 with eA _ ec
      subst eA ec
      obtain ⟨g, o, rfl, hg, h0, h1, h2, h3⟩ := hc k hlt
      obtain ⟨d, hd⟩ : ∃ d, L[k] = d := ⟨_, rfl⟩
      rw [hd] at h0 h1 h2 h3
      have hltk : k < K.length := by rw [← HLK.out]; exact hlt
      obtain ⟨x, hx⟩ : ∃ x, ∀ h, K[k]'h = x := ⟨K[k]'hltk, fun _ => rfl⟩
      have hkx : (wr.alloc (.cells #[.int .i64 d.k, .int .i64 d.n, .string d.t, .slice d.a d.m d.c] 26)).cell? ⟨gk, k, none⟩ = some (.int .i64 x) := by
        rw [World.cell?_alloc_lt _ _ ⟨gk, k, none⟩ (Nat.lt_of_lt_of_le HGK.out HJ.out.below.size), HJ.out.below.cell (p := ⟨gk, k, none⟩) HGK.out, HCK.out k hltk, hx]
      have HD := Lib.hid hd
      have HX := Lib.hid hx
      have HLT := Lib.hid hlt
      have HLTK := Lib.hid hltk
      have HB1 := Lib.hid (below_alloc HJ.out.below d.obj)
      clear hc hd hx hltk
      go_wp2_with fail
      refine (clo3_of d x _).mono ?_
      rintro e w2 ⟨rfl, hb2⟩
      have HB2 := Lib.hid (below_step HB1.out hb2)
      clear hb2 h0 h1 h2 h3 hkx
      by_cases hdx : d.k = x
      · have HY := Lib.hid (show (L.take (k + 1)).map Nd.k = K.take (k + 1) by
          rw [List.take_succ_eq_append_getElem HLT.out, List.take_succ_eq_append_getElem HLTK.out, List.map_append, HJ.out.all, HD.out, HX.out, List.map_singleton, hdx])
        rw [show (d.k == x) = true by simp [hdx]]
        clear hdx
        go_wp2_with fail
        go_roundg (L.length - (k + 1))
        case measure => omega
        case rel => exact ⟨k + 1, rfl, rfl, Lib.hid ⟨HB2.out, HY.out, HLT.out⟩⟩
      · have HE := Lib.hid (show eqK L K = false from decide_eq_false (fun e => hdx (by
          subst e
          have h := HX.out (by simpa using HLT.out)
          rw [List.getElem_map, HD.out] at h
          exact h)))
        rw [show (d.k == x) = false from beq_eq_false_iff_ne.2 hdx]
        clear hdx
        go_wp2_with fail
        go_ret
        exact ⟨by rw [HE.out]; rfl, HB2.out⟩
    · have hlt' : ¬ (k : Int) < (L.length : Nat) := by omega
      have HE := Lib.hid (show eqK L K = true from decide_eq_true (by
        have := HJ.out.all
        rw [List.take_of_length_le (by omega), List.take_of_length_le (by rw [← HLK.out]; omega)] at this
        exact this))
      go_wp2_with fail
      go_ret
      exact ⟨by rw [HE.out]; rfl, HJ.out.below⟩
end Go.Proofs.YtneokkhnjnomdaaGreatDoor
