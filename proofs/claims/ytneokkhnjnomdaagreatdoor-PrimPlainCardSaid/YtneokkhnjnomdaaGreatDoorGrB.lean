/-
  The law's arguments: trees of data that come from outside, as Eval takes them.
-/
import Derived.Test.YtneokkhnjnomdaaGreatDoorGrA
import Derived.Test.YtneokkhnjnomdaaGreatDoorPrJ
import Derived.ProofKit
import Derived.OpenShut
import Derived.Deep.Slices
namespace Go.Proofs.YtneokkhnjnomdaaGreatDoor
open Go.RowKit Go.Proofs.YtneokkhnjnomdaaGreatDoor.PSh Go.Proofs.YtneokkhnjnomdaaGreatDoorW.PrintWords Go.ChangeShapes Go.WideShapes

theorem row_none (w : World) (A : Option Addr) : Kd.C kD w A 0 [] := ⟨rfl, by omega, fun h => by omega⟩
/-- A datum's number is one of the machine's. -/
def bndX (x : Dat) : Prop := -9223372036854775808 ≤ x.f1 ∧ x.f1 ≤ 9223372036854775807
theorem wf_bnd {k n : Int} {t : ByteArray} {l : List Dat} (h : (Lit.int .i64 n).wf = true) : bndX ⟨k, n, t, l⟩ := by
  have h2 : (decide (IntKind.i64.min ≤ n) && decide (n ≤ IntKind.i64.max)) = true := h
  simp only [Bool.and_eq_true, decide_eq_true_eq] at h2
  exact ⟨h2.1, h2.2⟩

section
variable {H : Type} {enc : TypeId × Value → H} {w : World} {b0 : Nat} {sp : Nat → Bool} {held : Bool}

theorem cells_dat : Tryz.prog.cellsOf 26 = 4 := by kernel_rfl
theorem cells_int : Tryz.prog.cellsOf 3 = 1 := by kernel_rfl
theorem cells_str : Tryz.prog.cellsOf 9 = 1 := by kernel_rfl
theorem cells_sl : Tryz.prog.cellsOf 22 = 1 := by kernel_rfl

set_option maxRecDepth 16000 in
theorem dat_readB (fuel : Nat) : (∀ (cs : List Value) (z : DataW H × List MemPlace), DataW.trod enc Tryz.prog w b0 sp held fuel 26 cs = some z → ∃ x : Dat, kD.K w x cs ∧ bndX x) ∧
    (∀ (v : Value) (z : DataW H × List MemPlace), DataW.trod enc Tryz.prog w b0 sp held fuel 22 [v] = some z → ∃ (A : Option Addr) (c : Nat) (l : List Dat), v = .slice A l.length c ∧ l.length ≤ c ∧ Kd.C kD w A l.length l ∧ ∀ x ∈ l, bndX x) := by
  induction fuel using Nat.strongRecOn with
  | ind fuel ih =>
    refine ⟨fun cs z h => ?_, fun v z h => ?_⟩
    · obtain ⟨xs, n, rfl, _, hl, hlen, hg⟩ := DataW.trod_struct Tryz.underlying26 h
      rw [cells_dat] at hl
      match cs, hl with
      | [a0, a1, a2, a3], _ =>
        match xs, hlen with
        | [y0, y1, y2, y3], _ =>
          have g0 : DataW.trod enc Tryz.prog w b0 sp held n 3 (([a0, a1, a2, a3].drop 0).take (Tryz.prog.cellsOf 3)) = some y0 := hg 0 _ rfl
          have g1 : DataW.trod enc Tryz.prog w b0 sp held n 3 (([a0, a1, a2, a3].drop 1).take (Tryz.prog.cellsOf 3)) = some y1 := hg 1 _ rfl
          have g2 : DataW.trod enc Tryz.prog w b0 sp held n 9 (([a0, a1, a2, a3].drop 2).take (Tryz.prog.cellsOf 9)) = some y2 := hg 2 _ rfl
          have g3 : DataW.trod enc Tryz.prog w b0 sp held n 22 (([a0, a1, a2, a3].drop 3).take (Tryz.prog.cellsOf 22)) = some y3 := hg 3 _ rfl
          rw [cells_int] at g0 g1
          rw [cells_str] at g2
          rw [cells_sl] at g3
          obtain ⟨n0, e0, _, _⟩ := DataW.trod_int Tryz.underlying3 g0
          obtain ⟨n1, e1, _, w1⟩ := DataW.trod_int Tryz.underlying3 g1
          obtain ⟨s2, e2, _, _⟩ := DataW.trod_string Tryz.underlying9 g2
          obtain ⟨A, c, l, e3, hlc, hC, _⟩ := (ih n (by omega)).2 a3 y3 g3
          simp at e0 e1 e2
          subst e0 e1 e2 e3
          exact ⟨⟨n0, n1, s2, l⟩, k26_mk w ⟨n0, n1, s2, l⟩ hlc hC, wf_bnd w1⟩
    · rcases DataW.trod_slice Tryz.underlying22 h with ⟨hcs, _⟩ | ⟨a, len, cap, elems, rest, n, rfl, hcs, _, hb, hlc, hcm, hel, hget, _, _⟩
      · simp at hcs
        subst hcs
        exact ⟨none, 0, [], rfl, Nat.le_refl _, row_none w none, by intro x hx; cases hx⟩
      · simp at hcs
        subst hcs
        have each : ∀ i, i < len → ∃ x : Dat, ∃ c, c.length = 4 ∧ (kD.K w x c ∧ bndX x) ∧ ∀ j u, c[j]? = some u → w.cell? (a.add (i * 4 + j)) = some u := by
          intro i hi
          have h1 := hget i hi
          rw [List.getElem?_eq_getElem (by omega), cells_dat, Option.bind_eq_some_iff] at h1
          obtain ⟨cs', hc', ht⟩ := h1
          obtain ⟨_, hl4, hat⟩ := World.cells?_some hc'
          obtain ⟨x, hK⟩ := (ih n (by omega)).1 cs' _ ht
          refine ⟨x, cs', hl4, hK, fun j u hu => ?_⟩
          have hj : j < 4 := by have := (List.getElem?_eq_some_iff.1 hu).1; omega
          rw [← Go.Deep.add_add, hat j hj, hu]
        have pick : ∀ k, k ≤ len → ∃ l : List Dat, l.length = k ∧ (∀ x ∈ l, bndX x) ∧ ∀ j p, l[j]? = some p → ∃ c, c.length = kD.sz ∧ kD.K w p c ∧ ∀ i u, c[i]? = some u → w.cell? (a.add (j * kD.sz + i)) = some u := by
          intro k
          induction k with
          | zero => intro _; exact ⟨[], rfl, (by intro x hx; cases hx), (by intro j p h; simp at h)⟩
          | succ k ihk =>
            intro hk
            obtain ⟨l, hl, hbl, hp⟩ := ihk (by omega)
            obtain ⟨x, c, h1, ⟨h2, h2b⟩, h3⟩ := each k (by omega)
            refine ⟨l ++ [x], by simp [hl], (fun y hy => by
              rcases List.mem_append.1 hy with hy | hy
              · exact hbl y hy
              · obtain rfl := List.mem_singleton.1 hy
                exact h2b), fun j p hj => ?_⟩
            by_cases hjl : j < l.length
            · rw [List.getElem?_append_left hjl] at hj
              exact hp j p hj
            · rw [List.getElem?_append_right (by omega)] at hj
              by_cases hje : j = l.length
              · subst hje
                simp at hj
                subst hj
                exact ⟨c, h1, h2, by rw [hl]; exact h3⟩
              · rw [List.getElem?_eq_none (by simp; omega)] at hj
                cases hj
        obtain ⟨l, hl, hbl, hp⟩ := pick len (Nat.le_refl _)
        subst hl
        exact ⟨some a, cap, l, rfl, hlc, ⟨rfl, by unfold maxLen at hcm; omega, fun _ => ⟨a, rfl, hp⟩⟩, hbl⟩

end

/-- The datum d stands for the tree x. -/
structure NdIs (d : Nd) (x : Dat) : Prop where
  k : d.k = x.f0
  n : d.n = x.f1
  t : d.t = x.f2
  m : d.m = x.f3.length

theorem dat_spot {w : World} {p : Addr} {x : Dat} {A : Option Addr} {c : Nat} (h : DatAt w p x A c) : p.spot = none := by
  have h0 := h.c0
  unfold World.cell? at h0
  split at h0
  · split at h0
    · cases h0
    · rename_i hs
      simpa using hs
  · cases h0

theorem args_nd (l : List Dat) (A : Option Addr) (c : Nat) (w : World) (hC : Kd.C kD w A l.length l) (hb : ∀ x ∈ l, bndX x) (hf : ∀ x ∈ l, cnt x 0 ≤ 4000) :
    ∃ L : List Nd, ∃ hl : L.length = l.length, (∀ j (h : j < l.length), NdIs (L[j]'(by omega)) l[j]) ∧ ArgsAt L (.slice A l.length c) w ∧ ∀ d ∈ L, ∃ p, NdOk d p w := by
  have H : ∀ j, ∃ d : Nd, ∀ (h : j < l.length), NdIs d l[j] ∧ (∃ ad, A = some ad ∧ DatAt w (ad.add (j * 4)) l[j] d.a d.c) := by
    intro j
    by_cases h : j < l.length
    · obtain ⟨ad, e, A', c', hD⟩ := dat_item hC j h h
      exact ⟨⟨l[j].f0, l[j].f1, l[j].f2, A', l[j].f3.length, c'⟩, fun _ => ⟨⟨rfl, rfl, rfl, rfl⟩, ad, e, hD⟩⟩
    · exact ⟨⟨0, 0, ⟨#[]⟩, none, 0, 0⟩, fun h2 => absurd h2 h⟩
  have hf2 : ∃ f : Nat → Nd, ∀ j (h : j < l.length), NdIs (f j) l[j] ∧ (∃ ad, A = some ad ∧ DatAt w (ad.add (j * 4)) l[j] (f j).a (f j).c) := ⟨fun j => Classical.choose (H j), fun j => Classical.choose_spec (H j)⟩
  obtain ⟨f, hff⟩ := hf2
  refine ⟨(List.range l.length).map f, by simp, fun j h => ?_, ⟨A, c, by simp, fun j hj => ?_⟩, fun d hd => ?_⟩
  · simp only [List.getElem_map, List.getElem_range]
    exact (hff j h).1
  · have h : j < l.length := by simpa using hj
    simp only [List.getElem_map, List.getElem_range]
    obtain ⟨ad, e, hD⟩ := (hff j h).2
    obtain ⟨ad0, e0, hD0⟩ := (hff 0 (by omega)).2
    have ee : ad0 = ad := by rw [e] at e0; injection e0 with e0; exact e0.symm
    subst ee
    have hs := dat_spot hD0
    have hz : ad0.add (0 * 4) = ad0 := by simp [Addr.add]
    rw [hz] at hs
    obtain ⟨g, o, sp⟩ := ad0
    dsimp only at hs
    subst hs
    have hadd : (⟨g, o, none⟩ : Addr).add (j * 4) = ⟨g, o + j * 4, none⟩ := by
      unfold Addr.add
      split
      · rename_i h0
        rw [h0]; rfl
      · rfl
    rw [hadd] at hD
    have hN := (hff j h).1
    exact ⟨g, o, e, World.block_lt_of_cell? w _ hD.c0, by rw [hN.k]; exact hD.c0, by rw [hN.n]; exact hD.c1, by rw [hN.t]; exact hD.c2, by rw [hN.m]; exact hD.c3⟩
  · obtain ⟨j, hj, rfl⟩ := List.mem_map.1 hd
    have h : j < l.length := List.mem_range.1 hj
    obtain ⟨hN, ad, e, hD⟩ := hff j h
    have hx : l[j] ∈ l := List.getElem_mem h
    refine ⟨(cnt l[j] 0 : Nat), by rw [hN.n]; exact (hb _ hx).1, by rw [hN.n]; exact (hb _ hx).2, by have := hf _ hx; omega, fun w' hb' => ?_⟩
    have hp := parts_any l[j] (f j).a (f j).c w' hD.len (Kd.C_below hD.items hb')
    show Calls Tryz.prog 54 #[.agg #[.int .i64 (f j).k, .int .i64 (f j).n, .string (f j).t, .slice (f j).a (f j).m (f j).c]] w' _
    rw [hN.k, hN.n, hN.t, hN.m]
    exact hp.mono fun _ _ h => ⟨h.1, h.2⟩

theorem plain_nd {x : Dat} {d : Nd} (h : NdIs d x) : plainN d = (decide (1 ≤ x.f0) && decide (x.f0 ≤ 5) && rightD x) := by
  obtain ⟨k, n, t, l⟩ := x
  obtain ⟨hk, hn, ht, hm⟩ := h
  dsimp only at hk hn ht hm
  obtain ⟨dk, dn, dt, da, dm, dc⟩ := d
  dsimp only at hk hn ht hm
  subst hk hn ht hm
  have htl : dt.toList = dt.data.toList := by rw [ByteArray.toList_eq]
  cases l with
  | cons y r =>
    have h1 : plainN ⟨dk, dn, dt, da, (y :: r).length, dc⟩ = false := by simp [plainN]
    rw [h1]
    symm
    by_cases h5 : 1 ≤ dk ∧ dk ≤ 5
    · have hf : fitsD ⟨dk, dn, dt, y :: r⟩ 0 = false := by
        rw [fitsD]
        have : dk = 1 ∨ dk = 2 ∨ dk = 3 ∨ dk = 4 ∨ dk = 5 := by omega
        rcases this with rfl | rfl | rfl | rfl | rfl <;> simp
      rw [rightD, hf, Bool.and_false, Bool.and_false]
    · have : (decide (1 ≤ dk) && decide (dk ≤ 5)) = false := by simp; omega
      rw [this, Bool.false_and]
  | nil =>
    have hc : cnt ⟨dk, dn, dt, []⟩ 0 = 1 := by rw [cnt, cntL]
    have hr : rightD ⟨dk, dn, dt, []⟩ = fitsD ⟨dk, dn, dt, []⟩ 0 := by
      unfold rightD
      rw [hc, show decide (1 ≤ 4000) = true from rfl, Bool.true_and]
    rw [hr]
    by_cases h5 : 1 ≤ dk ∧ dk ≤ 5
    · have : dk = 1 ∨ dk = 2 ∨ dk = 3 ∨ dk = 4 ∨ dk = 5 := by omega
      rw [fitsD]
      rcases this with rfl | rfl | rfl | rfl | rfl <;> simp [plainN, htl] <;> (try (rw [Bool.eq_iff_iff]; simp)) <;> (try omega)
    · have h1 : (decide (1 ≤ dk) && decide (dk ≤ 5)) = false := by simp; omega
      rw [show (decide (1 ≤ (⟨dk, dn, dt, []⟩ : Dat).f0) && decide ((⟨dk, dn, dt, []⟩ : Dat).f0 ≤ 5)) = false from h1, Bool.false_and]
      simp [plainN, show ¬ dk = 1 by omega, show ¬ dk = 2 by omega, show ¬ dk = 3 by omega, show ¬ dk = 4 by omega, show ¬ dk = 5 by omega]

def plainX (x : Dat) : Bool := decide (1 ≤ x.f0) && decide (x.f0 ≤ 5) && rightD x
theorem any_plain {L : List Nd} {l : List Dat} (hl : L.length = l.length) (h : ∀ j (h : j < l.length), NdIs (L[j]'(by omega)) l[j]) : L.any (fun d => !plainN d) = !l.all plainX := by
  induction L generalizing l with
  | nil =>
    cases l with
    | nil => rfl
    | cons y r => simp at hl
  | cons d L ih =>
    cases l with
    | nil => simp at hl
    | cons x r =>
      have h0 : plainN d = plainX x := plain_nd (h 0 (by simp))
      have hr := ih (l := r) (by simpa using hl) (fun j hj => h (j + 1) (by simp; omega))
      rw [List.any_cons, List.all_cons, hr, h0]
      cases plainX x <;> simp

def fewX (x : Dat) : Bool := smallD x && decide (cnt x 0 ≤ 300)
def fewL (l : List Dat) : Bool := decide (l.length ≤ 40) && l.all fewX
end Go.Proofs.YtneokkhnjnomdaaGreatDoor
