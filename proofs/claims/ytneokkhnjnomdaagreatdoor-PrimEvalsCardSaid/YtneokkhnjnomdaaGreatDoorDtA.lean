/-
  Data in memory; how many parts a datum has (read.counted).
-/
import Derived.Test.YtneokkhnjnomdaaGreatDoorGB2
namespace Go.Proofs.YtneokkhnjnomdaaGreatDoor
open Go.RowKit Go.Proofs.YtneokkhnjnomdaaGreatDoor.PSh Go.Proofs.YtneokkhnjnomdaaGreatDoorW.PrintWords

abbrev Dat := S26
abbrev kD := k26
noncomputable def szD (x : Dat) : Nat := SizeOf.sizeOf x
/-- At p lies the datum x. -/
structure DatAt (w : World) (p : Addr) (x : Dat) (A : Option Addr) (c : Nat) : Prop where
  c0 : w.cell? p = some (.int .i64 x.f0)
  c1 : w.cell? ⟨p.block, p.off + 1, none⟩ = some (.int .i64 x.f1)
  c2 : w.cell? ⟨p.block, p.off + 2, none⟩ = some (.string x.f2)
  c3 : w.cell? ⟨p.block, p.off + 3, none⟩ = some (.slice A x.f3.length c)
  len : x.f3.length ≤ c
  items : Kd.C kD w A x.f3.length x.f3

theorem DatAt.below {w w' : World} {p : Addr} {x : Dat} {A : Option Addr} {c : Nat} (h : DatAt w p x A c) (hb : Below w.heap.size w w') : DatAt w' p x A c where
  c0 := (hb.cell (World.block_lt_of_cell? w _ h.c0)).trans h.c0
  c1 := (hb.cell (World.block_lt_of_cell? w _ h.c1)).trans h.c1
  c2 := (hb.cell (World.block_lt_of_cell? w _ h.c2)).trans h.c2
  c3 := (hb.cell (World.block_lt_of_cell? w _ h.c3)).trans h.c3
  len := h.len
  items := Kd.C_below h.items hb

/-- One of a row's data. -/
theorem dat_item {w : World} {A : Option Addr} {n : Nat} {xs : List Dat} (h : Kd.C kD w A n xs) (j : Nat) (hj : j < n) (hl : j < xs.length) :
    ∃ ad, A = some ad ∧ ∃ A' c', DatAt w (ad.add (j * 4)) xs[j] A' c' := by
  obtain ⟨ad, A', c', e, h0, h1, h2, h3, hlen, hC⟩ := at_T26 h (j : Int) (by omega) (by omega)
  have hx : rd_T26 xs (j : Int) = xs[j] := by
    unfold rd_T26
    rw [Int.toNat_natCast, List.getD_eq_getElem?_getD, List.getElem?_eq_getElem hl]
    rfl
  rw [hx] at h0 h1 h2 h3 hlen hC
  rw [Int.toNat_natCast] at h0 h1 h2 h3
  exact ⟨ad, e, A', c', ⟨h0, h1, h2, h3, hlen, hC⟩⟩

theorem dat_lt {x y : Dat} (h : y ∈ x.f3) : szD y < szD x := by
  have := List.sizeOf_lt_of_mem h
  obtain ⟨a, b, c, l⟩ := x
  simp [szD] at this ⊢
  omega

mutual
/-- How many parts, up to 5000. -/
def cnt : Dat → Nat → Nat
  | ⟨_, _, _, l⟩, n => cntL l (n + 1)
def cntL : List Dat → Nat → Nat
  | [], n => n
  | x :: r, n => if 5000 ≤ n then n else cntL r (cnt x n)
end
theorem cnt_eq (x : Dat) (n : Nat) : cnt x n = cntL x.f3 (n + 1) := by obtain ⟨a, b, c, l⟩ := x; rw [cnt]
theorem cntL_stop (l : List Dat) (n : Nat) (h : 5000 ≤ n) : cntL l n = n := by
  cases l with
  | nil => rw [cntL]
  | cons x r => rw [cntL, if_pos h]
theorem cntL_next (x : Dat) (r : List Dat) (n : Nat) (h : ¬ 5000 ≤ n) : cntL (x :: r) n = cntL r (cnt x n) := by rw [cntL, if_neg h]

theorem cnt_bound (m : Nat) : ∀ x : Dat, szD x < m → ∀ n, n < 5000 → n < cnt x n ∧ cnt x n ≤ 5000 := by
  induction m with
  | zero => intro x h; omega
  | succ m ih =>
    intro x hx n hn
    rw [cnt_eq]
    have : ∀ (l : List Dat), (∀ y ∈ l, szD y < m) → ∀ k, k ≤ 5000 → k ≤ cntL l k ∧ cntL l k ≤ 5000 := by
      intro l
      induction l with
      | nil => intro _ k hk; rw [cntL]; omega
      | cons y r ihr =>
        intro hl k hk
        by_cases h5 : 5000 ≤ k
        · rw [cntL_stop _ _ h5]; omega
        · rw [cntL_next _ _ _ h5]
          obtain ⟨h1, h2⟩ := ih y (hl y (by simp)) k (by omega)
          obtain ⟨h3, h4⟩ := ihr (fun z hz => hl z (by simp [hz])) (cnt y k) h2
          omega
    obtain ⟨h1, h2⟩ := this x.f3 (fun y hy => by have := dat_lt hy; omega) (n + 1) (by omega)
    omega

set_option maxRecDepth 400000 in
set_option maxHeartbeats 1000000 in
theorem counted_any (m : Nat) : ∀ x : Dat, szD x < m → ∀ (p : Addr) (n : Nat) (w : World) (A : Option Addr) (c : Nat), DatAt w p x A c → n < 5000 →
    Calls Tryz.prog 78 #[.pointer (some p), .int .i64 (n : Nat)] w fun e w' => e = .returned (.int .i64 (cnt x n : Nat)) ∧ w = w' := by
  induction m with
  | zero => intro x h; omega
  | succ m ih =>
    intro x hx p n w A c hD hn
    have H := Lib.hid hD
    have IH := Lib.hid ih
    have hl := hD.len
    have c3 := hD.c3
    have HX := Lib.hid (show ∀ y ∈ x.f3, szD y < m from fun y hy => by have := dat_lt hy; omega)
    have HE := Lib.hid (cnt_eq x n)
    clear ih hD
    go_enter Tryz.func78, Tryz.ntmps78
    go_wp2_with fail
    clear c3
    go_loop [1, 13] (fun nn i => ∃ (j k : Nat), j ≤ x.f3.length ∧ i = .int .i64 (j : Nat) ∧ nn = .int .i64 (k : Nat) ∧ k ≤ 5000 ∧ Hid (cntL (x.f3.drop j) k = cnt x n)) (fun _ i => x.f3.length - (intOf i).toNat)
    case atStart => exact ⟨0, n + 1, Nat.zero_le _, rfl, by go_num, by omega, Lib.hid (by rw [HE.out]; rfl)⟩
    case round =>
      obtain ⟨j, k, hj, rfl, rfl, hk, HR⟩ := hrel
      have h63 : x.f3.length ≤ 9223372036854775807 := H.out.items.2.1
      have c3 := H.out.c3
      by_cases hlt : j < x.f3.length
      · by_cases h5 : 5000 ≤ k
        · have HF := Lib.hid (show k = cnt x n by rw [← HR.out, cntL_stop _ _ h5])
          go_wp2_with fail
          go_ret
          exact ⟨by rw [← HF.out]; rfl, rfl⟩
        · obtain ⟨ad, rfl, A', c', hD'⟩ := dat_item H.out.items j hlt hlt
          have hy := HX.out x.f3[j] (List.getElem_mem hlt)
          have HC := Lib.hid (IH.out x.f3[j] hy _ k w A' c' hD' (by omega))
          have HB := Lib.hid (cnt_bound m x.f3[j] hy k (by omega))
          have HS := Lib.hid (show cntL (x.f3.drop (j + 1)) (cnt x.f3[j] k) = cnt x n by rw [← HR.out, List.drop_eq_getElem_cons hlt, cntL_next _ _ _ h5])
          generalize x.f3[j] = y at hD' hy HC HB HS
          have HLT := Lib.hid hlt
          clear hD' hy
          go_wp2_with fail
          refine HC.out.mono ?_
          rintro e w' ⟨rfl, rfl⟩
          go_wp2_with fail
          go_round
          case rel => exact ⟨j + 1, cnt y k, by have := HLT.out; omega, by go_num, rfl, HB.out.2, HS⟩
          case measure => have := HLT.out; simp [intOf]; omega
      · obtain rfl : j = x.f3.length := by omega
        have HF := Lib.hid (show k = cnt x n by rw [← HR.out, List.drop_length, cntL])
        go_wp2_with fail
        go_ret
        exact ⟨by rw [← HF.out]; rfl, rfl⟩

set_option maxRecDepth 16000 in
theorem dat_box (w : World) (x : Dat) (A : Option Addr) (c : Nat) (hl : x.f3.length ≤ c) (hC : Kd.C kD w A x.f3.length x.f3) (w' : World) (hb : Below (w.alloc (.cells #[.int .i64 x.f0, .int .i64 x.f1, .string x.f2, .slice A x.f3.length c] 26)).heap.size (w.alloc (.cells #[.int .i64 x.f0, .int .i64 x.f1, .string x.f2, .slice A x.f3.length c] 26)) w') :
    DatAt w' ⟨w.heap.size, 0, none⟩ x A c := by
  have hm : w'.heap[w.heap.size]? = some (.cells #[.int .i64 x.f0, .int .i64 x.f1, .string x.f2, .slice A x.f3.length c] 26 (0, 0)) := heap_below (heap_alloc_new w _) hb (by simp)
  refine ⟨?_, ?_, ?_, ?_, hl, Kd.C_below hC (below_trans ((Below.refl _ _).alloc (Nat.le_refl _) _) hb)⟩
  all_goals (rw [cell_of_row w' _ _ _ _ (0, 0) hm]; rfl)

set_option maxRecDepth 16000 in
theorem parts_any (x : Dat) (A : Option Addr) (c : Nat) (w : World) (hl : x.f3.length ≤ c) (hC : Kd.C kD w A x.f3.length x.f3) :
    Calls Tryz.prog 54 #[.agg #[.int .i64 x.f0, .int .i64 x.f1, .string x.f2, .slice A x.f3.length c]] w fun e w' => e = .returned (.int .i64 (cnt x 0 : Nat)) ∧ Below w.heap.size w w' := by
  have HC := Lib.hid (counted_any (szD x + 1) x (by omega) ⟨w.heap.size, 0, none⟩ 0 _ A c (dat_box w x A c hl hC _ (Below.refl _ _)) (by omega))
  clear hC
  go_enter Tryz.func54, Tryz.ntmps54
  go_wp2_with fail
  refine HC.out.mono ?_
  rintro e w' ⟨rfl, rfl⟩
  go_wp2_with fail
  go_ret
  exact ⟨rfl, (Below.refl _ _).alloc (Nat.le_refl _) _⟩
end Go.Proofs.YtneokkhnjnomdaaGreatDoor
