/-
  What the printed functions of the reference come to, of trees of data.
-/
import Derived.Test.YtneokkhnjnomdaaGreatDoorDtD
import Derived.Test.YtneokkhnjnomdaaGreatDoorGB2
namespace Go.Proofs.YtneokkhnjnomdaaGreatDoor
open Go.RowKit Go.Proofs.YtneokkhnjnomdaaGreatDoor.PSh Go.Proofs.YtneokkhnjnomdaaGreatDoorW.PrintWords

mutual
/-- How many parts in all. -/
def prt : Dat → Nat
  | ⟨_, _, _, l⟩ => prtL l + 1
def prtL : List Dat → Nat
  | [] => 0
  | x :: r => prt x + prtL r
end

theorem cnt_prt (m : Nat) : ∀ x : Dat, szD x < m → ∀ n, cnt x n ≤ 4999 → cnt x n = n + prt x := by
  induction m with
  | zero => intro x h; omega
  | succ m ih =>
    intro x hx n
    have hxs : ∀ y ∈ x.f3, szD y < m := fun y hy => by have := dat_lt hy; omega
    obtain ⟨a, b, c, l⟩ := x
    rw [cnt, prt]
    have : ∀ (l : List Dat), (∀ y ∈ l, szD y < m) → ∀ k, cntL l k ≤ 4999 → cntL l k = k + prtL l := by
      intro l
      induction l with
      | nil => intro _ k _; rw [cntL, prtL]; omega
      | cons y r ihr =>
        intro hl k hk
        by_cases h5 : 5000 ≤ k
        · rw [cntL_stop _ _ h5] at hk; omega
        · rw [cntL_next _ _ _ h5] at hk ⊢
          have hr : ∀ k, k ≤ 5000 → k ≤ cntL r k := by
            have : ∀ (r : List Dat), (∀ y ∈ r, szD y < m) → ∀ k, k ≤ 5000 → k ≤ cntL r k := by
              intro r
              induction r with
              | nil => intro _ k _; rw [cntL]; omega
              | cons z r ihr =>
                intro hl k hk
                by_cases h5 : 5000 ≤ k
                · rw [cntL_stop _ _ h5]; omega
                · rw [cntL_next _ _ _ h5]
                  have h1 := cnt_bound m z (hl z (by simp)) k (by omega)
                  have := ihr (fun w hw => hl w (by simp [hw])) (cnt z k) h1.2
                  omega
            exact this r (fun w hw => hl w (by simp [hw]))
          have hb := cnt_bound m y (hl y (by simp)) k (by omega)
          have h1 := hr (cnt y k) hb.2
          have h2 := ih y (hl y (by simp)) k (by omega)
          have h3 := ihr (fun w hw => hl w (by simp [hw])) (cnt y k) hk
          rw [prtL]
          omega
    intro h
    rw [this l hxs (n + 1) h]
    omega

theorem box_cells (w : World) (a b c d : Value) (t : TypeId) (w' : World) (hb : Below (w.alloc (.cells #[a, b, c, d] t)).heap.size (w.alloc (.cells #[a, b, c, d] t)) w') :
    w'.cell? ⟨w.heap.size, 0, none⟩ = some a ∧ w'.cell? ⟨w.heap.size, 1, none⟩ = some b ∧ w'.cell? ⟨w.heap.size, 2, none⟩ = some c ∧ w'.cell? ⟨w.heap.size, 3, none⟩ = some d := by
  have hm : w'.heap[w.heap.size]? = some (.cells #[a, b, c, d] t (0, 0)) := heap_below (heap_alloc_new w _) hb (by simp)
  exact (cells_at4 hm).1

theorem fitsL_mem {l : List Dat} {wi : Nat} (h : fitsL l wi = true) : ∀ x ∈ l, fitsD x wi = true := by
  induction l with
  | nil => intro x hx; cases hx
  | cons y r ihr =>
    intro x hx
    rw [fitsL] at h
    simp only [Bool.and_eq_true] at h
    rcases List.mem_cons.1 hx with rfl | hx
    · exact h.1
    · exact ihr h.2 x hx

theorem rd_at {L : List Dat} {j : Nat} (h : j < L.length) : rd_T26 L (j : Int) = L[j] := by
  unfold rd_T26
  rw [Int.toNat_natCast, List.getD_eq_getElem?_getD, List.getElem?_eq_getElem h]
  rfl
theorem dat_eta (x : Dat) : (⟨x.f0, x.f1, x.f2, x.f3⟩ : Dat) = x := by cases x; rfl
theorem sz_cons {x : Dat} {r : List Dat} : SizeOf.sizeOf (x :: r) = 1 + szD x + SizeOf.sizeOf r := by simp [szD]
theorem sz_dat {a b : Int} {c : ByteArray} {l : List Dat} : SizeOf.sizeOf l + 1 ≤ szD ⟨a, b, c, l⟩ := by simp [szD]; omega

theorem wrapS {j : Nat} (h : j < 9223372036854775807) : wrap64 ((j : Int) + 1) = ((j + 1 : Nat) : Int) := by unfold wrap64; omega
theorem wrapP {far : Int} (h : 0 ≤ far) (h2 : far ≤ 9223372036854775807) : wrap64 (far - 1) = far - 1 := by unfold wrap64; omega
theorem wrapN {far : Nat} (h : 0 < far) (h2 : far ≤ 9223372036854775807) : wrap64 ((far : Int) - 1) = ((far - 1 : Nat) : Int) := by unfold wrap64; omega

theorem count_f (m : Nat) : ∀ x : Dat, szD x < m → ∀ (n : Nat) (far : Int) (K : Nat), n < 5000 → 6000 ≤ n + far → far ≤ 100000 → 3 * szD x ≤ K →
    spindleref08_count.f K x.f0 x.f1 x.f2 x.f3 (n : Int) far = some (cnt x n : Int) := by
  induction m with
  | zero => intro x h; omega
  | succ m ih =>
    intro x hx n far K hn hf hf2 hK
    have hxs : ∀ y ∈ x.f3, szD y < m := fun y hy => by have := dat_lt hy; omega
    obtain ⟨a, b, c, L⟩ := x
    have hs := sz_dat (a := a) (b := b) (c := c) (l := L)
    obtain ⟨K, rfl⟩ : ∃ k, K = k + 1 := ⟨K - 1, by omega⟩
    simp only [spindleref08_count.f]
    rw [wrapS (by omega), cnt]
    have l0 : ∀ (d j k K : Nat), d = L.length - j → j ≤ L.length → j ≤ k → k ≤ 5000 → 6001 ≤ k + far → 3 * SizeOf.sizeOf (L.drop j) ≤ K →
        spindleref08_count.l0 K (k : Int) far (j : Int) a b c L = some (cntL (L.drop j) k : Int) := by
      intro d
      induction d with
      | zero =>
        intro j k K hd hj hjk hk hf hK
        obtain rfl : j = L.length := by omega
        obtain ⟨K, rfl⟩ : ∃ k, K = k + 1 := ⟨K - 1, by simp at hK; omega⟩
        simp only [spindleref08_count.l0]
        rw [if_neg (by omega), List.drop_length, cntL]
        congr 1
        unfold mn
        omega
      | succ d ihd =>
        intro j k K hd hj hjk hk hf hK
        have hlt : j < L.length := by omega
        rw [List.drop_eq_getElem_cons hlt] at hK ⊢
        rw [sz_cons] at hK
        obtain ⟨K, rfl⟩ : ∃ k, K = k + 1 := ⟨K - 1, by omega⟩
        simp only [spindleref08_count.l0]
        rw [if_pos (by omega)]
        by_cases h5 : 5000 ≤ k
        · rw [if_neg (by omega), cntL_stop _ _ h5]
          congr 1
          unfold mn
          omega
        · rw [if_pos (by omega), if_pos (by omega), if_pos (by omega), rd_at hlt, cntL_next _ _ _ h5]
          have hcb := cnt_bound m L[j] (hxs L[j] (List.getElem_mem hlt)) k (by omega)
          rw [wrapP (by omega) (by omega), wrapS (by omega), ih L[j] (hxs L[j] (List.getElem_mem hlt)) k (far - 1) K (by omega) (by omega) (by omega) (by omega)]
          simp only [Option.bind_some]
          exact ihd (j + 1) (cnt L[j] k) K (by omega) (by omega) (by omega) hcb.2 (by omega) (by omega)
    have := l0 L.length 0 (n + 1) K (by omega) (by omega) (by omega) (by omega) (by omega) (by simp; omega)
    simpa using this

theorem parts_f (x : Dat) (K : Nat) (hK : 3 * szD x ≤ K) : spindleref08_Parts.f K x.f0 x.f1 x.f2 x.f3 = some (cnt x 0 : Int) := by
  unfold spindleref08_Parts.f
  rw [show (0 : Int) = ((0 : Nat) : Int) from rfl, count_f (szD x + 1) x (by omega) 0 100000 K (by omega) (by omega) (by omega) hK]
  rfl

mutual
/-- How deep, as far as is looked. -/
def dpt : Dat → Nat → Nat
  | ⟨_, _, _, l⟩, far => (if far = 0 then 0 else dptL l (far - 1)) + 1
def dptL : List Dat → Nat → Nat
  | [], _ => 0
  | x :: r, far => max (dpt x far) (dptL r far)
end

theorem dpt_le (far : Nat) : ∀ x : Dat, dpt x far ≤ far + 1 := by
  induction far with
  | zero => intro x; obtain ⟨a, b, c, l⟩ := x; simp [dpt]
  | succ f ih =>
    intro x
    obtain ⟨a, b, c, l⟩ := x
    rw [dpt, if_neg (by omega)]
    have : ∀ l : List Dat, dptL l f ≤ f + 1 := by
      intro l
      induction l with
      | nil => rw [dptL]; omega
      | cons y r ihr => rw [dptL]; have := ih y; omega
    have := this l
    simp only [Nat.add_sub_cancel]
    omega

theorem prt_item {L : List Dat} {j : Nat} (h : j < L.length) : prt L[j] ≤ prtL L := by
  induction L generalizing j with
  | nil => simp at h
  | cons y r ih =>
    rw [prtL]
    cases j with
    | zero => simp
    | succ j => have := ih (j := j) (by simpa using h); simp; omega
theorem prt_len (L : List Dat) : L.length ≤ prtL L := by
  induction L with
  | nil => simp [prtL]
  | cons y r ih => rw [prtL]; obtain ⟨a, b, c, d⟩ := y; rw [prt]; simp; omega

theorem depth_f (m : Nat) : ∀ x : Dat, szD x < m → ∀ (far : Nat) (K : Nat), far ≤ 1000 → prt x ≤ 100000 → 3 * szD x ≤ K →
    spindleref08_Depth.f K x.f0 x.f1 x.f2 x.f3 (far : Int) = some (dpt x far : Int) := by
  induction m with
  | zero => intro x h; omega
  | succ m ih =>
    intro x hx far K hf hp hK
    have hxs : ∀ y ∈ x.f3, szD y < m := fun y hy => by have := dat_lt hy; omega
    obtain ⟨a, b, c, L⟩ := x
    have hs := sz_dat (a := a) (b := b) (c := c) (l := L)
    rw [prt] at hp
    obtain ⟨K, rfl⟩ : ∃ k, K = k + 1 := ⟨K - 1, by omega⟩
    simp only [spindleref08_Depth.f]
    rw [dpt]
    by_cases h0 : far = 0
    · rw [if_neg (by omega), if_pos h0]; rfl
    rw [if_pos (by omega), if_neg h0]
    have hlen := prt_len L
    have l0 : ∀ (d j q K : Nat), d = L.length - j → j ≤ L.length → q ≤ 2000 → 3 * SizeOf.sizeOf (L.drop j) ≤ K →
        spindleref08_Depth.l0 K (far : Int) (q : Int) (j : Int) a b c L = some ((max q (dptL (L.drop j) (far - 1)) + 1 : Nat) : Int) := by
      intro d
      induction d with
      | zero =>
        intro j q K hd hj hq hK
        obtain rfl : j = L.length := by omega
        obtain ⟨K, rfl⟩ : ∃ k, K = k + 1 := ⟨K - 1, by simp at hK; omega⟩
        simp only [spindleref08_Depth.l0]
        rw [if_neg (by omega), List.drop_length, dptL]
        rw [wrapS (by omega)]
        congr 2
        omega
      | succ d ihd =>
        intro j q K hd hj hq hK
        have hlt : j < L.length := by omega
        rw [List.drop_eq_getElem_cons hlt] at hK ⊢
        rw [sz_cons] at hK
        obtain ⟨K, rfl⟩ : ∃ k, K = k + 1 := ⟨K - 1, by omega⟩
        simp only [spindleref08_Depth.l0]
        have hpi := prt_item hlt
        have hdl := dpt_le (far - 1) L[j]
        rw [if_pos (by omega), if_pos (by omega), rd_at hlt, wrapN (by omega) (by omega), wrapS (by omega), ih L[j] (hxs L[j] (List.getElem_mem hlt)) (far - 1) K (by omega) (by omega) (by omega)]
        simp only [Option.bind_some]
        have hmx : mx (q : Int) (dpt L[j] (far - 1) : Int) = ((max q (dpt L[j] (far - 1)) : Nat) : Int) := by unfold mx; omega
        rw [hmx, ihd (j + 1) _ K (by omega) (by omega) (by omega) (by omega), dptL]
        congr 2
        omega
    have := l0 L.length 0 0 K (by omega) (by omega) (by omega) (by simp; omega)
    rw [show (0 : Int) = ((0 : Nat) : Int) from rfl, this]
    simp

/-- Is a datum small enough to be gone over? -/
def smallD (x : Dat) : Bool := decide ((cnt x 0 : Int) < 5000) && decide ((dpt x 100 : Int) ≤ 90)
theorem cnt_small {x : Dat} (h : cnt x 0 ≤ 4999) : prt x ≤ 4999 := by
  have := cnt_prt (szD x + 1) x (by omega) 0 h
  omega
theorem hundred : ((100 : Nat) : Int) = 100 := by decide
theorem depth_100 (x : Dat) (K : Nat) (hp : prt x ≤ 100000) (hK : 3 * szD x ≤ K) : spindleref08_Depth.f K x.f0 x.f1 x.f2 x.f3 100 = some (dpt x 100 : Int) := by
  rw [← hundred]
  exact depth_f (szD x + 1) x (by omega) 100 K (by omega) hp hK
set_option maxRecDepth 1000000 in
theorem small_f (x : Dat) (K : Nat) (hK : 3 * szD x ≤ K) : spindleref08_Small.f K x.f0 x.f1 x.f2 x.f3 = some (smallD x) := by
  unfold spindleref08_Small.f smallD
  rw [parts_f x K hK]
  simp only [Option.bind_some]
  by_cases h : (cnt x 0 : Int) < 5000
  · have hp : prt x ≤ 4999 := cnt_small (by omega)
    rw [if_pos h, depth_100 x K (by omega) hK, decide_eq_true h]
    simp only [Option.bind_some, Bool.true_and]
  · rw [if_neg h, decide_eq_false h]
    simp only [Bool.false_and]

theorem own_f (m : Nat) : ∀ x : Dat, szD x < m → ∀ (K : Nat), prt x ≤ 100000 → 3 * szD x ≤ K →
    spindleref08_Own.f K x.f0 x.f1 x.f2 x.f3 = some (x.f0, x.f1, x.f2, x.f3) := by
  induction m with
  | zero => intro x h; omega
  | succ m ih =>
    intro x hx K hp hK
    have hxs : ∀ y ∈ x.f3, szD y < m := fun y hy => by have := dat_lt hy; omega
    obtain ⟨a, b, c, L⟩ := x
    have hs := sz_dat (a := a) (b := b) (c := c) (l := L)
    rw [prt] at hp
    obtain ⟨K, rfl⟩ : ∃ k, K = k + 1 := ⟨K - 1, by omega⟩
    simp only [spindleref08_Own.f]
    have hlen := prt_len L
    have l0 : ∀ (d j K : Nat), d = L.length - j → j ≤ L.length → 3 * SizeOf.sizeOf (L.drop j) ≤ K →
        spindleref08_Own.l0 K (L.take j) (j : Int) a b c L = some (a, b, c, L) := by
      intro d
      induction d with
      | zero =>
        intro j K hd hj hK
        obtain rfl : j = L.length := by omega
        obtain ⟨K, rfl⟩ : ∃ k, K = k + 1 := ⟨K - 1, by simp at hK; omega⟩
        simp only [spindleref08_Own.l0]
        rw [if_neg (by omega), List.take_length]
      | succ d ihd =>
        intro j K hd hj hK
        have hlt : j < L.length := by omega
        rw [List.drop_eq_getElem_cons hlt, sz_cons] at hK
        obtain ⟨K, rfl⟩ : ∃ k, K = k + 1 := ⟨K - 1, by omega⟩
        simp only [spindleref08_Own.l0]
        have hpi := prt_item hlt
        have htl : (L.take j).length ≤ j := List.length_take_le _ _
        rw [if_pos (by omega), if_pos (by omega), rd_at hlt, wrapS (by omega), ih L[j] (hxs L[j] (List.getElem_mem hlt)) K (by omega) (by omega)]
        simp only [Option.bind_some]
        rw [if_pos (by omega)]
        have := ihd (j + 1) K (by omega) (by omega) (by omega)
        rw [List.take_succ_eq_append_getElem hlt] at this
        rw [dat_eta]
        exact this
    have := l0 L.length 0 K (by omega) (by omega) (by simp; omega)
    simpa using this

theorem fits_depth (far : Nat) : ∀ (x : Dat) (wi : Nat), wi + far = 64 → fitsD x wi = true → ∀ f, f ≤ 70 → dpt x f ≤ far := by
  induction far with
  | zero =>
    intro x wi hw hf
    obtain ⟨k, n, t, l⟩ := x
    rw [fitsD, decide_eq_true (by omega)] at hf
    simp at hf
  | succ far ih =>
    intro x wi hw hf f hf70
    obtain ⟨k, n, t, l⟩ := x
    rw [dpt]
    by_cases h0 : f = 0
    · rw [if_pos h0]; omega
    rw [if_neg h0]
    have hl : l = [] ∨ fitsL l (wi + 1) = true := by
      rw [fitsD] at hf
      simp only [Bool.and_eq_true] at hf
      obtain ⟨_, hf⟩ := hf
      by_cases k1 : k = 1
      · rw [if_pos k1] at hf; simp only [Bool.and_eq_true, decide_eq_true_eq] at hf; exact .inl hf.1.1.1
      rw [if_neg k1] at hf
      by_cases k2 : k = 2
      · rw [if_pos k2] at hf; simp only [Bool.and_eq_true, decide_eq_true_eq] at hf; exact .inl hf.1.1
      rw [if_neg k2] at hf
      by_cases k3 : k = 3
      · rw [if_pos k3] at hf; simp only [Bool.and_eq_true, decide_eq_true_eq] at hf; exact .inl hf.1.1
      rw [if_neg k3] at hf
      by_cases k4 : k = 4
      · rw [if_pos k4] at hf; simp only [Bool.and_eq_true, decide_eq_true_eq] at hf; exact .inl hf.1.1
      rw [if_neg k4] at hf
      by_cases k5 : k = 5
      · rw [if_pos k5] at hf; simp only [Bool.and_eq_true, decide_eq_true_eq] at hf; exact .inl hf.1.1
      rw [if_neg k5] at hf
      by_cases k7 : k = 7
      · rw [if_pos k7] at hf; simp only [Bool.and_eq_true] at hf; exact .inr hf.1.1.2
      rw [if_neg k7] at hf
      by_cases k68 : k = 6 ∨ k = 8
      · rw [if_pos k68] at hf; simp only [Bool.and_eq_true] at hf; exact .inr hf.1.1
      · rw [if_neg k68] at hf; cases hf
    have : ∀ l : List Dat, (∀ x ∈ l, dpt x (f - 1) ≤ far) → dptL l (f - 1) ≤ far := by
      intro l
      induction l with
      | nil => intro _; rw [dptL]; omega
      | cons y r ihr => intro h; rw [dptL]; have h1 := h y (by simp); have h2 := ihr (fun z hz => h z (by simp [hz])); omega
    rcases hl with rfl | hl
    · rw [dptL]; omega
    · have := this l (fun x hx => ih x (wi + 1) (by omega) (fitsL_mem hl x hx) (f - 1) (by omega))
      omega

theorem len0 (L : List Dat) : ((L.length : Int) = 0) ↔ L = [] := by
  rw [← List.length_eq_zero_iff]; omega

theorem right_f (m : Nat) : ∀ x : Dat, szD x < m → ∀ (far : Nat) (K : Nat), 1 ≤ far → far ≤ 64 → prt x ≤ 100000 → 5 * szD x ≤ K →
    spindleref08_right.f K x.f0 x.f1 x.f2 x.f3 (far : Int) = some (fitsD x (64 - far)) := by
  induction m with
  | zero => intro x h; omega
  | succ m ih =>
    intro x hx far K h1 h64 hp hK
    have hxs : ∀ y ∈ x.f3, szD y < m := fun y hy => by have := dat_lt hy; omega
    obtain ⟨k, n, t, L⟩ := x
    have hs := sz_dat (a := k) (b := n) (c := t) (l := L)
    have hL1 : 1 ≤ SizeOf.sizeOf L := by cases L <;> simp <;> omega
    rw [prt] at hp
    have hlen := prt_len L
    obtain ⟨K, rfl⟩ : ∃ q, K = q + 1 := ⟨K - 1, by omega⟩
    simp only [spindleref08_right.f]
    rw [fitsD, decide_eq_false (show ¬ 64 ≤ 64 - far by omega), Bool.not_false, Bool.true_and]
    have l0 : ∀ (d j K : Nat), d = L.length - j → j ≤ L.length → 2 ≤ far ∨ L = [] → 5 * SizeOf.sizeOf (L.drop j) ≤ K →
        spindleref08_right.l0 K (far : Int) (j : Int) k n t L = some (fitsL (L.drop j) (64 - far + 1) && (if k = 7 then (decide (2 ≤ L.length) && !(lastK L == 6) && !(lastK L == 7)) else true)) := by
      intro d
      induction d with
      | zero =>
        intro j K hd hj h2 hK
        obtain rfl : j = L.length := by omega
        obtain ⟨K, rfl⟩ : ∃ q, K = q + 1 := ⟨K - 1, by simp at hK; omega⟩
        simp only [spindleref08_right.l0]
        rw [if_neg (by omega), List.drop_length, fitsL, Bool.true_and]
        by_cases k7 : k = 7
        · rw [if_pos k7, if_pos k7]
          by_cases hl2 : 2 ≤ L.length
          · have hla : rd_T26 L ((L.length - 1 : Nat) : Int) = L[L.length - 1]'(by omega) := rd_at (by omega)
            have hlk : lastK L = (L[L.length - 1]'(by omega)).f0 := by
              unfold lastK
              rw [List.getLast?_eq_getElem?, List.getElem?_eq_getElem (by omega)]
            rw [if_pos (by omega), wrapN (by omega) (by omega), if_pos (by omega), if_pos (by omega), hla, ← hlk, decide_eq_true hl2, Bool.true_and]
            generalize lastK L = q
            by_cases h6 : q = 6
            · rw [if_pos h6, h6]; rfl
            · rw [if_neg h6]
              have b6 : (q == 6) = false := by simpa using h6
              rw [b6]
              simp [bne]
          · rw [if_neg (by omega), decide_eq_false hl2]
            simp
        · rw [if_neg k7, if_neg k7]
      | succ d ihd =>
        intro j K hd hj h2 hK
        have hlt : j < L.length := by omega
        have h2' : 2 ≤ far := by
          rcases h2 with h2 | h2
          · exact h2
          · rw [h2] at hlt; simp at hlt
        rw [List.drop_eq_getElem_cons hlt] at hK ⊢
        rw [sz_cons] at hK
        obtain ⟨K, rfl⟩ : ∃ q, K = q + 1 := ⟨K - 1, by omega⟩
        simp only [spindleref08_right.l0]
        have hpi := prt_item hlt
        rw [if_pos (by omega), if_pos (by omega), rd_at hlt, wrapN (by omega) (by omega), wrapS (by omega), ih L[j] (hxs L[j] (List.getElem_mem hlt)) (far - 1) K (by omega) (by omega) (by omega) (by omega)]
        simp only [Option.bind_some]
        rw [fitsL, show 64 - (far - 1) = 64 - far + 1 by omega]
        generalize fitsD L[j] (64 - far + 1) = y
        cases y
        · rw [if_neg (by decide)]; simp
        · rw [if_pos rfl, ihd (j + 1) K (by omega) (by omega) (.inl h2') (by omega)]
          simp
    have jj : ∀ x5 : Bool, x5 = decide (L = []) → ∀ K, 5 * SizeOf.sizeOf L + 2 ≤ K → spindleref08_right.j0 K (far : Int) x5 true k n t L =
        some (fitsL L (64 - far + 1) && (n == 0) && decide (t.toList = []) && (if k = 7 then (decide (2 ≤ L.length) && !(lastK L == 6) && !(lastK L == 7)) else true)) := by
      intro x5 hx5 K hK
      obtain ⟨K, rfl⟩ : ∃ q, K = q + 1 + 1 := ⟨K - 2, by omega⟩
      simp only [spindleref08_right.j0]
      rw [if_pos True.intro]
      have hl0 := l0 L.length 0 K (by omega) (by omega)
      by_cases hn : n = 0
      · rw [if_pos hn]
        have bn : (n == 0) = true := by simpa using hn
        rw [bn]
        by_cases ht : t.toList = []
        · rw [if_pos ht, decide_eq_true ht]
          by_cases hf1 : (far : Int) ≤ 1
          · rw [if_pos hf1]
            simp only [spindleref08_right.j1]
            by_cases hL : L = []
            · rw [hx5, decide_eq_true hL, if_neg (by decide)]
              have := hl0 (.inr hL) (by simp; omega)
              rw [show (0 : Int) = ((0 : Nat) : Int) from rfl, this]
              simp
            · rw [hx5, decide_eq_false hL, if_pos (by decide)]
              obtain ⟨y, r, rfl⟩ : ∃ y r, L = y :: r := by
                cases L with
                | nil => exact absurd rfl hL
                | cons y r => exact ⟨y, r, rfl⟩
              rw [fitsL]
              have hz : fitsD y (64 - far + 1) = false := by
                obtain ⟨a, b, c, d⟩ := y
                rw [fitsD, decide_eq_true (show 64 ≤ 64 - far + 1 by omega)]
                rfl
              rw [hz]
              simp
          · rw [if_neg hf1]
            simp only [spindleref08_right.j1]
            rw [if_neg (by decide)]
            have := hl0 (.inl (by omega)) (by simp; omega)
            rw [show (0 : Int) = ((0 : Nat) : Int) from rfl, this]
            simp
        · rw [if_neg ht, decide_eq_false ht]
          simp only [spindleref08_right.j1]
          rw [if_pos True.intro]
          simp
      · rw [if_neg hn]
        have bn : (n == 0) = false := by simpa using hn
        rw [bn]
        simp only [spindleref08_right.j1]
        rw [if_pos True.intro]
        simp
    have hb5 : ((L.length : Int) == 0) = decide (L = []) := by
      rw [Bool.eq_iff_iff, beq_iff_eq, decide_eq_true_iff]
      exact len0 L
    have leaf : ∀ (r : Option Bool) (b : Bool), (L = [] → r = some b) → (if (L.length : Int) = 0 then r else some false) = some (decide (L = []) && b) := by
      intro r b h
      by_cases hL : L = []
      · rw [if_pos ((len0 L).2 hL), h hL, decide_eq_true hL]; rfl
      · rw [if_neg (fun e => hL ((len0 L).1 e)), decide_eq_false hL]; rfl
    have tl : ∀ (r : Option Bool) (b : Bool), (r = some b) → (if t.toList = [] then r else some false) = some (decide (t.toList = []) && b) := by
      intro r b h
      by_cases ht : t.toList = []
      · rw [if_pos ht, h, decide_eq_true ht]; rfl
      · rw [if_neg ht, decide_eq_false ht]; rfl
    by_cases k1 : k = 1
    · rw [if_pos k1, if_pos k1, leaf _ _ (fun _ => tl _ (decide (n ≤ 1152921504606846975) && decide (-1152921504606846976 ≤ n)) ?_)]
      · simp [Bool.and_assoc]
      · by_cases h : n ≥ -1152921504606846976
        · rw [if_pos h]
          congr 1
          rw [Bool.eq_iff_iff]
          simp
          omega
        · rw [if_neg h]
          congr 1
          symm
          simp
          omega
    rw [if_neg k1, if_neg k1]
    by_cases k2 : k = 2
    · rw [if_pos k2, if_pos k2, leaf _ _ (fun _ => tl _ (n == 0 || n == 1) ?_)]
      · simp [Bool.and_assoc]
      · by_cases h : n = 0
        · rw [if_pos h, h]; rfl
        · have : (n == 0) = false := by simpa using h
          rw [if_neg h, this]; rfl
    rw [if_neg k2, if_neg k2]
    by_cases k3 : k = 3
    · rw [if_pos k3, if_pos k3, leaf _ _ (fun _ => tl _ (decide (0 ≤ n) && decide (n ≤ 255)) ?_)]
      · simp [Bool.and_assoc]
      · by_cases h : n ≥ 0
        · rw [if_pos h, decide_eq_true (show 0 ≤ n from h)]; rfl
        · rw [if_neg h, decide_eq_false (show ¬ 0 ≤ n from h)]; rfl
    rw [if_neg k3, if_neg k3]
    by_cases k4 : k = 4
    · rw [if_pos k4, if_pos k4, leaf _ ((n == 0) && decide (t.size ≤ 500)) (fun _ => ?_)]
      · simp [Bool.and_assoc]
      · by_cases h : n = 0
        · have : (n == 0) = true := by simpa using h
          rw [if_pos h, this, Bool.true_and]
          congr 1
          exact decide_eq_decide.2 (by omega)
        · have : (n == 0) = false := by simpa using h
          rw [if_neg h, this]; rfl
    rw [if_neg k4, if_neg k4]
    by_cases k5 : k = 5
    · rw [if_pos k5, if_pos k5, leaf _ ((n == 0) && symL t.data.toList) (fun _ => ?_)]
      · simp [Bool.and_assoc]
      · by_cases h : n = 0
        · have : (n == 0) = true := by simpa using h
          rw [if_pos h, this, Bool.true_and]
          rfl
        · have : (n == 0) = false := by simpa using h
          rw [if_neg h, this]; rfl
    rw [if_neg k5, if_neg k5]
    have hKj : 5 * SizeOf.sizeOf L + 2 ≤ K := by omega
    by_cases k6 : k = 6
    · rw [if_pos k6, show (k == 6) = true by simpa using k6, jj _ hb5 K hKj, if_neg (by omega), if_neg (by omega), if_pos (.inl k6)]
      simp
    rw [if_neg k6]
    by_cases k7 : k = 7
    · rw [if_pos k7, show (k == 7) = true by simpa using k7, jj _ hb5 K hKj, if_pos k7, if_pos k7]
      generalize fitsL L (64 - far + 1) = a
      generalize (n == 0) = b
      generalize decide (t.toList = []) = c
      generalize decide (2 ≤ L.length) = d
      generalize (!(lastK L == 6)) = e
      generalize (!(lastK L == 7)) = f
      cases a <;> cases b <;> cases c <;> cases d <;> cases e <;> cases f <;> rfl
    rw [if_neg k7, if_neg k7]
    by_cases k8 : k = 8
    · rw [show (k == 8) = true by simpa using k8, jj _ hb5 K hKj, if_neg k7, if_pos (.inr k8)]
      simp
    · rw [show (k == 8) = false by simpa using k8, if_neg (by rintro (h | h); exact k6 h; exact k8 h)]
      obtain ⟨K, rfl⟩ : ∃ q, K = q + 1 := ⟨K - 1, by omega⟩
      simp only [spindleref08_right.j0]
      rw [if_neg (by decide)]

theorem seventy : ((70 : Nat) : Int) = 70 := by decide
theorem sixtyfour : ((64 : Nat) : Int) = 64 := by decide
theorem depth_70 (x : Dat) (K : Nat) (hp : prt x ≤ 100000) (hK : 3 * szD x ≤ K) : spindleref08_Depth.f K x.f0 x.f1 x.f2 x.f3 70 = some (dpt x 70 : Int) := by
  rw [← seventy]
  exact depth_f (szD x + 1) x (by omega) 70 K (by omega) hp hK
theorem right_64 (x : Dat) (K : Nat) (hp : prt x ≤ 100000) (hK : 5 * szD x ≤ K) : spindleref08_right.f K x.f0 x.f1 x.f2 x.f3 64 = some (fitsD x 0) := by
  rw [← sixtyfour]
  exact right_f (szD x + 1) x (by omega) 64 K (by omega) (by omega) hp hK

set_option maxRecDepth 1000000 in
theorem Right_f (x : Dat) (K : Nat) (hp : prt x ≤ 100000) (hK : 5 * szD x ≤ K) : spindleref08_Right.f K x.f0 x.f1 x.f2 x.f3 = some (rightD x) := by
  unfold spindleref08_Right.f rightD
  rw [depth_70 x K hp (by omega)]
  simp only [Option.bind_some]
  by_cases hf : fitsD x 0 = true
  · have hd := fits_depth 64 x 0 rfl hf 70 (by omega)
    rw [if_pos (by omega), parts_f x K (by omega)]
    simp only [Option.bind_some]
    by_cases hc : cnt x 0 ≤ 4000
    · rw [if_pos (by omega), right_64 x K hp hK, decide_eq_true hc, hf]; rfl
    · rw [if_neg (by omega), decide_eq_false hc]; rfl
  · have hf' : fitsD x 0 = false := by simpa using hf
    rw [hf', Bool.and_false]
    by_cases hd : (dpt x 70 : Int) ≤ 64
    · rw [if_pos hd, parts_f x K (by omega)]
      simp only [Option.bind_some]
      by_cases hc : (cnt x 0 : Int) ≤ 4000
      · rw [if_pos hc, right_64 x K hp hK, hf']; rfl
      · rw [if_neg hc]
    · rw [if_neg hd]

/-- Own's result, made by the call. -/
def OwnRTo (x : Dat) (w : World) (e : Ending) (w' : World) : Prop :=
  ∃ v, e = .returned (.agg #[.int .i64 x.f0, .int .i64 x.f1, .string x.f2, v]) ∧ Kd.R kD 26 w' w.heap.size (fun k => w.heap.size ≤ k) v x.f3 ∧ Below w.heap.size w w'
theorem own_made (x : Dat) (A : Option Addr) (c : Nat) (w : World) (hl : x.f3.length ≤ c) (hC : Kd.C kD w A x.f3.length x.f3) (hp : prt x ≤ 4999) :
    Calls Tryz.prog 8 #[.agg #[.int .i64 x.f0, .int .i64 x.f1, .string x.f2, .slice A x.f3.length c]] w (OwnRTo x w) := by
  refine (spindleref08_Own.calls (3 * szD x) x.f0 x.f1 x.f2 A c x.f3 _ _ _ _ w hC hl (own_f (szD x + 1) x (by omega) _ (by omega) (Nat.le_refl _))).mono ?_
  rintro e w' ⟨v, rfl, hR, hb⟩
  exact ⟨v, rfl, Kd.R_mono (Kd.R_bound hR) (fun k hk => hk.2.1), hb⟩

theorem info_dat : (Tryz.prog.info? 26).map (fun i => (i.zero, i.size, i.bytes)) = some (some (.agg #[.int .i64 0, .int .i64 0, .string ⟨#[]⟩, .slice none 0 0]), kD.sz, 56) := by kernel_rfl

end Go.Proofs.YtneokkhnjnomdaaGreatDoor
