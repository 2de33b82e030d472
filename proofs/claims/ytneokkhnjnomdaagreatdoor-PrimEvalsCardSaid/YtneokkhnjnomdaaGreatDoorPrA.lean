/-
  The procedures' names.
-/
import Derived.Test.YtneokkhnjnomdaaGreatDoorGB2
import Derived.Test.YtneokkhnjnomdaaGreatDoorWWords
import Derived.Handy
namespace Go.Proofs.YtneokkhnjnomdaaGreatDoor
open Go.RowKit Go.Proofs.YtneokkhnjnomdaaGreatDoorW.PrintWords

def nameL : List (List UInt8) := [[43], [45], [42], [113, 117, 111, 116, 105, 101, 110, 116], [114, 101, 109, 97, 105, 110, 100, 101, 114], [109, 111, 100, 117, 108, 111], [61], [60], [99, 111, 110, 115], [99, 97, 114], [99, 100, 114], [115, 101, 116, 45, 99, 97, 114, 33], [115, 101, 116, 45, 99, 100, 114, 33], [110, 117, 108, 108, 63], [112, 97, 105, 114, 63], [115, 121, 109, 98, 111, 108, 63], [115, 116, 114, 105, 110, 103, 63], [99, 104, 97, 114, 63], [118, 101, 99, 116, 111, 114, 63], [112, 114, 111, 99, 101, 100, 117, 114, 101, 63], [98, 111, 111, 108, 101, 97, 110, 63], [105, 110, 116, 101, 103, 101, 114, 63], [101, 113, 63], [101, 113, 118, 63], [109, 97, 107, 101, 45, 118, 101, 99, 116, 111, 114], [118, 101, 99, 116, 111, 114, 45, 108, 101, 110, 103, 116, 104], [118, 101, 99, 116, 111, 114, 45, 114, 101, 102], [118, 101, 99, 116, 111, 114, 45, 115, 101, 116, 33], [115, 116, 114, 105, 110, 103, 45, 108, 101, 110, 103, 116, 104], [115, 116, 114, 105, 110, 103, 45, 114, 101, 102], [115, 116, 114, 105, 110, 103, 45, 97, 112, 112, 101, 110, 100], [115, 116, 114, 105, 110, 103, 61, 63], [115, 117, 98, 115, 116, 114, 105, 110, 103], [110, 117, 109, 98, 101, 114, 45, 62, 115, 116, 114, 105, 110, 103], [115, 116, 114, 105, 110, 103, 45, 62, 110, 117, 109, 98, 101, 114], [115, 121, 109, 98, 111, 108, 45, 62, 115, 116, 114, 105, 110, 103], [115, 116, 114, 105, 110, 103, 45, 62, 115, 121, 109, 98, 111, 108], [99, 104, 97, 114, 45, 62, 105, 110, 116, 101, 103, 101, 114], [105, 110, 116, 101, 103, 101, 114, 45, 62, 99, 104, 97, 114], [100, 105, 115, 112, 108, 97, 121], [119, 114, 105, 116, 101], [110, 101, 119, 108, 105, 110, 101], [101, 114, 114, 111, 114], [114, 97, 105, 115, 101], [119, 105, 116, 104, 45, 101, 120, 99, 101, 112, 116, 105, 111, 110, 45, 104, 97, 110, 100, 108, 101, 114], [99, 97, 108, 108, 47, 99, 99], [100, 121, 110, 97, 109, 105, 99, 45, 119, 105, 110, 100], [118, 97, 108, 117, 101, 115], [99, 97, 108, 108, 45, 119, 105, 116, 104, 45, 118, 97, 108, 117, 101, 115], [97, 112, 112, 108, 121], [111, 110, 45, 116, 105, 99, 107], [111, 110, 45, 107, 101, 121], [101, 114, 114, 111, 114, 45, 107, 105, 110, 100], [101, 114, 114, 111, 114, 45, 118, 97, 108, 117, 101]]
def nameN (n : Int) : List UInt8 := if 1 ≤ n ∧ n ≤ 54 then nameL.getD (n.toNat - 1) [] else []
def nameS (l : List UInt8) : ByteArray := ⟨l.toArray⟩

/-- The table that strings.Fields reads is as it was laid. -/
def SpT (w : World) : Prop := Lib.TabIs Tryz.prog w "strings.asciiSpace" .u8 Lib.asciiSpaceTab
theorem spt_below {w w' : World} (h : SpT w) (hb : Below w.heap.size w w') : SpT w' := by
  unfold SpT Lib.TabIs World.var? at *
  cases hg : Tryz.prog.globalNamed "strings.asciiSpace" with
  | none => simp [hg] at h
  | some g =>
    simp only [hg, Option.bind_some] at h ⊢
    have hlt : g < w.heap.size := by
      rcases Nat.lt_or_ge g w.heap.size with h' | h'
      · exact h'
      · simp [Array.getElem?_eq_none h'] at h
    rw [hb.block g hlt]
    exact h

theorem ascii_of {l : List UInt8} (h : l.all (fun b => decide (b.toNat < 128)) = true) (j : Nat) (b : UInt8) (hb : l[j]? = some b) : b.toNat < 128 := by
  have := List.all_eq_true.1 h b (List.mem_of_getElem? hb)
  simpa using this

abbrev namesCells : Obj := .cells (nameL.map fun l => Value.string ⟨l.toArray⟩).toArray 9

theorem fields_to (s : ByteArray) (w : World) (hs : s.size < 4294967281) (ha : ∀ (j : Nat) b, s.data.toList[j]? = some b → b.toNat < 128) (hF : Lib.fields s.data.toList = nameL) (h : SpT w) :
    Calls Tryz.prog 77 #[.string s] w fun e w' => e = .returned (.slice (some ⟨w.heap.size, 0, none⟩) 54 54) ∧ w' = w.alloc namesCells := by
  refine (Tryz.strings_Fields_laid s w hs ha h).mono ?_
  rintro e w' ⟨rfl, rfl⟩
  rw [hF]
  exact ⟨rfl, rfl⟩

set_option maxRecDepth 100000 in
set_option maxHeartbeats 4000000 in
theorem all_names (w : World) (h : SpT w) : Calls Tryz.prog 50 #[] w fun e w' => e = .returned (.slice (some ⟨w.heap.size, 0, none⟩) 54 54) ∧ w' = w.alloc namesCells := by
  go_enter Tryz.func50, Tryz.ntmps50
  go_wp2_with fail
  refine (fields_to _ _ ?_ ?_ ?_ h).mono ?_
  · decide +kernel
  · exact ascii_of (by kernel_rfl)
  · kernel_rfl
  · rintro e w' ⟨rfl, rfl⟩
    generalize hW : w.alloc namesCells = w2
    have HW := Lib.hid hW
    clear hW
    go_wp2_with fail
    go_ret
    exact ⟨rfl, HW.out.symm⟩

set_option maxRecDepth 100000 in
theorem names_cell (w : World) (j : Nat) (hj : j < 54) : (w.alloc namesCells).cell? ⟨w.heap.size, j, none⟩ = some (.string (nameS (nameL.getD j []))) := by
  rw [blk_cell (blk_new w (.cells (nameL.map fun l => Value.string ⟨l.toArray⟩).toArray 9 (0, 0))) j]
  have hl : nameL.length = 54 := rfl
  simp [List.getD, List.getElem?_eq_getElem (show j < nameL.length by omega), nameS]
theorem idxFrom_bound (s : ByteArray) : ∀ (zs : List ByteArray) (i : Nat), -1 ≤ Lib.idxFromS zs s i ∧ Lib.idxFromS zs s i < (i + zs.length : Nat) + 1 := by
  intro zs
  induction zs with
  | nil => intro i; simp [Lib.idxFromS]; omega
  | cons z r ih =>
    intro i
    rw [Lib.idxFromS]
    split
    · simp; omega
    · have := ih (i + 1)
      simp only [List.length_cons]
      omega
theorem idx_bound (s : ByteArray) : -1 ≤ Lib.idxOfS (nameL.map nameS) s ∧ Lib.idxOfS (nameL.map nameS) s < 55 := by
  have := idxFrom_bound s (nameL.map nameS) 0
  have hl : (nameL.map nameS).length = 54 := rfl
  rw [hl] at this
  exact ⟨this.1, by have := this.2; unfold Lib.idxOfS; omega⟩
theorem name_lt (n : Int) (h : ¬ (1 ≤ n ∧ n ≤ 54)) : nameN n = [] := by rw [nameN, if_neg h]
theorem name_at (n : Int) (h1 : 1 ≤ n) (h2 : n ≤ 54) : nameN n = nameL.getD (n.toNat - 1) [] := by rw [nameN, if_pos ⟨h1, h2⟩]

set_option maxRecDepth 100000 in
set_option maxHeartbeats 4000000 in
theorem name_of (n : Int) (w : World) (h : SpT w) : Calls Tryz.prog 22 #[.int .i64 n] w fun e w' => e = .returned (.string (nameS (nameN n))) ∧ Below w.heap.size w w' := by
  by_cases h1 : 1 ≤ n
  · have b1 : decide (1 ≤ n) = true := decide_eq_true h1
    by_cases h2 : n ≤ 54
    · have b2 : decide (n ≤ 54) = true := decide_eq_true h2
      have HB := Lib.hid (below_alloc (Below.refl w.heap.size w) namesCells)
      have hc := names_cell w (n.toNat - 1) (by omega)
      rw [← name_at n h1 h2] at hc
      go_enter Tryz.func22, Tryz.ntmps22
      go_wp2_with fail
      refine (all_names _ h).mono ?_
      rintro e w' ⟨rfl, rfl⟩
      generalize w.alloc namesCells = w2 at HB hc ⊢
      generalize w.heap.size = g at hc ⊢
      go_wp2_with fail
      go_ret
      exact ⟨rfl, HB.out⟩
    · have b2 : decide (n ≤ 54) = false := decide_eq_false h2
      have HB := Lib.hid (below_alloc (Below.refl w.heap.size w) namesCells)
      rw [name_lt n (fun h => h2 h.2)]
      go_enter Tryz.func22, Tryz.ntmps22
      go_wp2_with fail
      refine (all_names _ h).mono ?_
      rintro e w' ⟨rfl, rfl⟩
      generalize w.alloc namesCells = w2 at HB ⊢
      go_wp2_with fail
      go_ret
      exact ⟨rfl, HB.out⟩
  · have b1 : decide (1 ≤ n) = false := decide_eq_false h1
    have HB := Lib.hid (below_alloc (Below.refl w.heap.size w) namesCells)
    rw [name_lt n (fun h => h1 h.1)]
    go_enter Tryz.func22, Tryz.ntmps22
    go_wp2_with fail
    refine (all_names _ h).mono ?_
    rintro e w' ⟨rfl, rfl⟩
    generalize w.alloc namesCells = w2 at HB ⊢
    go_wp2_with fail
    go_ret
    exact ⟨rfl, HB.out⟩

def findN (s : ByteArray) : Int := Lib.idxOfS (nameL.map nameS) s + 1

set_option maxRecDepth 100000 in
set_option maxHeartbeats 4000000 in
theorem find_of (s : ByteArray) (w : World) (h : SpT w) : Calls Tryz.prog 21 #[.string s] w fun e w' => e = .returned (.int .i64 (findN s)) ∧ Below w.heap.size w w' := by
  have HB := Lib.hid (below_alloc (Below.refl w.heap.size w) namesCells)
  have HC := Lib.hid (names_cell w)
  have hl : (nameL.map nameS).length = 54 := rfl
  go_enter Tryz.func21, Tryz.ntmps21
  go_wp2_with fail
  refine (all_names _ h).mono ?_
  rintro e w' ⟨rfl, rfl⟩
  generalize w.alloc namesCells = w2 at HB HC ⊢
  generalize w.heap.size = g at HC ⊢
  have hi := idx_bound s
  go_wp2_with fail
  refine (Tryz.slices_Index_string g 0 54 54 (nameL.map nameS) s _ (by rw [hl]; exact Nat.le_refl _) (by decide) ?_).mono ?_
  · intro j hj
    rw [hl] at hj
    rw [Nat.zero_add, HC.out j hj]
    have hl2 : nameL.length = 54 := rfl
    simp [List.getD, List.getElem?_eq_getElem (show j < nameL.length by omega), nameS]
  · rintro e w' ⟨rfl, rfl⟩
    rw [List.take_of_length_le (by rw [hl]; exact Nat.le_refl _)]
    obtain ⟨k, hk⟩ : ∃ k, Lib.idxOfS (nameL.map nameS) s = k := ⟨_, rfl⟩
    rw [hk] at hi ⊢
    have HK := Lib.hid hk
    clear hk
    go_wp2_with fail
    go_ret
    exact ⟨by rw [findN, HK.out]; rfl, HB.out⟩

def pureB (n : Int) : Bool := decide (1 ≤ n ∧ n ≤ 8 ∨ 29 ≤ n ∧ n ≤ 39)

set_option maxRecDepth 100000 in
set_option maxHeartbeats 4000000 in
theorem pure_of (n : Int) (w : World) : Calls Tryz.prog 19 #[.int .i64 n] w fun e w' => e = .returned (.bool (pureB n)) ∧ w' = w := by
  have hc : n < 1 ∨ (1 ≤ n ∧ n ≤ 8) ∨ (9 ≤ n ∧ n ≤ 28) ∨ (29 ≤ n ∧ n ≤ 39) ∨ 40 ≤ n := by omega
  rcases hc with hc | hc | hc | hc | hc
  · have hv : pureB n = false := by rw [pureB]; exact decide_eq_false (by omega)
    have b0 : decide (1 ≤ n) = false := decide_eq_false (by omega)
    have b1 : decide (29 ≤ n) = false := decide_eq_false (by omega)
    have c0 : ¬ 1 ≤ n := by omega
    have c1 : ¬ 29 ≤ n := by omega
    rw [hv]
    clear hv
    go_enter Tryz.func19, Tryz.ntmps19
    go_wp2_with fail
    go_ret
    exact ⟨rfl, rfl⟩
  · have hv : pureB n = true := by rw [pureB]; exact decide_eq_true (by omega)
    have b0 : decide (1 ≤ n) = true := decide_eq_true (by omega)
    have b1 : decide (n ≤ 8) = true := decide_eq_true (by omega)
    have c0 : 1 ≤ n := by omega
    have c1 : n ≤ 8 := by omega
    rw [hv]
    clear hv
    go_enter Tryz.func19, Tryz.ntmps19
    go_wp2_with fail
    go_ret
    exact ⟨rfl, rfl⟩
  · have hv : pureB n = false := by rw [pureB]; exact decide_eq_false (by omega)
    have b0 : decide (1 ≤ n) = true := decide_eq_true (by omega)
    have b1 : decide (n ≤ 8) = false := decide_eq_false (by omega)
    have b2 : decide (29 ≤ n) = false := decide_eq_false (by omega)
    have c0 : 1 ≤ n := by omega
    have c1 : ¬ n ≤ 8 := by omega
    have c2 : ¬ 29 ≤ n := by omega
    rw [hv]
    clear hv
    go_enter Tryz.func19, Tryz.ntmps19
    go_wp2_with fail
    go_ret
    exact ⟨rfl, rfl⟩
  · have hv : pureB n = true := by rw [pureB]; exact decide_eq_true (by omega)
    have b0 : decide (1 ≤ n) = true := decide_eq_true (by omega)
    have b1 : decide (n ≤ 8) = false := decide_eq_false (by omega)
    have b2 : decide (29 ≤ n) = true := decide_eq_true (by omega)
    have b3 : decide (n ≤ 39) = true := decide_eq_true (by omega)
    have c0 : 1 ≤ n := by omega
    have c1 : ¬ n ≤ 8 := by omega
    have c2 : 29 ≤ n := by omega
    have c3 : n ≤ 39 := by omega
    rw [hv]
    clear hv
    go_enter Tryz.func19, Tryz.ntmps19
    go_wp2_with fail
    go_ret
    exact ⟨rfl, rfl⟩
  · have hv : pureB n = false := by rw [pureB]; exact decide_eq_false (by omega)
    have b0 : decide (1 ≤ n) = true := decide_eq_true (by omega)
    have b1 : decide (n ≤ 8) = false := decide_eq_false (by omega)
    have b2 : decide (29 ≤ n) = true := decide_eq_true (by omega)
    have b3 : decide (n ≤ 39) = false := decide_eq_false (by omega)
    have c0 : 1 ≤ n := by omega
    have c1 : ¬ n ≤ 8 := by omega
    have c2 : 29 ≤ n := by omega
    have c3 : ¬ n ≤ 39 := by omega
    rw [hv]
    clear hv
    go_enter Tryz.func19, Tryz.ntmps19
    go_wp2_with fail
    go_ret
    exact ⟨rfl, rfl⟩
end Go.Proofs.YtneokkhnjnomdaaGreatDoor
