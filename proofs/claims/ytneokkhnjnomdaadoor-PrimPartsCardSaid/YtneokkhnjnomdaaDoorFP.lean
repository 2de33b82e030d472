/-
  What a text is as a number: in plain words; and by fix's loop.
-/
import Derived.Test.YtneokkhnjnomdaaDoorFF
import Derived.Lib.Strings
import Derived.Lib.ConvBytes
import Derived.Deep.DeepCutAuto
import Derived.Deep.CutBlock
namespace Go.Proofs.YtneokkhnjnomdaaDoor
open Go.RowKit

def digB (c : UInt8) : Bool := decide (48 ≤ c.toNat) && decide (c.toNat ≤ 57)
def digV (c : UInt8) : Int := (c.toNat : Int) - 48
/-- The number that digits say. -/
def valL (l : List UInt8) : Int := l.foldl (fun n c => 10 * n + digV c) 0

theorem valL_snoc (l : List UInt8) (c : UInt8) : valL (l ++ [c]) = 10 * valL l + digV c := by simp [valL]

theorem digB_iff {c : UInt8} : digB c = true ↔ 48 ≤ c.toNat ∧ c.toNat ≤ 57 := by simp [digB]

/-- The digits of a text behind its sign. -/
def bodyL (s : List UInt8) : List UInt8 := match s with | [] => [] | c :: r => if (c == 45 || c == 43) = true then r else c :: r
def negL (s : List UInt8) : Bool := match s with | [] => false | c :: _ => c == 45
def okL (l : List UInt8) : Bool := decide (1 ≤ l.length) && decide (l.length ≤ 30) && l.all digB

/-- What a text is as a number, or what it is refused with. -/
def parseL (s : List UInt8) : Int × Int :=
  if okL (bodyL s) = true then fitL (if negL s = true then -valL (bodyL s) else valL (bodyL s)) else (0, 6)

/-- fix's loop: too far, and the number so far. -/
def stF (l : List UInt8) : Bool × Int := l.foldl (fun x c => if (x.1 || decide (288230376151711743 < x.2)) = true then (true, x.2) else (false, 10 * x.2 + digV c)) (false, 0)
theorem stF_snoc (l : List UInt8) (c : UInt8) : stF (l ++ [c]) = if ((stF l).1 || decide (288230376151711743 < (stF l).2)) = true then (true, (stF l).2) else (false, 10 * (stF l).2 + digV c) := by simp [stF]

theorem snoc_ind {α : Type} {P : List α → Prop} (h0 : P []) (h1 : ∀ l c, P l → P (l ++ [c])) (l : List α) : P l := by
  rw [← List.reverse_reverse l]
  induction l.reverse with
  | nil => exact h0
  | cons c r ih => rw [List.reverse_cons]; exact h1 _ _ ih

theorem stF_inv : ∀ (l : List UInt8), l.all digB = true → (0 ≤ (stF l).2 ∧ (stF l).2 ≤ 2882303761517117439) ∧ ((stF l).1 = false → (stF l).2 = valL l) ∧ ((stF l).1 = true → 1152921504606846976 < valL l) := by
  refine snoc_ind ?_ ?_
  · intro _; exact ⟨⟨by decide, by decide⟩, fun _ => rfl, fun h => by simp [stF] at h⟩
  · intro l c ih h
    rw [List.all_append, Bool.and_eq_true] at h
    obtain ⟨h1, h2⟩ := h
    simp only [List.all_cons, List.all_nil, Bool.and_true] at h2
    rw [digB_iff] at h2
    obtain ⟨⟨i1, i2⟩, i3, i4⟩ := ih h1
    have hc : 0 ≤ digV c ∧ digV c ≤ 9 := by unfold digV; omega
    rw [stF_snoc, valL_snoc]
    cases hf : (stF l).1
    · have e := i3 hf
      by_cases hb : 288230376151711743 < (stF l).2
      · simp only [hb, decide_true, Bool.or_true, if_true]
        exact ⟨⟨i1, i2⟩, fun h => by simp at h, fun _ => by rw [e] at hb; omega⟩
      · simp only [hb, decide_false, Bool.or_false, Bool.false_eq_true, if_false]
        exact ⟨by omega, fun _ => by rw [e], fun h => by simp at h⟩
    · have e := i4 hf
      simp only [Bool.true_or, if_true]
      exact ⟨⟨i1, i2⟩, fun h => by simp at h, fun _ => by omega⟩

/-- The reference's loop: too far, and the number so far. -/
def stR (l : List UInt8) : Bool × Int := l.foldl (fun x c => if 115292150460684697 < x.2 then (true, digV c) else (x.1, x.2 * 10 + digV c)) (false, 0)
theorem stR_snoc (l : List UInt8) (c : UInt8) : stR (l ++ [c]) = if 115292150460684697 < (stR l).2 then (true, digV c) else ((stR l).1, (stR l).2 * 10 + digV c) := by
  rw [stR, List.foldl_append]
  rfl

theorem stR_inv : ∀ (l : List UInt8), l.all digB = true → (0 ≤ (stR l).2 ∧ (stR l).2 ≤ 1152921504606846979) ∧ ((stR l).1 = false → (stR l).2 = valL l) ∧ ((stR l).1 = true → 1152921504606846976 < valL l) := by
  refine snoc_ind ?_ ?_
  · intro _; exact ⟨⟨by decide, by decide⟩, fun _ => rfl, fun h => by simp [stR] at h⟩
  · intro l c ih h
    rw [List.all_append, Bool.and_eq_true] at h
    obtain ⟨h1, h2⟩ := h
    simp only [List.all_cons, List.all_nil, Bool.and_true] at h2
    rw [digB_iff] at h2
    obtain ⟨⟨i1, i2⟩, i3, i4⟩ := ih h1
    have hc : 0 ≤ digV c ∧ digV c ≤ 9 := by unfold digV; omega
    rw [stR_snoc, valL_snoc]
    by_cases hb : 115292150460684697 < (stR l).2
    · rw [if_pos hb]
      refine ⟨by simp only; omega, fun h => by simp at h, fun _ => ?_⟩
      cases hf : (stR l).1
      · have e := i3 hf
        omega
      · have e := i4 hf
        omega
    · rw [if_neg hb]
      refine ⟨by simp only; omega, fun h => ?_, fun h => ?_⟩
      · have e := i3 h
        simp only
        omega
      · have e := i4 h
        omega

theorem all_take {l : List UInt8} {p : UInt8 → Bool} (h : l.all p = true) (k : Nat) : (l.take k).all p = true := by
  rw [List.all_eq_true] at h ⊢
  exact fun x hx => h x (List.mem_of_mem_take hx)


theorem u8beq (c : UInt8) (n : Nat) (h : n < 256 := by decide) : ((c.toNat : Int) == (n : Int)) = (c == UInt8.ofNat n) := by
  rw [Bool.eq_iff_iff, beq_iff_eq, beq_iff_eq, ← UInt8.toNat_inj]
  simp [Nat.mod_eq_of_lt h]
  omega

theorem ba_zero (c : UInt8) (r : List UInt8) (h : 0 < (⟨⟨c :: r⟩⟩ : ByteArray).size) : (⟨⟨c :: r⟩⟩ : ByteArray)[0]'h = c := rfl

theorem below_bytes {W : World} (e : TypeId) (s : ByteArray) : Below W.heap.size W (Lib.bytesWorld W e s) :=
  ⟨rfl, rfl, rfl, by rw [Lib.bytesWorld_size]; omega, fun k hk => Lib.bytesWorld_at_old W e s k hk⟩

theorem bytes_cell (W : World) (e : TypeId) (d : List UInt8) (j : Nat) (hj : j < d.length) : (Lib.bytesWorld W e ⟨⟨d⟩⟩).cell? ⟨W.heap.size, j, none⟩ = some (.int .u8 d[j].toNat) := by
  rw [Lib.bytesWorld_cell W e ⟨⟨d⟩⟩ j hj]
  simp [List.getD, hj]

end Go.Proofs.YtneokkhnjnomdaaDoor
