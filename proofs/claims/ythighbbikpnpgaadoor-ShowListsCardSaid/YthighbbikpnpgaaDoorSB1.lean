/-
  Words on memory that all walks of this seat use: what is owned, and the shape of the world, are kept where nothing below is written.
  What layer 2 computes, in plain words: no program in sight.
  errors.Is, at kinds of api's and at nil.
  Walks of fix's sums, products and divisions.
  Walks: sums and differences, of fix and of the reference.
  Walks: products and divisions of fix.
  Walks: the divisions of fix.
  Walks: the reference's product and divisions.
  Walks: the reference's Mul and Modulo; says.
  What a text is as a number: in plain words; and by fix's loop.
  Walks of fix.Parse.
  Walks of the reference's Parse.
  Walks: a number's text, by fix and by the reference.
  What the variables that the rows list give; a world for the rows' witness.
  Data in memory; how many parts a datum has (read.counted).
  Walk: a number's text by the reference.
  Layer 7's names: when a text may be a symbol's name, in plain words; and by lex and by the reference.
  Walks: lex.Symbol and the reference's Symbol.
  lex.Symbol whole; the reference's digits and Symbol.
  Whether a datum may be one (read.fits, read.Check).
  Whether a datum may be one: lists.
  Whether a datum may be one: all together; read.Check.
  Layer 9's texts, in plain words; what the printed functions Char and str come to.
  Layer 9's texts of data, in plain words.
  A strings.Builder that the call has made itself, alone in its block or at the head of a struct: what its methods do. (The shelf's layings of these methods do not fit this translation's copyCheck.)
  The printer: strings.
  The printer: strings within marks.
  The printer: leaves.
  The reference's Text.
-/
import Derived.Test.YthighbbikpnpgaaDoorProg
import Derived.WalkKit
import Derived.KernelRfl
import Derived.Lib.Hide
import Derived.ChangeAgain
import Derived.Deep.Draws
import Derived.LaidEql
import Derived.Stop.Asserts
import Derived.RowKitTokens
import Derived.Lib.Strings
import Derived.Lib.ConvBytes
import Derived.Deep.DeepCutAuto
import Derived.Deep.CutBlock
import Derived.Test.YthighbbikpnpgaaDoorShelf
import Derived.Lib.AppendIntMem
import Derived.Lib.ItoaLen
import Derived.Test.YthighbbikpnpgaaDoorCards
import Derived.Test.YthighbbikpnpgaaDoorTie
import Derived.ProofKit
import Derived.OpenShut
import Derived.Deep.DeepHandedRow
import Derived.Lib.LaidTab
import Derived.LaidSub
import Derived.Below
import Derived.Deep.AppendLies
import Derived.Maps.AppendAt
import Derived.OwnWalk
import Derived.Laws.BytesArg
import Derived.Laws.MakeOwn
import Derived.Laws.OwnMore
import Derived.Deep.OwnRows
import Derived.Tactics
import Derived.Laws.Slices
import Derived.RowKit3
import Derived.Deep.LoopGhost
import Derived.Deep.QuietTactic
import Derived.BigQuiet
import Derived.WideLaws
import Derived.Deep.RegionHeld3
import Derived.Laws.Rows
import Derived.Lib.AppendStr
import Derived.ArgAppend
import Derived.Laws.IdiomCopy
import Derived.OrdersHeld
import Derived.Laws.BitsLemmas
import Derived.RowKit
import Derived.Test.YthighbbikpnpgaaDoorWWords
import Derived.Test.YthighbbikpnpgaaDoorWLast
import Derived.Test.YthighbbikpnpgaaDoorWTab
import Derived.Test.YthighbbikpnpgaaDoorWFour
import Derived.Test.YthighbbikpnpgaaDoorWQPut
import Derived.Test.YthighbbikpnpgaaDoorWApart
import Derived.Test.YthighbbikpnpgaaDoorWArr
import Derived.Test.YthighbbikpnpgaaDoorWZeros
import Derived.Test.YthighbbikpnpgaaDoorWFoot
import Derived.Test.YthighbbikpnpgaaDoorWKept
import Derived.Test.YthighbbikpnpgaaDoorWShare
import Derived.Test.YthighbbikpnpgaaDoorWN
import Derived.Test.YthighbbikpnpgaaDoorWFootNe
import Derived.Test.YthighbbikpnpgaaDoorWAt
import Derived.Test.YthighbbikpnpgaaDoorWEqStruct
import Derived.Test.YthighbbikpnpgaaDoorWRepsOne
import Derived.Test.YthighbbikpnpgaaDoorWInv
import Derived.Test.YthighbbikpnpgaaDoorWInvWords
import Derived.Test.YthighbbikpnpgaaDoorWGuard
import Derived.Test.YthighbbikpnpgaaDoorWNEv
import Derived.Test.YthighbbikpnpgaaDoorWMore
import Derived.Laws.IdiomStrings
import Derived.Lib.Bytealg
import Derived.Lib.IndexLaws
import Derived.Lib.Builder
import Derived.Lib.OthersKept
import Derived.Lib.UnsafeStr
import Derived.RegionTactic

/-! W -/
namespace Go.Proofs.YthighbbikpnpgaaDoor
open Go.RowKit

theorem own_below {w w' : World} {B : Nat} {e : TypeId} {size n : Nat} {v : Value} {xs : List Value} (h : w.ownsRow B e size v n xs) (hb : Below w.heap.size w w') : w'.ownsRow B e size v n xs :=
  h.kept (row := none) ⟨hb.os, hb.tape, hb.output, hb.size, fun k hk _ => hb.block k hk⟩ (by cases v.ownBlock <;> simp)

theorem own_mono {w : World} {B B' : Nat} {e : TypeId} {size n : Nat} {v : Value} {xs : List Value} (h : w.ownsRow B e size v n xs) (hB : B' ≤ B) : w.ownsRow B' e size v n xs := by
  refine ⟨h.1, ?_⟩
  rcases h.2 with h2 | ⟨g, cap, cur, hv, hg, r⟩
  · exact .inl h2
  · exact .inr ⟨g, cap, cur, hv, Nat.le_trans hB hg, r⟩

theorem shaped_below {P : Program} {w w' : World} (h : w.ShapedOpen P) (hb : Below w.heap.size w w') : w'.ShapedOpen P :=
  h.keptBut (hb.frame (fun _ => False)) (fun _ hp => hp.elim)

theorem below_trans {w w1 w2 : World} (h : Below w.heap.size w w1) (k : Below w1.heap.size w1 w2) : Below w.heap.size w w2 :=
  h.trans (k.mono h.size)

theorem below_drewN {w w1 : World} (h : Below w.heap.size w w1) (n : Nat) : Below w.heap.size w (w1.drewN n) :=
  h.trans ⟨rfl, rfl, rfl, Nat.le_refl _, fun _ _ => rfl⟩

theorem add_zero_off (b j : Nat) : (⟨b, 0, none⟩ : Addr).add j = ⟨b, j, none⟩ := by
  unfold Addr.add; split <;> simp_all

/-- The cells of the newest block. -/
theorem news_new (w : World) (cs : List Value) (t : TypeId) (b : Nat) (hb : b = w.heap.size) : ∀ j u, cs[j]? = some u → (w.alloc (.cells cs.toArray t)).cell? ((⟨b, 0, none⟩ : Addr).add j) = some u := by
  subst hb
  intro j u h
  rw [add_zero_off, cell_of_row (w.alloc (.cells cs.toArray t)) w.heap.size j cs.toArray t (0, 0) (heap_alloc_new w _)]
  simpa using h

/-- A block of four cells, known whole: each of its cells, and that none is frozen. -/
theorem cells_at4 {w : World} {b : Nat} {a0 a1 a2 a3 : Value} {t : TypeId} (h : w.heap[b]? = some (.cells #[a0, a1, a2, a3] t (0, 0))) :
    (w.cell? ⟨b, 0, none⟩ = some a0 ∧ w.cell? ⟨b, 1, none⟩ = some a1 ∧ w.cell? ⟨b, 2, none⟩ = some a2 ∧ w.cell? ⟨b, 3, none⟩ = some a3) ∧
    (w.frozen? ⟨b, 0, none⟩ = false ∧ w.frozen? ⟨b, 1, none⟩ = false ∧ w.frozen? ⟨b, 2, none⟩ = false ∧ w.frozen? ⟨b, 3, none⟩ = false) := by
  refine ⟨⟨?_, ?_, ?_, ?_⟩, ?_, ?_, ?_, ?_⟩
  all_goals first | (rw [cell_of_row w b _ _ t (0, 0) h]; rfl) | simp [World.frozen?, h]

theorem heap_below {w w' : World} {B b : Nat} {o : Obj} (h : w.heap[b]? = some o) (hb : Below B w w') (hB : b < B) : w'.heap[b]? = some o := (hb.block b hB).trans h
theorem heap_lt {w : World} {b : Nat} {o : Obj} (h : w.heap[b]? = some o) : b < w.heap.size := (Array.getElem?_eq_some_iff.1 h).1
end Go.Proofs.YthighbbikpnpgaaDoor

/-! FL -/
namespace Go.Proofs.YthighbbikpnpgaaDoor
open Go.RowKit

/-- May it be a number? -/
def Num (n : Int) : Bool := decide (-1152921504606846976 ≤ n) && decide (n ≤ 1152921504606846975)
theorem num_iff {n : Int} : Num n = true ↔ -1152921504606846976 ≤ n ∧ n ≤ 1152921504606846975 := by simp [Num]

/-- A number and a kind of error, 0 if there is none. -/
def fitL (n : Int) : Int × Int := if Num n = true then (n, 0) else (0, 11)
def addL (a b : Int) : Int × Int := if (Num a && Num b) = true then fitL (a + b) else (0, 2)
def subL (a b : Int) : Int × Int := if (Num a && Num b) = true then fitL (a - b) else (0, 2)
def mulL (a b : Int) : Int × Int := if (Num a && Num b) = true then fitL (a * b) else (0, 2)
/-- What stands in the divisions' place where nothing is refused. -/
def divWith (f : Int × Int) (a b : Int) : Int × Int := if (Num a && Num b) = true then (if (b == 0) = true then (0, 12) else f) else (0, 2)
def modOf (a b : Int) : Int := if a.tmod b ≠ 0 ∧ ((a.tmod b < 0) ≠ (b < 0)) then a.tmod b + b else a.tmod b
def quoL (a b : Int) : Int × Int := divWith (fitL (a.tdiv b)) a b
def remL (a b : Int) : Int × Int := divWith (a.tmod b, 0) a b
def modL (a b : Int) : Int × Int := divWith (modOf a b, 0) a b

theorem tmod_bound {a b : Int} (ha : Num a = true) (hb : Num b = true) (h0 : b ≠ 0) : Num (a.tmod b) = true ∧ Num (modOf a b) = true := by
  rw [num_iff] at *
  have h1 : (a.tmod b).natAbs < b.natAbs := by
    rw [Int.natAbs_tmod]
    exact Nat.mod_lt _ (by omega)
  have h2 : (a.tmod b).natAbs ≤ a.natAbs := by
    rw [Int.natAbs_tmod]
    exact Nat.mod_le _ _
  generalize hr : a.tmod b = r at h1 h2
  have hb' : b = (b.natAbs : Int) ∨ b = -(b.natAbs : Int) := Int.natAbs_eq b
  have ha' : a = (a.natAbs : Int) ∨ a = -(a.natAbs : Int) := Int.natAbs_eq a
  refine ⟨by omega, ?_⟩
  unfold modOf
  rw [hr, num_iff]
  split
  · rename_i h
    obtain ⟨h3, h4⟩ := h
    by_cases hr0 : r < 0
    · by_cases hb0 : b < 0
      · exact absurd (propext ⟨fun _ => hb0, fun _ => hr0⟩) h4
      · omega
    · by_cases hb0 : b < 0
      · omega
      · exact absurd (propext ⟨fun h => absurd h hr0, fun h => absurd h hb0⟩) h4
  · omega

theorem tdiv_bound {a b : Int} (ha : Num a = true) : -1152921504606846976 ≤ a.tdiv b ∧ a.tdiv b ≤ 1152921504606846976 := by
  rw [num_iff] at ha
  have h2 : (a.tdiv b).natAbs ≤ a.natAbs := by
    rw [Int.natAbs_tdiv]
    exact Nat.div_le_self _ _
  omega

/-- The product's own check. -/
theorem mul_check {a b : Int} (ha : Num a = true) (h0 : a ≠ 0) : (Num (a * b) = true → wrap64 (a * b) = a * b ∧ (a * b).tdiv a = b) ∧ (Num (a * b) = false → (wrap64 (a * b)).tdiv a ≠ b ∨ Num (wrap64 (a * b)) = false) := by
  refine ⟨fun h => ?_, fun h => ?_⟩
  · rw [num_iff] at h
    refine ⟨?_, Int.mul_tdiv_cancel_left _ h0⟩
    generalize a * b = p at h
    unfold wrap64
    omega
  · by_cases h1 : (wrap64 (a * b)).tdiv a = b
    · right
      have h2 := Int.tmod_add_mul_tdiv (wrap64 (a * b)) a
      rw [h1] at h2
      have h3 : ((wrap64 (a * b)).tmod a).natAbs < a.natAbs := by
        rw [Int.natAbs_tmod]
        exact Nat.mod_lt _ (by omega)
      rw [num_iff] at ha
      have h4 : wrap64 (a * b) = a * b := by
        generalize (wrap64 (a * b)).tmod a = r at h2 h3
        generalize a * b = p at h2
        unfold wrap64 at h2 ⊢
        omega
      rw [h4]
      exact h
    · exact .inl h1


/-- The product as the reference has it: of what is left of the signs. -/
theorem prod_le (x y m : Nat) (hy : 0 < y) : m / y < x ↔ m < x * y := by
  rw [Nat.div_lt_iff_lt_mul hy]

theorem natAbs_mul_pos {a b : Int} (h : (a < 0) = (b < 0)) : a * b = ((a.natAbs * b.natAbs : Nat) : Int) := by
  by_cases ha : a < 0
  · have hb : b < 0 := by rw [← h]; exact ha
    have e1 : a = -(a.natAbs : Int) := by omega
    have e2 : b = -(b.natAbs : Int) := by omega
    rw [Int.natCast_mul]
    generalize (a.natAbs : Int) = x at *
    generalize (b.natAbs : Int) = y at *
    rw [e1, e2, Int.neg_mul_neg]
  · have hb : ¬ b < 0 := by rw [← h]; omega
    have e1 : a = (a.natAbs : Int) := by omega
    have e2 : b = (b.natAbs : Int) := by omega
    rw [Int.natCast_mul, ← e1, ← e2]

theorem natAbs_mul_neg {a b : Int} (h : (a < 0) ≠ (b < 0)) : a * b = -((a.natAbs * b.natAbs : Nat) : Int) := by
  rw [Int.natCast_mul]
  by_cases ha : a < 0
  · have hb : ¬ b < 0 := fun hb => h (propext ⟨fun _ => hb, fun _ => ha⟩)
    have e1 : a = -(a.natAbs : Int) := by omega
    have e2 : b = (b.natAbs : Int) := by omega
    generalize (a.natAbs : Int) = x at *
    generalize (b.natAbs : Int) = y at *
    rw [e1, e2, Int.neg_mul]
  · have hb : b < 0 := by
      by_cases hb : b < 0
      · exact hb
      · exact absurd (propext ⟨fun h => absurd h (by omega), fun h => absurd h (by omega)⟩) h
    have e1 : a = (a.natAbs : Int) := by omega
    have e2 : b = -(b.natAbs : Int) := by omega
    generalize (a.natAbs : Int) = x at *
    generalize (b.natAbs : Int) = y at *
    rw [e1, e2, Int.mul_neg]
end Go.Proofs.YthighbbikpnpgaaDoor

/-! Is -/
namespace Go
section
variable {P : Program} (w : World)
theorem run_equalIn_kinds (d : Nat) {ti tn : TypeId} {ms : Array (String × TypeId)} {i : TypeInfo} {k : IntKind} (a b : Int)
    (hi : P.underlying ti = some (.interface ms)) (hn : P.underlying tn = some (.int k)) (hinfo : P.info? tn = some i) (hcomp : i.comparable = true) :
    (Op.equalIn (d + 2) ti (.iface tn (.int k a)) (.iface tn (.int k b))).run P w = .ok (a == b) w := by
  simp [Op.equalIn, run_underlying hi, run_underlying hn, typeInfo, hinfo, hcomp]

/-- Two interface values of one integer type are equal as the numbers are. -/
theorem run_eql_kinds {ti tn : TypeId} {ms : Array (String × TypeId)} {i : TypeInfo} {k : IntKind} (a b : Int)
    (hi : P.underlying ti = some (.interface ms)) (hn : P.underlying tn = some (.int k)) (hinfo : P.info? tn = some i) (hcomp : i.comparable = true) :
    (binOp .eql ti (.iface tn (.int k a)) (.iface tn (.int k b))).run P w = .ok (.bool (a == b)) w := by
  simp only [binOp]
  simp [Op.equal, Op.maxDepth, run_equalIn_kinds w 9998 a b hi hn hinfo hcomp]
end
end Go
namespace Go.Proofs.YthighbbikpnpgaaDoor
open Go.RowKit Go.Stop Go.Extern

/-- A kind as an error. -/
abbrev kindV (k : Int) : Value := .iface 35 (.int .i64 k)

theorem is_typeOf (v : Value) (w : World) : (Extern.ReflectliteType.typeOf #[.iface 35 v]).run Tryd.prog w = .ok (.iface 142 (.agg #[.pointer (some ⟨5, 35, none⟩)])) w := by kernel_rfl
theorem is_comparable (w : World) : (callFunc 160 #[.agg #[.pointer (some ⟨5, 35, none⟩)]]).run Tryd.prog w = .ok (Next.value (.bool true)) w := by
  have h32 := @run_callFunc_extern Tryd.prog 160 _ (Extern.ReflectliteType.method fun t => do Extern.Rtype.noPackHeld "Comparable" t; pure (.bool (← typeInfo t).comparable)) Tryd.func160 (by kernel_rfl) (by kernel_rfl) (by kernel_rfl) (by kernel_rfl)
  have hc : ((Extern.ReflectliteType.method fun t => do Extern.Rtype.noPackHeld "Comparable" t; pure (.bool (← typeInfo t).comparable)) #[.agg #[.pointer (some ⟨5, 35, none⟩)]]).run Tryd.prog w = .ok (.bool true) w := by kernel_rfl
  rw [h32, hc]
  rfl
theorem is_method (v : Value) (w : World) : (Go.method 343 142 v "Comparable").run Tryd.prog w = .ok (160, v) w := by kernel_rfl
theorem is_comp : (Tryd.prog.info? 35).map (·.comparable) = some true := by kernel_rfl

theorem no_is (v : Value) (xT : TypeId) (w : World) : (Instr.typeAssert (.iface 35 v) xT 144 true).run Tryd.prog w = .ok (.tuple #[.nilIface, .bool false]) w := run_typeAssert_lacksB Tryd.underlying144 (by kernel_rfl) (by kernel_rfl) v xT w
theorem no_unwrap (v : Value) (xT : TypeId) (w : World) : (Instr.typeAssert (.iface 35 v) xT 147 true).run Tryd.prog w = .ok (.tuple #[.nilIface, .bool false]) w := run_typeAssert_lacksB Tryd.underlying147 (by kernel_rfl) (by kernel_rfl) v xT w
theorem no_unwraps (v : Value) (xT : TypeId) (w : World) : (Instr.typeAssert (.iface 35 v) xT 149 true).run Tryd.prog w = .ok (.tuple #[.nilIface, .bool false]) w := run_typeAssert_lacksB Tryd.underlying149 (by kernel_rfl) (by kernel_rfl) v xT w

/-- errors.Is(a, b), both kinds. -/
theorem is_kind (a b : Int) (w : World) :
    Calls Tryd.prog 21 #[kindV a, kindV b] w fun e w' => e = .returned (.bool (a == b)) ∧ w' = w := by
  obtain ⟨i, hi, hcmp⟩ := Option.map_eq_some_iff.1 is_comp
  have h8 := @run_callFunc_extern Tryd.prog 57 _ Extern.ReflectliteType.typeOf Tryd.func57 (by kernel_rfl) (by kernel_rfl) (by kernel_rfl) (by kernel_rfl)
  have tT := is_typeOf
  have cT := is_comparable
  have mR := is_method
  have nE := no_is
  have uE := no_unwrap
  have vE := no_unwraps
  have heq := run_eql_kinds (P := Tryd.prog) w a b Tryd.underlying29 Tryd.underlying35 hi hcmp
  cases hab : (a == b)
  all_goals
    rw [hab] at heq
    go_enter Tryd.func21, Tryd.ntmps21
    go_wp2
    refine wp_loop_rounds 1 ?_
    rw [rounds_succ]
    go_wp2
    go_ret
    exact ⟨rfl, rfl⟩

/-- errors.Is(nil, b). -/
theorem is_nil (b : Int) (w : World) :
    Calls Tryd.prog 21 #[.nilIface, kindV b] w fun e w' => e = .returned (.bool false) ∧ w' = w := by
  have hn := run_eql_iface_nil_left (P := Tryd.prog) w 35 (.int .i64 b) Tryd.underlying29
  go_enter Tryd.func21, Tryd.ntmps21
  go_wp2
  go_ret
  exact ⟨rfl, rfl⟩
end Go.Proofs.YthighbbikpnpgaaDoor

/-! FA -/
namespace Go.Proofs.YthighbbikpnpgaaDoor
open Go.RowKit

/-- An error: nil, or a kind. -/
def errV (k : Int) : Value := if (k == 0) = true then .nilIface else kindV k
/-- A number and an error, as fix hands them back. -/
def resV (r : Int × Int) : Value := .tuple #[.int .i64 r.1, errV r.2]

theorem whole_any (n : Int) (w : World) : Calls Tryd.prog 125 #[.int .i64 n] w fun e w' => e = .returned (.bool (Num n)) ∧ w' = w := by
  by_cases h1 : n ≤ 1152921504606846975
  · by_cases h2 : -1152921504606846976 ≤ n
    all_goals
      have H : Hid (Num n = _) := (by simp only [Hid, Num, h1, h2]; rfl)
      go_enter Tryd.func125, Tryd.ntmps125
      go_wp2
      go_ret
      exact ⟨by rw [H.out]; simp, rfl⟩
  · have H : Hid (Num n = _) := (by simp only [Hid, Num, h1]; rfl)
    go_enter Tryd.func125, Tryd.ntmps125
    go_wp2
    go_ret
    exact ⟨by rw [H.out]; simp, rfl⟩

theorem fit_any (n : Int) (w : World) : Calls Tryd.prog 119 #[.int .i64 n] w fun e w' => e = .returned (resV (fitL n)) ∧ w' = w := by
  have H : Hid (fitL n = if Num n = true then (n, 0) else (0, 11)) := rfl
  generalize hN : Num n = b at H
  have HN := Lib.hid hN
  clear hN
  go_enter Tryd.func119, Tryd.ntmps119
  go_wp2_with fail
  refine (whole_any _ _).mono ?_
  rintro e w' ⟨rfl, rfl⟩
  rw [HN.out]
  cases b
  all_goals
    go_wp2_with fail
    go_ret2
    exact ⟨by rw [H.out]; rfl, rfl⟩

end Go.Proofs.YthighbbikpnpgaaDoor

/-! FB -/
namespace Go.Proofs.YthighbbikpnpgaaDoor
open Go.RowKit

/-- A number and a kind's number, as the reference hands them back. -/
def refV (r : Int × Int) : Value := .tuple #[.int .i64 r.1, .int .i64 r.2]

theorem refnum_any (n : Int) (w : World) : Calls Tryd.prog 40 #[.int .i64 n] w fun e w' => e = .returned (.bool (Num n)) ∧ w' = w := by
  by_cases h1 : n ≤ 1152921504606846975
  · have h3 : n < 1152921504606846976 := by omega
    by_cases h2 : -1152921504606846976 ≤ n
    all_goals
      have H : Hid (Num n = _) := (by simp only [Hid, Num, h1, h2]; rfl)
      go_enter Tryd.func40, Tryd.ntmps40
      go_wp2
      go_ret
      exact ⟨by rw [H.out]; simp, rfl⟩
  · have h3 : ¬ n < 1152921504606846976 := by omega
    have h2 : -1152921504606846976 ≤ n := by omega
    have H : Hid (Num n = _) := (by simp only [Hid, Num, h1, h2]; rfl)
    go_enter Tryd.func40, Tryd.ntmps40
    go_wp2
    go_ret
    exact ⟨by rw [H.out]; simp, rfl⟩

end Go.Proofs.YthighbbikpnpgaaDoor

/-! FC -/
namespace Go.Proofs.YthighbbikpnpgaaDoor
open Go.RowKit

theorem wrap64_in (x : Int) : -9223372036854775808 ≤ wrap64 x ∧ wrap64 x ≤ 9223372036854775807 := by unfold wrap64; omega

theorem mul_check' {a b : Int} (ha : Num a = true) (hb : Num b = true) (h0 : a ≠ 0) : (Num (a * b) = true → wrap64 (a * b) = a * b ∧ wrap64 ((wrap64 (a * b)).tdiv a) = b) ∧ (Num (a * b) = false → wrap64 ((wrap64 (a * b)).tdiv a) ≠ b ∨ Num (wrap64 (a * b)) = false) := by
  obtain ⟨hy, hn⟩ := mul_check (b := b) ha h0
  obtain ⟨n1, n2⟩ := wrap64_in (a * b)
  rw [num_iff] at hb
  refine ⟨fun h => ?_, fun h => ?_⟩
  · obtain ⟨e1, e2⟩ := hy h
    rw [e1, e2]
    refine ⟨rfl, ?_⟩
    unfold wrap64
    omega
  · rcases hn h with h1 | h1
    · left
      have hd : ((wrap64 (a * b)).tdiv a).natAbs ≤ (wrap64 (a * b)).natAbs := by
        rw [Int.natAbs_tdiv]
        exact Nat.div_le_self _ _
      generalize (wrap64 (a * b)).tdiv a = d at *
      generalize wrap64 (a * b) = n at *
      unfold wrap64
      omega
    · exact .inr h1

end Go.Proofs.YthighbbikpnpgaaDoor

/-! FD -/
namespace Go.Proofs.YthighbbikpnpgaaDoor
open Go.RowKit

/-- What divide comes to: 0: the quotient, 1: the remainder, 2: the modulo. -/
def divL (how a b : Int) : Int × Int := if (how == 2) = true then modL a b else if (how == 1) = true then remL a b else quoL a b

end Go.Proofs.YthighbbikpnpgaaDoor

/-! FE -/
namespace Go.Proofs.YthighbbikpnpgaaDoor
open Go.RowKit

theorem u64w (n : Int) : IntKind.u64.wrap n = n % 18446744073709551616 := rfl

/-- The reference's product: a number, and whether it may be. -/
def prodL (a b : Int) : Int × Bool := if Num (a * b) = true then (a * b, true) else (0, false)

end Go.Proofs.YthighbbikpnpgaaDoor

/-! FF -/
namespace Go.Proofs.YthighbbikpnpgaaDoor
open Go.RowKit

end Go.Proofs.YthighbbikpnpgaaDoor

/-! FP -/
namespace Go.Proofs.YthighbbikpnpgaaDoor
open Go.RowKit

def digB (c : UInt8) : Bool := decide (48 ≤ c.toNat) && decide (c.toNat ≤ 57)
def digV (c : UInt8) : Int := (c.toNat : Int) - 48
/-- The number that digits say. -/
def valL (l : List UInt8) : Int := l.foldl (fun n c => 10 * n + digV c) 0

theorem valL_snoc (l : List UInt8) (c : UInt8) : valL (l ++ [c]) = 10 * valL l + digV c := by simp [valL]

theorem digB_iff {c : UInt8} : digB c = true ↔ 48 ≤ c.toNat ∧ c.toNat ≤ 57 := by simp [digB]

/-- The digits of a text behind its sign. -/
def bodyL (s : List UInt8) : List UInt8 := match s with | [] => [] | c :: r => if (c == 45 || c == 43) = true then r else c :: r
def negL (s : List UInt8) : Bool := match s with | [] => false | c :: _ => c == 45
def okL (l : List UInt8) : Bool := decide (1 ≤ l.length) && decide (l.length ≤ 30) && l.all digB

/-- What a text is as a number, or what it is refused with. -/
def parseL (s : List UInt8) : Int × Int :=
  if okL (bodyL s) = true then fitL (if negL s = true then -valL (bodyL s) else valL (bodyL s)) else (0, 6)

/-- fix's loop: too far, and the number so far. -/
def stF (l : List UInt8) : Bool × Int := l.foldl (fun x c => if (x.1 || decide (288230376151711743 < x.2)) = true then (true, x.2) else (false, 10 * x.2 + digV c)) (false, 0)
theorem stF_snoc (l : List UInt8) (c : UInt8) : stF (l ++ [c]) = if ((stF l).1 || decide (288230376151711743 < (stF l).2)) = true then (true, (stF l).2) else (false, 10 * (stF l).2 + digV c) := by simp [stF]

theorem snoc_ind {α : Type} {P : List α → Prop} (h0 : P []) (h1 : ∀ l c, P l → P (l ++ [c])) (l : List α) : P l := by
  rw [← List.reverse_reverse l]
  induction l.reverse with
  | nil => exact h0
  | cons c r ih => rw [List.reverse_cons]; exact h1 _ _ ih

theorem stF_inv : ∀ (l : List UInt8), l.all digB = true → (0 ≤ (stF l).2 ∧ (stF l).2 ≤ 2882303761517117439) ∧ ((stF l).1 = false → (stF l).2 = valL l) ∧ ((stF l).1 = true → 1152921504606846976 < valL l) := by
  refine snoc_ind ?_ ?_
  · intro _; exact ⟨⟨by decide, by decide⟩, fun _ => rfl, fun h => by simp [stF] at h⟩
  · intro l c ih h
    rw [List.all_append, Bool.and_eq_true] at h
    obtain ⟨h1, h2⟩ := h
    simp only [List.all_cons, List.all_nil, Bool.and_true] at h2
    rw [digB_iff] at h2
    obtain ⟨⟨i1, i2⟩, i3, i4⟩ := ih h1
    have hc : 0 ≤ digV c ∧ digV c ≤ 9 := by unfold digV; omega
    rw [stF_snoc, valL_snoc]
    cases hf : (stF l).1
    · have e := i3 hf
      by_cases hb : 288230376151711743 < (stF l).2
      · simp only [hb, decide_true, Bool.or_true, if_true]
        exact ⟨⟨i1, i2⟩, fun h => by simp at h, fun _ => by rw [e] at hb; omega⟩
      · simp only [hb, decide_false, Bool.or_false, Bool.false_eq_true, if_false]
        exact ⟨by omega, fun _ => by rw [e], fun h => by simp at h⟩
    · have e := i4 hf
      simp only [Bool.true_or, if_true]
      exact ⟨⟨i1, i2⟩, fun h => by simp at h, fun _ => by omega⟩

/-- The reference's loop: too far, and the number so far. -/
def stR (l : List UInt8) : Bool × Int := l.foldl (fun x c => if 115292150460684697 < x.2 then (true, digV c) else (x.1, x.2 * 10 + digV c)) (false, 0)
theorem stR_snoc (l : List UInt8) (c : UInt8) : stR (l ++ [c]) = if 115292150460684697 < (stR l).2 then (true, digV c) else ((stR l).1, (stR l).2 * 10 + digV c) := by
  rw [stR, List.foldl_append]
  rfl

theorem stR_inv : ∀ (l : List UInt8), l.all digB = true → (0 ≤ (stR l).2 ∧ (stR l).2 ≤ 1152921504606846979) ∧ ((stR l).1 = false → (stR l).2 = valL l) ∧ ((stR l).1 = true → 1152921504606846976 < valL l) := by
  refine snoc_ind ?_ ?_
  · intro _; exact ⟨⟨by decide, by decide⟩, fun _ => rfl, fun h => by simp [stR] at h⟩
  · intro l c ih h
    rw [List.all_append, Bool.and_eq_true] at h
    obtain ⟨h1, h2⟩ := h
    simp only [List.all_cons, List.all_nil, Bool.and_true] at h2
    rw [digB_iff] at h2
    obtain ⟨⟨i1, i2⟩, i3, i4⟩ := ih h1
    have hc : 0 ≤ digV c ∧ digV c ≤ 9 := by unfold digV; omega
    rw [stR_snoc, valL_snoc]
    by_cases hb : 115292150460684697 < (stR l).2
    · rw [if_pos hb]
      refine ⟨by simp only; omega, fun h => by simp at h, fun _ => ?_⟩
      cases hf : (stR l).1
      · have e := i3 hf
        omega
      · have e := i4 hf
        omega
    · rw [if_neg hb]
      refine ⟨by simp only; omega, fun h => ?_, fun h => ?_⟩
      · have e := i3 h
        simp only
        omega
      · have e := i4 h
        omega

theorem all_take {l : List UInt8} {p : UInt8 → Bool} (h : l.all p = true) (k : Nat) : (l.take k).all p = true := by
  rw [List.all_eq_true] at h ⊢
  exact fun x hx => h x (List.mem_of_mem_take hx)


theorem u8beq (c : UInt8) (n : Nat) (h : n < 256 := by decide) : ((c.toNat : Int) == (n : Int)) = (c == UInt8.ofNat n) := by
  rw [Bool.eq_iff_iff, beq_iff_eq, beq_iff_eq, ← UInt8.toNat_inj]
  simp [Nat.mod_eq_of_lt h]
  omega

theorem ba_zero (c : UInt8) (r : List UInt8) (h : 0 < (⟨⟨c :: r⟩⟩ : ByteArray).size) : (⟨⟨c :: r⟩⟩ : ByteArray)[0]'h = c := rfl

theorem below_bytes {W : World} (e : TypeId) (s : ByteArray) : Below W.heap.size W (Lib.bytesWorld W e s) :=
  ⟨rfl, rfl, rfl, by rw [Lib.bytesWorld_size]; omega, fun k hk => Lib.bytesWorld_at_old W e s k hk⟩

theorem bytes_cell (W : World) (e : TypeId) (d : List UInt8) (j : Nat) (hj : j < d.length) : (Lib.bytesWorld W e ⟨⟨d⟩⟩).cell? ⟨W.heap.size, j, none⟩ = some (.int .u8 d[j].toNat) := by
  rw [Lib.bytesWorld_cell W e ⟨⟨d⟩⟩ j hj]
  simp [List.getD, hj]

end Go.Proofs.YthighbbikpnpgaaDoor

/-! FQ -/
namespace Go.Proofs.YthighbbikpnpgaaDoor
open Go.RowKit

theorem parse_minus (r : List UInt8) (W : World) :
    Calls Tryd.prog 103 #[.string ⟨⟨45 :: r⟩⟩] W fun e w' => e = .returned (resV (parseL (45 :: r))) ∧ Below W.heap.size W w' := by
  have hcv := fun (w : World) (s : ByteArray) => Lib.run_convert_string_bytes w 9 76 5 s Tryd.underlying9 Tryd.underlying76 Tryd.underlying5
  have eb := ba_zero 45 r
  have hext : (⟨⟨45 :: r⟩⟩ : ByteArray).extract 1 (r.length + 1) = ⟨⟨r⟩⟩ := by
    rw [Lib.extract_eq]; simp
  have hBody : bodyL (45 :: r) = r := rfl
  have hNeg : negL (45 :: r) = true := rfl
  have hl : (r).length = (r).length := rfl
  by_cases hlen : 1 ≤ (r).length ∧ (r).length ≤ 30
  · obtain ⟨l1, l2⟩ := hlen
    have l1' : 1 ≤ ((r).length : Int) := by omega
    have l2' : ((r).length : Int) ≤ 30 := by omega
    obtain ⟨P, hP⟩ : ∃ P, parseL (45 :: r) = P := ⟨_, rfl⟩
    have HP := Lib.hid hP
    have HL : Hid (P = if (r).all digB = true then fitL (if true = true then -valL (r) else valL (r)) else (0, 6)) := by
      simp only [Hid]
      rw [← hP, parseL, okL, hBody, hNeg, decide_eq_true l1, decide_eq_true l2]
      rfl
    have hcells := Lib.hid (bytes_cell W 5 (r))
    have hbl := below_bytes (W := W) 5 ⟨⟨r⟩⟩
    try simp only [List.length_cons] at l1' l2'
    clear hBody hNeg hl hP
    go_enter Tryd.func103, Tryd.ntmps103
    go_wp2_with fail
    clear hcv
    generalize Lib.bytesWorld W 5 ⟨⟨r⟩⟩ = w1 at hcells hbl ⊢
    obtain ⟨E, hE⟩ : ∃ E, E = r := ⟨_, rfl⟩
    have HE := Lib.hid hE
    rw [← hE] at HL hcells l1 l2
    clear hE
    have hEl : (E.length : Int) = (r).length := by rw [HE.out]
    go_loop [5, 6, 36] (fun f n i => ∃ k : Nat, k ≤ E.length ∧ i = .int .i64 k ∧ f = .bool (stF (E.take k)).1 ∧ n = .int .i64 (stF (E.take k)).2 ∧ (E.take k).all digB = true) (fun _ _ i => E.length - (intOf i).toNat)
    case atStart => exact ⟨0, by omega, rfl, rfl, rfl, rfl⟩
    case round =>
      obtain ⟨k, hk, rfl, rfl, rfl, hall⟩ := hrel
      obtain ⟨⟨i1, i2⟩, i3, i4⟩ := stF_inv _ hall
      by_cases hlt : k < E.length
      · have hst := Lib.hid (stF_snoc (E.take k) E[k])
        have htk := Lib.hid (List.take_succ_eq_append_getElem hlt)
        have hck := hcells.out k hlt
        generalize E[k] = x at hst htk hck
        clear i3 i4
        generalize stF (E.take k) = st at hst i1 i2
        obtain ⟨far, n⟩ := st
        simp only at i1 i2
        by_cases hd : digB x = true
        · obtain ⟨d1, d2⟩ := digB_iff.1 hd
          have c1 : ((x.toNat : Int) < 48) = False := by simp; omega
          have c2 : (57 < (x.toNat : Int)) = False := by simp; omega
          have b1 : decide ((x.toNat : Int) < 48) = false := by simp; omega
          have b2 : decide (57 < (x.toNat : Int)) = false := by simp; omega
          have hall' : (E.take (k + 1)).all digB = true := by rw [htk.out, List.all_append, hall]; simp [hd]
          have HALL := Lib.hid hall'
          clear hall hall' hd
          cases far
          · by_cases hm : 288230376151711743 < n
            · have HST : Hid (stF (E.take (k + 1)) = (true, n)) := by rw [Hid, htk.out, hst.out]; simp [hm]
              clear hst htk
              go_wp2_with fail
              go_round
              case rel => exact ⟨k + 1, by omega, by go_num, by rw [HST.out], by rw [HST.out], HALL.out⟩
              case measure => simp [intOf]; omega
            · have HST : Hid (stF (E.take (k + 1)) = (false, 10 * n + digV x)) := by rw [Hid, htk.out, hst.out]; simp [hm]
              have hdv : digV x = (x.toNat : Int) - 48 := rfl
              have hm' : n ≤ 288230376151711743 := by omega
              rw [hdv] at HST
              clear hst htk hdv
              go_wp2_with fail
              go_round
              case rel => exact ⟨k + 1, by omega, by go_num, by rw [HST.out], by rw [HST.out], HALL.out⟩
              case measure => simp [intOf]; omega
          · have HST : Hid (stF (E.take (k + 1)) = (true, n)) := by rw [Hid, htk.out, hst.out]; simp
            clear hst htk
            go_wp2_with fail
            go_round
            case rel => exact ⟨k + 1, by omega, by go_num, by rw [HST.out], by rw [HST.out], HALL.out⟩
            case measure => simp [intOf]; omega
        · have hno : E.all digB = false := by
            rw [← Bool.not_eq_true]
            intro hh
            have := all_take hh (k + 1)
            rw [htk.out, List.all_append, Bool.and_eq_true] at this
            simp only [List.all_cons, List.all_nil, Bool.and_true] at this
            exact hd this.2
          have H6 := Lib.hid (show P = (0, 6) by rw [HL.out, hno]; rfl)
          have hx : x.toNat < 48 ∨ 57 < x.toNat := by
            rcases Nat.lt_or_ge x.toNat 48 with h | h
            · exact .inl h
            · rcases Nat.lt_or_ge 57 x.toNat with h' | h'
              · exact .inr h'
              · exact absurd (digB_iff.2 ⟨h, h'⟩) hd
          clear hst htk hno hd hall
          rcases hx with h | h
          · have b1 : decide ((x.toNat : Int) < 48) = true := by simp; omega
            go_wp2_with fail
            go_ret2
            exact ⟨by rw [HP.out, H6.out]; rfl, hbl⟩
          · have b1 : decide ((x.toNat : Int) < 48) = false := by simp; omega
            have b2 : decide (57 < (x.toNat : Int)) = true := by simp; omega
            go_wp2_with fail
            go_ret2
            exact ⟨by rw [HP.out, H6.out]; rfl, hbl⟩
      · obtain rfl : k = E.length := by omega
        have hge : ¬ (E.length : Int) < (r.length : Int) := by (try simp only [List.length_cons] at hEl); omega
        have hdk : decide ((E.length : Int) < (r.length : Int)) = false := decide_eq_false hge
        rw [List.take_length] at hall i1 i2 i3 i4
        rw [List.take_length]
        have HV : Hid (P = fitL (if true = true then -valL E else valL E)) := by
          rw [Hid, HL.out, hall]; rfl
        have hi3 := Lib.hid i3
        have hi4 := Lib.hid i4
        clear i3 i4 hall
        generalize stF E = st at hi3 hi4 i1 i2
        obtain ⟨far, n⟩ := st
        simp only at i1 i2
        cases far
        · have hn : valL E = n := (hi3.out rfl).symm
          rw [hn] at HV
          clear hn
          go_wp2_with fail
          refine (fit_any _ _).mono ?_
          rintro e w' ⟨rfl, rfl⟩
          have HV2 : Hid (P = fitL (-n)) := HV.out
          generalize fitL (-n) = x at HV2
          obtain ⟨m, e⟩ := x
          rw [resV]
          go_wp2_with fail
          go_ret2
          exact ⟨by rw [HP.out, HV2.out]; rfl, hbl⟩
        · have hn : 1152921504606846976 < valL E := hi4.out rfl
          have H11 := Lib.hid (show P = (0, 11) by
            rw [HV.out, fitL, if_neg]
            rw [num_iff]
            simp
            omega)
          clear hn
          go_wp2_with fail
          go_ret2
          exact ⟨by rw [HP.out, H11.out]; rfl, hbl⟩
  · have H := Lib.hid (show parseL (45 :: r) = (0, 6) by
      rw [parseL, hBody, if_neg]
      simp only [okL, Bool.and_eq_true, decide_eq_true_eq]
      exact fun h => hlen h.1)
    have hlen' : ((r).length : Int) < 1 ∨ 30 < ((r).length : Int) := by omega
    clear hlen hBody hNeg hl
    try simp only [List.length_cons] at hlen'
    rcases hlen' with h | h
    · go_enter Tryd.func103, Tryd.ntmps103
      go_wp2_with fail
      go_ret2
      exact ⟨by rw [H.out]; rfl, Below.refl _ _⟩
    · have h' : ¬ ((r).length : Int) < 1 := by simp; omega
      try simp only [List.length_cons] at h'
      go_enter Tryd.func103, Tryd.ntmps103
      go_wp2_with fail
      go_ret2
      exact ⟨by rw [H.out]; rfl, Below.refl _ _⟩

theorem parse_plus (r : List UInt8) (W : World) :
    Calls Tryd.prog 103 #[.string ⟨⟨43 :: r⟩⟩] W fun e w' => e = .returned (resV (parseL (43 :: r))) ∧ Below W.heap.size W w' := by
  have hcv := fun (w : World) (s : ByteArray) => Lib.run_convert_string_bytes w 9 76 5 s Tryd.underlying9 Tryd.underlying76 Tryd.underlying5
  have eb := ba_zero 43 r
  have hext : (⟨⟨43 :: r⟩⟩ : ByteArray).extract 1 (r.length + 1) = ⟨⟨r⟩⟩ := by
    rw [Lib.extract_eq]; simp
  have hBody : bodyL (43 :: r) = r := rfl
  have hNeg : negL (43 :: r) = false := rfl
  have hl : (r).length = (r).length := rfl
  by_cases hlen : 1 ≤ (r).length ∧ (r).length ≤ 30
  · obtain ⟨l1, l2⟩ := hlen
    have l1' : 1 ≤ ((r).length : Int) := by omega
    have l2' : ((r).length : Int) ≤ 30 := by omega
    obtain ⟨P, hP⟩ : ∃ P, parseL (43 :: r) = P := ⟨_, rfl⟩
    have HP := Lib.hid hP
    have HL : Hid (P = if (r).all digB = true then fitL (if false = true then -valL (r) else valL (r)) else (0, 6)) := by
      simp only [Hid]
      rw [← hP, parseL, okL, hBody, hNeg, decide_eq_true l1, decide_eq_true l2]
      rfl
    have hcells := Lib.hid (bytes_cell W 5 (r))
    have hbl := below_bytes (W := W) 5 ⟨⟨r⟩⟩
    try simp only [List.length_cons] at l1' l2'
    clear hBody hNeg hl hP
    go_enter Tryd.func103, Tryd.ntmps103
    go_wp2_with fail
    clear hcv
    generalize Lib.bytesWorld W 5 ⟨⟨r⟩⟩ = w1 at hcells hbl ⊢
    obtain ⟨E, hE⟩ : ∃ E, E = r := ⟨_, rfl⟩
    have HE := Lib.hid hE
    rw [← hE] at HL hcells l1 l2
    clear hE
    have hEl : (E.length : Int) = (r).length := by rw [HE.out]
    go_loop [5, 6, 36] (fun f n i => ∃ k : Nat, k ≤ E.length ∧ i = .int .i64 k ∧ f = .bool (stF (E.take k)).1 ∧ n = .int .i64 (stF (E.take k)).2 ∧ (E.take k).all digB = true) (fun _ _ i => E.length - (intOf i).toNat)
    case atStart => exact ⟨0, by omega, rfl, rfl, rfl, rfl⟩
    case round =>
      obtain ⟨k, hk, rfl, rfl, rfl, hall⟩ := hrel
      obtain ⟨⟨i1, i2⟩, i3, i4⟩ := stF_inv _ hall
      by_cases hlt : k < E.length
      · have hst := Lib.hid (stF_snoc (E.take k) E[k])
        have htk := Lib.hid (List.take_succ_eq_append_getElem hlt)
        have hck := hcells.out k hlt
        generalize E[k] = x at hst htk hck
        clear i3 i4
        generalize stF (E.take k) = st at hst i1 i2
        obtain ⟨far, n⟩ := st
        simp only at i1 i2
        by_cases hd : digB x = true
        · obtain ⟨d1, d2⟩ := digB_iff.1 hd
          have c1 : ((x.toNat : Int) < 48) = False := by simp; omega
          have c2 : (57 < (x.toNat : Int)) = False := by simp; omega
          have b1 : decide ((x.toNat : Int) < 48) = false := by simp; omega
          have b2 : decide (57 < (x.toNat : Int)) = false := by simp; omega
          have hall' : (E.take (k + 1)).all digB = true := by rw [htk.out, List.all_append, hall]; simp [hd]
          have HALL := Lib.hid hall'
          clear hall hall' hd
          cases far
          · by_cases hm : 288230376151711743 < n
            · have HST : Hid (stF (E.take (k + 1)) = (true, n)) := by rw [Hid, htk.out, hst.out]; simp [hm]
              clear hst htk
              go_wp2_with fail
              go_round
              case rel => exact ⟨k + 1, by omega, by go_num, by rw [HST.out], by rw [HST.out], HALL.out⟩
              case measure => simp [intOf]; omega
            · have HST : Hid (stF (E.take (k + 1)) = (false, 10 * n + digV x)) := by rw [Hid, htk.out, hst.out]; simp [hm]
              have hdv : digV x = (x.toNat : Int) - 48 := rfl
              have hm' : n ≤ 288230376151711743 := by omega
              rw [hdv] at HST
              clear hst htk hdv
              go_wp2_with fail
              go_round
              case rel => exact ⟨k + 1, by omega, by go_num, by rw [HST.out], by rw [HST.out], HALL.out⟩
              case measure => simp [intOf]; omega
          · have HST : Hid (stF (E.take (k + 1)) = (true, n)) := by rw [Hid, htk.out, hst.out]; simp
            clear hst htk
            go_wp2_with fail
            go_round
            case rel => exact ⟨k + 1, by omega, by go_num, by rw [HST.out], by rw [HST.out], HALL.out⟩
            case measure => simp [intOf]; omega
        · have hno : E.all digB = false := by
            rw [← Bool.not_eq_true]
            intro hh
            have := all_take hh (k + 1)
            rw [htk.out, List.all_append, Bool.and_eq_true] at this
            simp only [List.all_cons, List.all_nil, Bool.and_true] at this
            exact hd this.2
          have H6 := Lib.hid (show P = (0, 6) by rw [HL.out, hno]; rfl)
          have hx : x.toNat < 48 ∨ 57 < x.toNat := by
            rcases Nat.lt_or_ge x.toNat 48 with h | h
            · exact .inl h
            · rcases Nat.lt_or_ge 57 x.toNat with h' | h'
              · exact .inr h'
              · exact absurd (digB_iff.2 ⟨h, h'⟩) hd
          clear hst htk hno hd hall
          rcases hx with h | h
          · have b1 : decide ((x.toNat : Int) < 48) = true := by simp; omega
            go_wp2_with fail
            go_ret2
            exact ⟨by rw [HP.out, H6.out]; rfl, hbl⟩
          · have b1 : decide ((x.toNat : Int) < 48) = false := by simp; omega
            have b2 : decide (57 < (x.toNat : Int)) = true := by simp; omega
            go_wp2_with fail
            go_ret2
            exact ⟨by rw [HP.out, H6.out]; rfl, hbl⟩
      · obtain rfl : k = E.length := by omega
        have hge : ¬ (E.length : Int) < (r.length : Int) := by (try simp only [List.length_cons] at hEl); omega
        have hdk : decide ((E.length : Int) < (r.length : Int)) = false := decide_eq_false hge
        rw [List.take_length] at hall i1 i2 i3 i4
        rw [List.take_length]
        have HV : Hid (P = fitL (if false = true then -valL E else valL E)) := by
          rw [Hid, HL.out, hall]; rfl
        have hi3 := Lib.hid i3
        have hi4 := Lib.hid i4
        clear i3 i4 hall
        generalize stF E = st at hi3 hi4 i1 i2
        obtain ⟨far, n⟩ := st
        simp only at i1 i2
        cases far
        · have hn : valL E = n := (hi3.out rfl).symm
          rw [hn] at HV
          clear hn
          go_wp2_with fail
          refine (fit_any _ _).mono ?_
          rintro e w' ⟨rfl, rfl⟩
          have HV2 : Hid (P = fitL n) := HV.out
          generalize fitL n = x at HV2
          obtain ⟨m, e⟩ := x
          rw [resV]
          go_wp2_with fail
          go_ret2
          exact ⟨by rw [HP.out, HV2.out]; rfl, hbl⟩
        · have hn : 1152921504606846976 < valL E := hi4.out rfl
          have H11 := Lib.hid (show P = (0, 11) by
            rw [HV.out, fitL, if_neg]
            rw [num_iff]
            simp
            omega)
          clear hn
          go_wp2_with fail
          go_ret2
          exact ⟨by rw [HP.out, H11.out]; rfl, hbl⟩
  · have H := Lib.hid (show parseL (43 :: r) = (0, 6) by
      rw [parseL, hBody, if_neg]
      simp only [okL, Bool.and_eq_true, decide_eq_true_eq]
      exact fun h => hlen h.1)
    have hlen' : ((r).length : Int) < 1 ∨ 30 < ((r).length : Int) := by omega
    clear hlen hBody hNeg hl
    try simp only [List.length_cons] at hlen'
    rcases hlen' with h | h
    · go_enter Tryd.func103, Tryd.ntmps103
      go_wp2_with fail
      go_ret2
      exact ⟨by rw [H.out]; rfl, Below.refl _ _⟩
    · have h' : ¬ ((r).length : Int) < 1 := by simp; omega
      try simp only [List.length_cons] at h'
      go_enter Tryd.func103, Tryd.ntmps103
      go_wp2_with fail
      go_ret2
      exact ⟨by rw [H.out]; rfl, Below.refl _ _⟩

theorem parse_none (D : List UInt8) (c : UInt8) (eb : ∀ (h : 0 < (⟨⟨D⟩⟩ : ByteArray).size), (⟨⟨D⟩⟩ : ByteArray)[0]'h = c) (hBody : bodyL D = D) (hNeg : negL D = false) (hpos : 0 < D.length) (h45 : c ≠ 45) (h43 : c ≠ 43) (W : World) :
    Calls Tryd.prog 103 #[.string ⟨⟨D⟩⟩] W fun e w' => e = .returned (resV (parseL (D))) ∧ Below W.heap.size W w' := by
  have hcv := fun (w : World) (s : ByteArray) => Lib.run_convert_string_bytes w 9 76 5 s Tryd.underlying9 Tryd.underlying76 Tryd.underlying5
  have g45 : ((c.toNat : Int) == 45) = false := (u8beq c 45).trans (by simpa using h45)
  have g43 : ((c.toNat : Int) == 43) = false := (u8beq c 43).trans (by simpa using h43)
  have hem : D.isEmpty = false := by cases D <;> simp at hpos ⊢
  have hl : (D).length = (D).length := rfl
  by_cases hlen : 1 ≤ (D).length ∧ (D).length ≤ 30
  · obtain ⟨l1, l2⟩ := hlen
    have l1' : 1 ≤ ((D).length : Int) := by omega
    have l2' : ((D).length : Int) ≤ 30 := by omega
    obtain ⟨P, hP⟩ : ∃ P, parseL (D) = P := ⟨_, rfl⟩
    have HP := Lib.hid hP
    have HL : Hid (P = if (D).all digB = true then fitL (if false = true then -valL (D) else valL (D)) else (0, 6)) := by
      simp only [Hid]
      rw [← hP, parseL, okL, hBody, hNeg, decide_eq_true l1, decide_eq_true l2]
      rfl
    have hcells := Lib.hid (bytes_cell W 5 (D))
    have hbl := below_bytes (W := W) 5 ⟨⟨D⟩⟩
    try simp only [List.length_cons] at l1' l2'
    clear hBody hNeg hl hP
    go_enter Tryd.func103, Tryd.ntmps103
    go_wp2_with fail
    clear hcv
    generalize Lib.bytesWorld W 5 ⟨⟨D⟩⟩ = w1 at hcells hbl ⊢
    obtain ⟨E, hE⟩ : ∃ E, E = D := ⟨_, rfl⟩
    have HE := Lib.hid hE
    rw [← hE] at HL hcells l1 l2
    clear hE
    have hEl : (E.length : Int) = (D).length := by rw [HE.out]
    go_loop [5, 6, 36] (fun f n i => ∃ k : Nat, k ≤ E.length ∧ i = .int .i64 k ∧ f = .bool (stF (E.take k)).1 ∧ n = .int .i64 (stF (E.take k)).2 ∧ (E.take k).all digB = true) (fun _ _ i => E.length - (intOf i).toNat)
    case atStart => exact ⟨0, by omega, rfl, rfl, rfl, rfl⟩
    case round =>
      obtain ⟨k, hk, rfl, rfl, rfl, hall⟩ := hrel
      obtain ⟨⟨i1, i2⟩, i3, i4⟩ := stF_inv _ hall
      by_cases hlt : k < E.length
      · have hst := Lib.hid (stF_snoc (E.take k) E[k])
        have htk := Lib.hid (List.take_succ_eq_append_getElem hlt)
        have hck := hcells.out k hlt
        generalize E[k] = x at hst htk hck
        clear i3 i4
        generalize stF (E.take k) = st at hst i1 i2
        obtain ⟨far, n⟩ := st
        simp only at i1 i2
        by_cases hd : digB x = true
        · obtain ⟨d1, d2⟩ := digB_iff.1 hd
          have c1 : ((x.toNat : Int) < 48) = False := by simp; omega
          have c2 : (57 < (x.toNat : Int)) = False := by simp; omega
          have b1 : decide ((x.toNat : Int) < 48) = false := by simp; omega
          have b2 : decide (57 < (x.toNat : Int)) = false := by simp; omega
          have hall' : (E.take (k + 1)).all digB = true := by rw [htk.out, List.all_append, hall]; simp [hd]
          have HALL := Lib.hid hall'
          clear hall hall' hd
          cases far
          · by_cases hm : 288230376151711743 < n
            · have HST : Hid (stF (E.take (k + 1)) = (true, n)) := by rw [Hid, htk.out, hst.out]; simp [hm]
              clear hst htk
              go_wp2_with fail
              go_round
              case rel => exact ⟨k + 1, by omega, by go_num, by rw [HST.out], by rw [HST.out], HALL.out⟩
              case measure => simp [intOf]; omega
            · have HST : Hid (stF (E.take (k + 1)) = (false, 10 * n + digV x)) := by rw [Hid, htk.out, hst.out]; simp [hm]
              have hdv : digV x = (x.toNat : Int) - 48 := rfl
              have hm' : n ≤ 288230376151711743 := by omega
              rw [hdv] at HST
              clear hst htk hdv
              go_wp2_with fail
              go_round
              case rel => exact ⟨k + 1, by omega, by go_num, by rw [HST.out], by rw [HST.out], HALL.out⟩
              case measure => simp [intOf]; omega
          · have HST : Hid (stF (E.take (k + 1)) = (true, n)) := by rw [Hid, htk.out, hst.out]; simp
            clear hst htk
            go_wp2_with fail
            go_round
            case rel => exact ⟨k + 1, by omega, by go_num, by rw [HST.out], by rw [HST.out], HALL.out⟩
            case measure => simp [intOf]; omega
        · have hno : E.all digB = false := by
            rw [← Bool.not_eq_true]
            intro hh
            have := all_take hh (k + 1)
            rw [htk.out, List.all_append, Bool.and_eq_true] at this
            simp only [List.all_cons, List.all_nil, Bool.and_true] at this
            exact hd this.2
          have H6 := Lib.hid (show P = (0, 6) by rw [HL.out, hno]; rfl)
          have hx : x.toNat < 48 ∨ 57 < x.toNat := by
            rcases Nat.lt_or_ge x.toNat 48 with h | h
            · exact .inl h
            · rcases Nat.lt_or_ge 57 x.toNat with h' | h'
              · exact .inr h'
              · exact absurd (digB_iff.2 ⟨h, h'⟩) hd
          clear hst htk hno hd hall
          rcases hx with h | h
          · have b1 : decide ((x.toNat : Int) < 48) = true := by simp; omega
            go_wp2_with fail
            go_ret2
            exact ⟨by rw [HP.out, H6.out]; rfl, hbl⟩
          · have b1 : decide ((x.toNat : Int) < 48) = false := by simp; omega
            have b2 : decide (57 < (x.toNat : Int)) = true := by simp; omega
            go_wp2_with fail
            go_ret2
            exact ⟨by rw [HP.out, H6.out]; rfl, hbl⟩
      · obtain rfl : k = E.length := by omega
        have hge : ¬ (E.length : Int) < (D.length : Int) := by (try simp only [List.length_cons] at hEl); omega
        have hdk : decide ((E.length : Int) < (D.length : Int)) = false := decide_eq_false hge
        rw [List.take_length] at hall i1 i2 i3 i4
        rw [List.take_length]
        have HV : Hid (P = fitL (if false = true then -valL E else valL E)) := by
          rw [Hid, HL.out, hall]; rfl
        have hi3 := Lib.hid i3
        have hi4 := Lib.hid i4
        clear i3 i4 hall
        generalize stF E = st at hi3 hi4 i1 i2
        obtain ⟨far, n⟩ := st
        simp only at i1 i2
        cases far
        · have hn : valL E = n := (hi3.out rfl).symm
          rw [hn] at HV
          clear hn
          go_wp2_with fail
          refine (fit_any _ _).mono ?_
          rintro e w' ⟨rfl, rfl⟩
          have HV2 : Hid (P = fitL n) := HV.out
          generalize fitL n = x at HV2
          obtain ⟨m, e⟩ := x
          rw [resV]
          go_wp2_with fail
          go_ret2
          exact ⟨by rw [HP.out, HV2.out]; rfl, hbl⟩
        · have hn : 1152921504606846976 < valL E := hi4.out rfl
          have H11 := Lib.hid (show P = (0, 11) by
            rw [HV.out, fitL, if_neg]
            rw [num_iff]
            simp
            omega)
          clear hn
          go_wp2_with fail
          go_ret2
          exact ⟨by rw [HP.out, H11.out]; rfl, hbl⟩
  · have H := Lib.hid (show parseL (D) = (0, 6) by
      rw [parseL, hBody, if_neg]
      simp only [okL, Bool.and_eq_true, decide_eq_true_eq]
      exact fun h => hlen h.1)
    have hlen' : ((D).length : Int) < 1 ∨ 30 < ((D).length : Int) := by omega
    clear hlen hBody hNeg hl
    try simp only [List.length_cons] at hlen'
    rcases hlen' with h | h
    · go_enter Tryd.func103, Tryd.ntmps103
      go_wp2_with fail
      go_ret2
      exact ⟨by rw [H.out]; rfl, Below.refl _ _⟩
    · have h' : ¬ ((D).length : Int) < 1 := by simp; omega
      try simp only [List.length_cons] at h'
      go_enter Tryd.func103, Tryd.ntmps103
      go_wp2_with fail
      go_ret2
      exact ⟨by rw [H.out]; rfl, Below.refl _ _⟩

theorem parse_any (s : ByteArray) (w : World) :
    Calls Tryd.prog 103 #[.string s] w fun e w' => e = .returned (resV (parseL s.data.toList)) ∧ Below w.heap.size w w' := by
  obtain ⟨⟨l⟩⟩ := s
  rw [show (ByteArray.mk ⟨l⟩).data.toList = l from rfl]
  rcases l with _ | ⟨c, r⟩
  · have H := Lib.hid (show parseL [] = (0, 6) from rfl)
    go_enter Tryd.func103, Tryd.ntmps103
    go_wp2_with fail
    go_ret2
    exact ⟨by rw [H.out]; rfl, Below.refl _ _⟩
  · by_cases h45 : c = 45
    · subst h45
      exact parse_minus r w
    · by_cases h43 : c = 43
      · subst h43
        exact parse_plus r w
      · exact parse_none (c :: r) c (ba_zero c r) (by simp [bodyL, h45, h43]) (by simp [negL, h45]) (by simp) h45 h43 w
end Go.Proofs.YthighbbikpnpgaaDoor

/-! FR -/
namespace Go.Proofs.YthighbbikpnpgaaDoor
open Go.RowKit

theorem refparse_minus (r : List UInt8) (W : World) :
    Calls Tryd.prog 92 #[.string ⟨⟨45 :: r⟩⟩] W fun e w' => e = .returned (refV (parseL (45 :: r))) ∧ Below W.heap.size W w' := by
  have eb := ba_zero 45 r
  have hext : (⟨⟨45 :: r⟩⟩ : ByteArray).extract 1 (r.length + 1) = ⟨⟨r⟩⟩ := by
    rw [Lib.extract_eq]; simp
  have hBody : bodyL (45 :: r) = r := rfl
  have hNeg : negL (45 :: r) = true := rfl
  have hl : (r).length = (r).length := rfl
  by_cases hlen : 1 ≤ (r).length ∧ (r).length ≤ 30
  · obtain ⟨l1, l2⟩ := hlen
    have l1' : 1 ≤ ((r).length : Int) := by omega
    have l2' : ((r).length : Int) ≤ 30 := by omega
    obtain ⟨P, hP⟩ : ∃ P, parseL (45 :: r) = P := ⟨_, rfl⟩
    have HP := Lib.hid hP
    have HL : Hid (P = if (r).all digB = true then fitL (if true = true then -valL (r) else valL (r)) else (0, 6)) := by
      simp only [Hid]
      rw [← hP, parseL, okL, hBody, hNeg, decide_eq_true l1, decide_eq_true l2]
      rfl
    try simp only [List.length_cons] at l1' l2'
    clear hBody hNeg hl hP
    go_enter Tryd.func92, Tryd.ntmps92
    go_wp2_with fail
    go_loop [5, 6, 7] (fun n f i => ∃ k : Nat, k ≤ (r).length ∧ i = .int .i64 k ∧ f = .bool (stR ((r).take k)).1 ∧ n = .int .i64 (stR ((r).take k)).2 ∧ ((r).take k).all digB = true) (fun _ _ i => (r).length - (intOf i).toNat)
    case atStart => exact ⟨0, by omega, rfl, rfl, rfl, rfl⟩
    case round =>
      obtain ⟨k, hk, rfl, rfl, rfl, hall⟩ := hrel
      obtain ⟨⟨i1, i2⟩, i3, i4⟩ := stR_inv _ hall
      by_cases hlt : k < (r).length
      · have hst := Lib.hid (stR_snoc ((r).take k) (r)[k])
        have htk := Lib.hid (List.take_succ_eq_append_getElem hlt)
        obtain ⟨x, hx0⟩ : ∃ x, (r)[k] = x := ⟨_, rfl⟩
        have hbx : ∀ h : k < (⟨⟨r⟩⟩ : ByteArray).size, (⟨⟨r⟩⟩ : ByteArray)[k]'h = x := fun _ => hx0
        rw [hx0] at hst htk
        clear hx0
        clear i3 i4
        generalize stR ((r).take k) = st at hst i1 i2
        obtain ⟨far, n⟩ := st
        simp only at i1 i2
        by_cases hd : digB x = true
        · obtain ⟨d1, d2⟩ := digB_iff.1 hd
          have c1 : ((x.toNat : Int) < 48) = False := by simp; omega
          have c2 : (57 < (x.toNat : Int)) = False := by simp; omega
          have b1 : decide ((x.toNat : Int) < 48) = false := by simp; omega
          have b2 : decide (57 < (x.toNat : Int)) = false := by simp; omega
          have hall' : ((r).take (k + 1)).all digB = true := by rw [htk.out, List.all_append, hall]; simp [hd]
          have HALL := Lib.hid hall'
          have hdv : digV x = (x.toNat : Int) - 48 := rfl
          clear hall hall' hd
          by_cases hm : 115292150460684697 < n
          · have HST : Hid (stR ((r).take (k + 1)) = (true, digV x)) := by rw [Hid, htk.out, hst.out]; simp [hm]
            rw [hdv] at HST
            clear hst htk hdv
            go_wp2_with fail
            go_round
            case rel => exact ⟨k + 1, by omega, by go_num, by rw [HST.out], by rw [HST.out], HALL.out⟩
            case measure => simp [intOf]; omega
          · have HST : Hid (stR ((r).take (k + 1)) = (far, n * 10 + digV x)) := by rw [Hid, htk.out, hst.out]; simp [hm]
            have hm' : n ≤ 115292150460684697 := by omega
            rw [hdv] at HST
            clear hst htk hdv
            go_wp2_with fail
            go_round
            case rel => exact ⟨k + 1, by omega, by go_num, by rw [HST.out], by rw [HST.out], HALL.out⟩
            case measure => simp [intOf]; omega
        · have hno : (r).all digB = false := by
            rw [← Bool.not_eq_true]
            intro hh
            have := all_take hh (k + 1)
            rw [htk.out, List.all_append, Bool.and_eq_true] at this
            simp only [List.all_cons, List.all_nil, Bool.and_true] at this
            exact hd this.2
          have H6 := Lib.hid (show P = (0, 6) by rw [HL.out, hno]; rfl)
          have hx : x.toNat < 48 ∨ 57 < x.toNat := by
            rcases Nat.lt_or_ge x.toNat 48 with h | h
            · exact .inl h
            · rcases Nat.lt_or_ge 57 x.toNat with h' | h'
              · exact .inr h'
              · exact absurd (digB_iff.2 ⟨h, h'⟩) hd
          clear hst htk hno hd hall
          rcases hx with h | h
          · have b1 : decide ((x.toNat : Int) < 48) = true := by simp; omega
            go_wp2_with fail
            go_ret2
            exact ⟨by rw [HP.out, H6.out]; rfl, Below.refl _ _⟩
          · have b1 : decide ((x.toNat : Int) < 48) = false := by simp; omega
            have b2 : decide (57 < (x.toNat : Int)) = true := by simp; omega
            go_wp2_with fail
            go_ret2
            exact ⟨by rw [HP.out, H6.out]; rfl, Below.refl _ _⟩
      · obtain rfl : k = (r).length := by omega
        rw [List.take_length] at hall i1 i2 i3 i4
        rw [List.take_length]
        have HV : Hid (P = fitL (if true = true then -valL (r) else valL (r))) := by
          rw [Hid, HL.out, hall]; rfl
        have hi3 := Lib.hid i3
        have hi4 := Lib.hid i4
        clear i3 i4 hall
        generalize stR (r) = st at hi3 hi4 i1 i2
        obtain ⟨far, n⟩ := st
        simp only at i1 i2
        cases far
        · have hn : valL (r) = n := (hi3.out rfl).symm
          rw [hn] at HV
          have HV2 : Hid (P = if Num (-n) = true then ((-n), 0) else (0, 11)) := HV.out
          clear hn
          go_wp2_with fail
          refine (refnum_any _ _).mono ?_
          rintro e w' ⟨rfl, rfl⟩
          generalize Num (-n) = q at HV2
          cases q
          all_goals
            have HV3 := Lib.hid HV2.out
            clear HV2
            go_wp2_with fail
            go_ret2
            exact ⟨by rw [HP.out, HV3.out]; rfl, Below.refl _ _⟩
        · have hn : 1152921504606846976 < valL (r) := hi4.out rfl
          have H11 := Lib.hid (show P = (0, 11) by
            rw [HV.out, fitL, if_neg]
            rw [num_iff]
            simp
            omega)
          clear hn
          go_wp2_with fail
          go_ret2
          exact ⟨by rw [HP.out, H11.out]; rfl, Below.refl _ _⟩
  · have H := Lib.hid (show parseL (45 :: r) = (0, 6) by
      rw [parseL, hBody, if_neg]
      simp only [okL, Bool.and_eq_true, decide_eq_true_eq]
      exact fun h => hlen h.1)
    have hlen' : ((r).length : Int) < 1 ∨ 30 < ((r).length : Int) := by omega
    clear hlen hBody hNeg hl
    try simp only [List.length_cons] at hlen'
    rcases hlen' with h | h
    · go_enter Tryd.func92, Tryd.ntmps92
      go_wp2_with fail
      go_ret2
      exact ⟨by rw [H.out]; rfl, Below.refl _ _⟩
    · have h' : ¬ ((r).length : Int) < 1 := by simp; omega
      try simp only [List.length_cons] at h'
      go_enter Tryd.func92, Tryd.ntmps92
      go_wp2_with fail
      go_ret2
      exact ⟨by rw [H.out]; rfl, Below.refl _ _⟩

theorem refparse_plus (r : List UInt8) (W : World) :
    Calls Tryd.prog 92 #[.string ⟨⟨43 :: r⟩⟩] W fun e w' => e = .returned (refV (parseL (43 :: r))) ∧ Below W.heap.size W w' := by
  have eb := ba_zero 43 r
  have hext : (⟨⟨43 :: r⟩⟩ : ByteArray).extract 1 (r.length + 1) = ⟨⟨r⟩⟩ := by
    rw [Lib.extract_eq]; simp
  have hBody : bodyL (43 :: r) = r := rfl
  have hNeg : negL (43 :: r) = false := rfl
  have hl : (r).length = (r).length := rfl
  by_cases hlen : 1 ≤ (r).length ∧ (r).length ≤ 30
  · obtain ⟨l1, l2⟩ := hlen
    have l1' : 1 ≤ ((r).length : Int) := by omega
    have l2' : ((r).length : Int) ≤ 30 := by omega
    obtain ⟨P, hP⟩ : ∃ P, parseL (43 :: r) = P := ⟨_, rfl⟩
    have HP := Lib.hid hP
    have HL : Hid (P = if (r).all digB = true then fitL (if false = true then -valL (r) else valL (r)) else (0, 6)) := by
      simp only [Hid]
      rw [← hP, parseL, okL, hBody, hNeg, decide_eq_true l1, decide_eq_true l2]
      rfl
    try simp only [List.length_cons] at l1' l2'
    clear hBody hNeg hl hP
    go_enter Tryd.func92, Tryd.ntmps92
    go_wp2_with fail
    go_loop [5, 6, 7] (fun n f i => ∃ k : Nat, k ≤ (r).length ∧ i = .int .i64 k ∧ f = .bool (stR ((r).take k)).1 ∧ n = .int .i64 (stR ((r).take k)).2 ∧ ((r).take k).all digB = true) (fun _ _ i => (r).length - (intOf i).toNat)
    case atStart => exact ⟨0, by omega, rfl, rfl, rfl, rfl⟩
    case round =>
      obtain ⟨k, hk, rfl, rfl, rfl, hall⟩ := hrel
      obtain ⟨⟨i1, i2⟩, i3, i4⟩ := stR_inv _ hall
      by_cases hlt : k < (r).length
      · have hst := Lib.hid (stR_snoc ((r).take k) (r)[k])
        have htk := Lib.hid (List.take_succ_eq_append_getElem hlt)
        obtain ⟨x, hx0⟩ : ∃ x, (r)[k] = x := ⟨_, rfl⟩
        have hbx : ∀ h : k < (⟨⟨r⟩⟩ : ByteArray).size, (⟨⟨r⟩⟩ : ByteArray)[k]'h = x := fun _ => hx0
        rw [hx0] at hst htk
        clear hx0
        clear i3 i4
        generalize stR ((r).take k) = st at hst i1 i2
        obtain ⟨far, n⟩ := st
        simp only at i1 i2
        by_cases hd : digB x = true
        · obtain ⟨d1, d2⟩ := digB_iff.1 hd
          have c1 : ((x.toNat : Int) < 48) = False := by simp; omega
          have c2 : (57 < (x.toNat : Int)) = False := by simp; omega
          have b1 : decide ((x.toNat : Int) < 48) = false := by simp; omega
          have b2 : decide (57 < (x.toNat : Int)) = false := by simp; omega
          have hall' : ((r).take (k + 1)).all digB = true := by rw [htk.out, List.all_append, hall]; simp [hd]
          have HALL := Lib.hid hall'
          have hdv : digV x = (x.toNat : Int) - 48 := rfl
          clear hall hall' hd
          by_cases hm : 115292150460684697 < n
          · have HST : Hid (stR ((r).take (k + 1)) = (true, digV x)) := by rw [Hid, htk.out, hst.out]; simp [hm]
            rw [hdv] at HST
            clear hst htk hdv
            go_wp2_with fail
            go_round
            case rel => exact ⟨k + 1, by omega, by go_num, by rw [HST.out], by rw [HST.out], HALL.out⟩
            case measure => simp [intOf]; omega
          · have HST : Hid (stR ((r).take (k + 1)) = (far, n * 10 + digV x)) := by rw [Hid, htk.out, hst.out]; simp [hm]
            have hm' : n ≤ 115292150460684697 := by omega
            rw [hdv] at HST
            clear hst htk hdv
            go_wp2_with fail
            go_round
            case rel => exact ⟨k + 1, by omega, by go_num, by rw [HST.out], by rw [HST.out], HALL.out⟩
            case measure => simp [intOf]; omega
        · have hno : (r).all digB = false := by
            rw [← Bool.not_eq_true]
            intro hh
            have := all_take hh (k + 1)
            rw [htk.out, List.all_append, Bool.and_eq_true] at this
            simp only [List.all_cons, List.all_nil, Bool.and_true] at this
            exact hd this.2
          have H6 := Lib.hid (show P = (0, 6) by rw [HL.out, hno]; rfl)
          have hx : x.toNat < 48 ∨ 57 < x.toNat := by
            rcases Nat.lt_or_ge x.toNat 48 with h | h
            · exact .inl h
            · rcases Nat.lt_or_ge 57 x.toNat with h' | h'
              · exact .inr h'
              · exact absurd (digB_iff.2 ⟨h, h'⟩) hd
          clear hst htk hno hd hall
          rcases hx with h | h
          · have b1 : decide ((x.toNat : Int) < 48) = true := by simp; omega
            go_wp2_with fail
            go_ret2
            exact ⟨by rw [HP.out, H6.out]; rfl, Below.refl _ _⟩
          · have b1 : decide ((x.toNat : Int) < 48) = false := by simp; omega
            have b2 : decide (57 < (x.toNat : Int)) = true := by simp; omega
            go_wp2_with fail
            go_ret2
            exact ⟨by rw [HP.out, H6.out]; rfl, Below.refl _ _⟩
      · obtain rfl : k = (r).length := by omega
        rw [List.take_length] at hall i1 i2 i3 i4
        rw [List.take_length]
        have HV : Hid (P = fitL (if false = true then -valL (r) else valL (r))) := by
          rw [Hid, HL.out, hall]; rfl
        have hi3 := Lib.hid i3
        have hi4 := Lib.hid i4
        clear i3 i4 hall
        generalize stR (r) = st at hi3 hi4 i1 i2
        obtain ⟨far, n⟩ := st
        simp only at i1 i2
        cases far
        · have hn : valL (r) = n := (hi3.out rfl).symm
          rw [hn] at HV
          have HV2 : Hid (P = if Num n = true then (n, 0) else (0, 11)) := HV.out
          clear hn
          go_wp2_with fail
          refine (refnum_any _ _).mono ?_
          rintro e w' ⟨rfl, rfl⟩
          generalize Num n = q at HV2
          cases q
          all_goals
            have HV3 := Lib.hid HV2.out
            clear HV2
            go_wp2_with fail
            go_ret2
            exact ⟨by rw [HP.out, HV3.out]; rfl, Below.refl _ _⟩
        · have hn : 1152921504606846976 < valL (r) := hi4.out rfl
          have H11 := Lib.hid (show P = (0, 11) by
            rw [HV.out, fitL, if_neg]
            rw [num_iff]
            simp
            omega)
          clear hn
          go_wp2_with fail
          go_ret2
          exact ⟨by rw [HP.out, H11.out]; rfl, Below.refl _ _⟩
  · have H := Lib.hid (show parseL (43 :: r) = (0, 6) by
      rw [parseL, hBody, if_neg]
      simp only [okL, Bool.and_eq_true, decide_eq_true_eq]
      exact fun h => hlen h.1)
    have hlen' : ((r).length : Int) < 1 ∨ 30 < ((r).length : Int) := by omega
    clear hlen hBody hNeg hl
    try simp only [List.length_cons] at hlen'
    rcases hlen' with h | h
    · go_enter Tryd.func92, Tryd.ntmps92
      go_wp2_with fail
      go_ret2
      exact ⟨by rw [H.out]; rfl, Below.refl _ _⟩
    · have h' : ¬ ((r).length : Int) < 1 := by simp; omega
      try simp only [List.length_cons] at h'
      go_enter Tryd.func92, Tryd.ntmps92
      go_wp2_with fail
      go_ret2
      exact ⟨by rw [H.out]; rfl, Below.refl _ _⟩

theorem refparse_none (D : List UInt8) (c : UInt8) (eb : ∀ (h : 0 < (⟨⟨D⟩⟩ : ByteArray).size), (⟨⟨D⟩⟩ : ByteArray)[0]'h = c) (hBody : bodyL D = D) (hNeg : negL D = false) (hpos : 0 < D.length) (h45 : c ≠ 45) (h43 : c ≠ 43) (W : World) :
    Calls Tryd.prog 92 #[.string ⟨⟨D⟩⟩] W fun e w' => e = .returned (refV (parseL (D))) ∧ Below W.heap.size W w' := by
  have g45 : ((c.toNat : Int) == 45) = false := (u8beq c 45).trans (by simpa using h45)
  have g43 : ((c.toNat : Int) == 43) = false := (u8beq c 43).trans (by simpa using h43)
  have hem : D.isEmpty = false := by cases D <;> simp at hpos ⊢
  have hl : (D).length = (D).length := rfl
  by_cases hlen : 1 ≤ (D).length ∧ (D).length ≤ 30
  · obtain ⟨l1, l2⟩ := hlen
    have l1' : 1 ≤ ((D).length : Int) := by omega
    have l2' : ((D).length : Int) ≤ 30 := by omega
    obtain ⟨P, hP⟩ : ∃ P, parseL (D) = P := ⟨_, rfl⟩
    have HP := Lib.hid hP
    have HL : Hid (P = if (D).all digB = true then fitL (if false = true then -valL (D) else valL (D)) else (0, 6)) := by
      simp only [Hid]
      rw [← hP, parseL, okL, hBody, hNeg, decide_eq_true l1, decide_eq_true l2]
      rfl
    try simp only [List.length_cons] at l1' l2'
    clear hBody hNeg hl hP
    go_enter Tryd.func92, Tryd.ntmps92
    go_wp2_with fail
    go_loop [5, 6, 7] (fun n f i => ∃ k : Nat, k ≤ (D).length ∧ i = .int .i64 k ∧ f = .bool (stR ((D).take k)).1 ∧ n = .int .i64 (stR ((D).take k)).2 ∧ ((D).take k).all digB = true) (fun _ _ i => (D).length - (intOf i).toNat)
    case atStart => exact ⟨0, by omega, rfl, rfl, rfl, rfl⟩
    case round =>
      obtain ⟨k, hk, rfl, rfl, rfl, hall⟩ := hrel
      obtain ⟨⟨i1, i2⟩, i3, i4⟩ := stR_inv _ hall
      by_cases hlt : k < (D).length
      · have hst := Lib.hid (stR_snoc ((D).take k) (D)[k])
        have htk := Lib.hid (List.take_succ_eq_append_getElem hlt)
        obtain ⟨x, hx0⟩ : ∃ x, (D)[k] = x := ⟨_, rfl⟩
        have hbx : ∀ h : k < (⟨⟨D⟩⟩ : ByteArray).size, (⟨⟨D⟩⟩ : ByteArray)[k]'h = x := fun _ => hx0
        rw [hx0] at hst htk
        clear hx0
        clear i3 i4
        generalize stR ((D).take k) = st at hst i1 i2
        obtain ⟨far, n⟩ := st
        simp only at i1 i2
        by_cases hd : digB x = true
        · obtain ⟨d1, d2⟩ := digB_iff.1 hd
          have c1 : ((x.toNat : Int) < 48) = False := by simp; omega
          have c2 : (57 < (x.toNat : Int)) = False := by simp; omega
          have b1 : decide ((x.toNat : Int) < 48) = false := by simp; omega
          have b2 : decide (57 < (x.toNat : Int)) = false := by simp; omega
          have hall' : ((D).take (k + 1)).all digB = true := by rw [htk.out, List.all_append, hall]; simp [hd]
          have HALL := Lib.hid hall'
          have hdv : digV x = (x.toNat : Int) - 48 := rfl
          clear hall hall' hd
          by_cases hm : 115292150460684697 < n
          · have HST : Hid (stR ((D).take (k + 1)) = (true, digV x)) := by rw [Hid, htk.out, hst.out]; simp [hm]
            rw [hdv] at HST
            clear hst htk hdv
            go_wp2_with fail
            go_round
            case rel => exact ⟨k + 1, by omega, by go_num, by rw [HST.out], by rw [HST.out], HALL.out⟩
            case measure => simp [intOf]; omega
          · have HST : Hid (stR ((D).take (k + 1)) = (far, n * 10 + digV x)) := by rw [Hid, htk.out, hst.out]; simp [hm]
            have hm' : n ≤ 115292150460684697 := by omega
            rw [hdv] at HST
            clear hst htk hdv
            go_wp2_with fail
            go_round
            case rel => exact ⟨k + 1, by omega, by go_num, by rw [HST.out], by rw [HST.out], HALL.out⟩
            case measure => simp [intOf]; omega
        · have hno : (D).all digB = false := by
            rw [← Bool.not_eq_true]
            intro hh
            have := all_take hh (k + 1)
            rw [htk.out, List.all_append, Bool.and_eq_true] at this
            simp only [List.all_cons, List.all_nil, Bool.and_true] at this
            exact hd this.2
          have H6 := Lib.hid (show P = (0, 6) by rw [HL.out, hno]; rfl)
          have hx : x.toNat < 48 ∨ 57 < x.toNat := by
            rcases Nat.lt_or_ge x.toNat 48 with h | h
            · exact .inl h
            · rcases Nat.lt_or_ge 57 x.toNat with h' | h'
              · exact .inr h'
              · exact absurd (digB_iff.2 ⟨h, h'⟩) hd
          clear hst htk hno hd hall
          rcases hx with h | h
          · have b1 : decide ((x.toNat : Int) < 48) = true := by simp; omega
            go_wp2_with fail
            go_ret2
            exact ⟨by rw [HP.out, H6.out]; rfl, Below.refl _ _⟩
          · have b1 : decide ((x.toNat : Int) < 48) = false := by simp; omega
            have b2 : decide (57 < (x.toNat : Int)) = true := by simp; omega
            go_wp2_with fail
            go_ret2
            exact ⟨by rw [HP.out, H6.out]; rfl, Below.refl _ _⟩
      · obtain rfl : k = (D).length := by omega
        rw [List.take_length] at hall i1 i2 i3 i4
        rw [List.take_length]
        have HV : Hid (P = fitL (if false = true then -valL (D) else valL (D))) := by
          rw [Hid, HL.out, hall]; rfl
        have hi3 := Lib.hid i3
        have hi4 := Lib.hid i4
        clear i3 i4 hall
        generalize stR (D) = st at hi3 hi4 i1 i2
        obtain ⟨far, n⟩ := st
        simp only at i1 i2
        cases far
        · have hn : valL (D) = n := (hi3.out rfl).symm
          rw [hn] at HV
          have HV2 : Hid (P = if Num n = true then (n, 0) else (0, 11)) := HV.out
          clear hn
          go_wp2_with fail
          refine (refnum_any _ _).mono ?_
          rintro e w' ⟨rfl, rfl⟩
          generalize Num n = q at HV2
          cases q
          all_goals
            have HV3 := Lib.hid HV2.out
            clear HV2
            go_wp2_with fail
            go_ret2
            exact ⟨by rw [HP.out, HV3.out]; rfl, Below.refl _ _⟩
        · have hn : 1152921504606846976 < valL (D) := hi4.out rfl
          have H11 := Lib.hid (show P = (0, 11) by
            rw [HV.out, fitL, if_neg]
            rw [num_iff]
            simp
            omega)
          clear hn
          go_wp2_with fail
          go_ret2
          exact ⟨by rw [HP.out, H11.out]; rfl, Below.refl _ _⟩
  · have H := Lib.hid (show parseL (D) = (0, 6) by
      rw [parseL, hBody, if_neg]
      simp only [okL, Bool.and_eq_true, decide_eq_true_eq]
      exact fun h => hlen h.1)
    have hlen' : ((D).length : Int) < 1 ∨ 30 < ((D).length : Int) := by omega
    clear hlen hBody hNeg hl
    try simp only [List.length_cons] at hlen'
    rcases hlen' with h | h
    · go_enter Tryd.func92, Tryd.ntmps92
      go_wp2_with fail
      go_ret2
      exact ⟨by rw [H.out]; rfl, Below.refl _ _⟩
    · have h' : ¬ ((D).length : Int) < 1 := by simp; omega
      try simp only [List.length_cons] at h'
      go_enter Tryd.func92, Tryd.ntmps92
      go_wp2_with fail
      go_ret2
      exact ⟨by rw [H.out]; rfl, Below.refl _ _⟩

theorem refparse_any (s : ByteArray) (w : World) :
    Calls Tryd.prog 92 #[.string s] w fun e w' => e = .returned (refV (parseL s.data.toList)) ∧ Below w.heap.size w w' := by
  obtain ⟨⟨l⟩⟩ := s
  rw [show (ByteArray.mk ⟨l⟩).data.toList = l from rfl]
  rcases l with _ | ⟨c, r⟩
  · have H := Lib.hid (show parseL [] = (0, 6) from rfl)
    go_enter Tryd.func92, Tryd.ntmps92
    go_wp2_with fail
    go_ret2
    exact ⟨by rw [H.out]; rfl, Below.refl _ _⟩
  · by_cases h45 : c = 45
    · subst h45
      exact refparse_minus r w
    · by_cases h43 : c = 43
      · subst h43
        exact refparse_plus r w
      · exact refparse_none (c :: r) c (ba_zero c r) (by simp [bodyL, h45, h43]) (by simp [negL, h45]) (by simp) h45 h43 w
end Go.Proofs.YthighbbikpnpgaaDoor

/-! FT -/
namespace Go.Proofs.YthighbbikpnpgaaDoor
open Go.RowKit

/-- The table that strconv reads is as it was laid. -/
def Tab (w : World) : Prop := Lib.TabIs Tryd.prog w "internal/strconv.uint64pow10" .u64 Lib.pow10Tab

theorem tab_below {w w' : World} (h : Tab w) (hb : Below w.heap.size w w') : Tab w' := by
  unfold Tab Lib.TabIs World.var? at *
  cases hg : Tryd.prog.globalNamed "internal/strconv.uint64pow10" with
  | none => simp [hg] at h
  | some g =>
    simp only [hg, Option.bind_some] at h ⊢
    have hlt : g < w.heap.size := by
      rcases Nat.lt_or_ge g w.heap.size with h' | h'
      · exact h'
      · simp [Array.getElem?_eq_none h'] at h
    rw [hb.block g hlt]
    exact h

theorem text_any (n : Int) (w : World) (h0 : -9223372036854775808 ≤ n) (h1 : n ≤ 9223372036854775807) (htab : Tab w) :
    Calls Tryd.prog 63 #[.int .i64 n] w fun e w' => e = .returned (.string ⟨(Lib.itoa n).toArray⟩) ∧ Below w.heap.size w w' := by
  go_enter Tryd.func63, Tryd.ntmps63
  go_wp2_with fail
  refine (Tryd.strconv_Itoa n h0 h1 _ htab).mono ?_
  rintro e w' ⟨rfl, k, os, rfl⟩
  have hb := Lib.below_grow w.heap.size w (Nat.le_refl _) k os
  go_wp2_with fail
  go_ret
  exact ⟨rfl, hb⟩
end Go.Proofs.YthighbbikpnpgaaDoor

/-! LaidL -/
namespace Go.Proofs.YthighbbikpnpgaaDoor
open Go.ChangeShapes Go.WideShapes Go.ChangeAt Go.RowKit

theorem Tryd.own : ownKnob Tryd.prog.godebug = none := by kernel_rfl
theorem gTab : Tryd.prog.globalNamed "internal/strconv.uint64pow10" = some 2 := by kernel_rfl
theorem gTabType : (Tryd.prog.globals[2]?).map (·.type) = some 210 := by kernel_rfl
theorem cellsArr : Tryd.prog.cellsOf 210 = 20 := by kernel_rfl
theorem cellsU64 : Tryd.prog.cellsOf 130 = 1 := by kernel_rfl

theorem laid_tab {W : World} (h : laidMetH Tryd.prog Rows.envDeepRow.laid W) : Tab W := by
  have h1 := h.filter (fun x => x.1 == "internal/strconv.uint64pow10")
  have e : Rows.envDeepRow.laid.filter (fun x => x.1 == "internal/strconv.uint64pow10") = [("internal/strconv.uint64pow10", Lib.tabData .u64 Lib.pow10Tab)] := by kernel_rfl
  rw [e] at h1
  exact Lib.tabIs_of_head (rest := []) gTab gTabType Tryd.underlying210 Tryd.underlying130 cellsU64 cellsArr h1

/-- Every row of this seat lists the same variables. -/
abbrev laidL : List (String × DataW Unit) := Rows.envDeepRow.laid

def arr0 : Array Value := #[.int .u8 0, .int .u8 1, .int .u8 28, .int .u8 2, .int .u8 29, .int .u8 14, .int .u8 24, .int .u8 3, .int .u8 30, .int .u8 22, .int .u8 20, .int .u8 15, .int .u8 25, .int .u8 17, .int .u8 4, .int .u8 8, .int .u8 31, .int .u8 27, .int .u8 13, .int .u8 23, .int .u8 21, .int .u8 19, .int .u8 16, .int .u8 7, .int .u8 26, .int .u8 12, .int .u8 18, .int .u8 6, .int .u8 11, .int .u8 5, .int .u8 10, .int .u8 9]
def arr1 : Array Value := #[.int .u8 0, .int .u8 1, .int .u8 56, .int .u8 2, .int .u8 57, .int .u8 49, .int .u8 28, .int .u8 3, .int .u8 61, .int .u8 58, .int .u8 42, .int .u8 50, .int .u8 38, .int .u8 29, .int .u8 17, .int .u8 4, .int .u8 62, .int .u8 47, .int .u8 59, .int .u8 36, .int .u8 45, .int .u8 43, .int .u8 51, .int .u8 22, .int .u8 53, .int .u8 39, .int .u8 33, .int .u8 30, .int .u8 24, .int .u8 18, .int .u8 12, .int .u8 5, .int .u8 63, .int .u8 55, .int .u8 48, .int .u8 27, .int .u8 60, .int .u8 41, .int .u8 37, .int .u8 16, .int .u8 46, .int .u8 35, .int .u8 44, .int .u8 21, .int .u8 52, .int .u8 32, .int .u8 23, .int .u8 11, .int .u8 54, .int .u8 26, .int .u8 40, .int .u8 15, .int .u8 34, .int .u8 20, .int .u8 31, .int .u8 10, .int .u8 25, .int .u8 14, .int .u8 19, .int .u8 9, .int .u8 13, .int .u8 8, .int .u8 7, .int .u8 6]
def arr2 : Array Value := #[.int .u64 1, .int .u64 10, .int .u64 100, .int .u64 1000, .int .u64 10000, .int .u64 100000, .int .u64 1000000, .int .u64 10000000, .int .u64 100000000, .int .u64 1000000000, .int .u64 10000000000, .int .u64 100000000000, .int .u64 1000000000000, .int .u64 10000000000000, .int .u64 100000000000000, .int .u64 1000000000000000, .int .u64 10000000000000000, .int .u64 100000000000000000, .int .u64 1000000000000000000, .int .u64 10000000000000000000]

/-- A world for the witness: the settled one, the listed variables as their initialisers lay them. -/
noncomputable def laidWorld (os : Os) : World :=
  { World.holding Tryd.prog os ⟨#[], #[], []⟩ with heap := ((((World.holding Tryd.prog os ⟨#[], #[], []⟩).heap.modify 3 fun | .cells _ t frozen => .cells arr0 t frozen | o => o).modify 4 fun | .cells _ t frozen => .cells arr1 t frozen | o => o).modify 2 fun | .cells _ t frozen => .cells arr2 t frozen | o => o) }
end Go.Proofs.YthighbbikpnpgaaDoor

/-! PShx0 -/
-- PRINTED by print.py (a twelfth state) out of the translation. Not trusted: Lean checks it.
namespace Go.Proofs.YthighbbikpnpgaaDoor.PSh
open Go.RowKit Go.Proofs.YthighbbikpnpgaaDoorW.PrintWords Go.Proofs.YthighbbikpnpgaaDoorW.PrintLast Go.Proofs.YthighbbikpnpgaaDoorW.PrintMore
attribute [local go_sem] max2_int min2_int max_two min_two max_three min_three max_four min_four   -- for this text's walks alone
set_option linter.unusedVariables false
set_option linter.unusedSimpArgs false



def errW : Option Int → Value
  | none => .nilIface
  | some c => .iface 0 (.int .i64 c)
theorem errW_none : errW none = .nilIface := rfl
theorem errW_some (c : Int) : errW (some c) = .iface 0 (.int .i64 c) := rfl

theorem info5 : (Tryd.prog.info? 5).map (fun i => (i.zero, i.size, i.bytes)) = some (some (.int .u8 0), 1, 1) := by kernel_rfl
theorem info84 : (Tryd.prog.info? 84).map (fun i => (i.zero, i.size, i.bytes)) = some (some (.agg #[(.int .i64 0), (.int .i64 0), (.string ⟨#[]⟩), (.slice none 0 0)]), 4, 56) := by kernel_rfl
-- the values' own types
/-! #### struct type 84, nested in itself -/
structure S84 where
  f0 : Int
  f1 : Int
  f2 : ByteArray
  f3 : (List S84)
def z84 : S84 := ⟨(0 : Int), (0 : Int), (⟨#[]⟩ : ByteArray), ([] : List S84)⟩
def F84 (d : Kd S84) : Kd S84 := Kd.iso (Kd.pair (Kd.int .i64) (Kd.pair (Kd.int .i64) (Kd.pair Kd.string (Kd.slice 84 d)))) (fun x : S84 => (x.f0, x.f1, x.f2, x.f3))
theorem mono84 : Kd.Mono F84 := Kd.mono_iso _ (Kd.mono_pair (Kd.mono_const _) (Kd.mono_pair (Kd.mono_const _) (Kd.mono_pair (Kd.mono_const _) (Kd.mono_slice 84 Kd.mono_id))))
theorem sub84 : Kd.Sub F84 [84] := Kd.sub_iso _ (Kd.sub_pair (Kd.sub_const _ (by decide)) (Kd.sub_pair (Kd.sub_const _ (by decide)) (Kd.sub_pair (Kd.sub_const _ (by decide)) (Kd.sub_slice 84 (by decide) Kd.sub_id))))
theorem sz84 : ∀ n, (Kd.upto F84 4 [84] n).sz = 4 := Kd.upto_sz (fun _ => rfl)
def k84 : Kd S84 := Kd.fix F84 4 [84] sz84 (Kd.upto_E sub84)
theorem k84_open {w : World} {x : S84} {cs : List Value} (h : k84.K w x cs) : ∃ A3 c3, cs = [.int .i64 x.f0, .int .i64 x.f1, .string x.f2, .slice A3 x.f3.length c3] ∧ x.f3.length ≤ c3 ∧ k84.C w A3 x.f3.length x.f3 := by
  obtain ⟨n, h⟩ := h
  cases n with
  | zero => exact h.elim
  | succ n =>
    obtain ⟨_, _, rfl, rfl, ⟨_, _, rfl, rfl, ⟨_, _, rfl, rfl, ⟨A3, c3, rfl, l3, g3⟩⟩⟩⟩ := h
    exact ⟨A3, c3, rfl, l3, Kd.fix_C g3⟩
theorem k84_openM {w : World} {base : Nat} {ok : Nat → Prop} {x : S84} {cs : List Value} (h : k84.M w base ok x cs) : ∃ v3, cs = [.int .i64 x.f0, .int .i64 x.f1, .string x.f2, v3] ∧ k84.R 84 w base ok v3 x.f3 := by
  obtain ⟨n, h⟩ := h
  cases n with
  | zero => exact h.elim
  | succ n =>
    obtain ⟨_, _, rfl, rfl, ⟨_, _, rfl, rfl, ⟨_, _, rfl, rfl, ⟨v3, rfl, g3⟩⟩⟩⟩ := h
    exact ⟨v3, rfl, Kd.fix_R g3⟩
theorem k84_mk (w : World) (x : S84) {A3 : Option Addr} {c3 : Nat} (l3 : x.f3.length ≤ c3) (g3 : k84.C w A3 x.f3.length x.f3) : k84.K w x [.int .i64 x.f0, .int .i64 x.f1, .string x.f2, .slice A3 x.f3.length c3] := by
  obtain ⟨n3, q3⟩ := Kd.fix_C_back mono84 g3
  have r3 := Kd.upto_C_le mono84 sz84 (show n3 ≤ n3 by omega) q3
  exact ⟨n3 + 1, ⟨[.int .i64 x.f0], [.int .i64 x.f1, .string x.f2, .slice A3 x.f3.length c3], rfl, rfl, ⟨[.int .i64 x.f1], [.string x.f2, .slice A3 x.f3.length c3], rfl, rfl, ⟨[.string x.f2], [.slice A3 x.f3.length c3], rfl, rfl, ⟨A3, c3, rfl, l3, r3⟩⟩⟩⟩⟩
theorem k84_mkM (w : World) (base : Nat) (ok : Nat → Prop) (x : S84) {v3 : Value} (g3 : k84.R 84 w base ok v3 x.f3) : k84.M w base ok x [.int .i64 x.f0, .int .i64 x.f1, .string x.f2, v3] := by
  obtain ⟨n3, q3⟩ := Kd.fix_R_back mono84 g3
  have r3 := Kd.upto_R_le mono84 sz84 (show n3 ≤ n3 by omega) q3
  exact ⟨n3 + 1, ⟨[.int .i64 x.f0], [.int .i64 x.f1, .string x.f2, v3], rfl, rfl, ⟨[.int .i64 x.f1], [.string x.f2, v3], rfl, rfl, ⟨[.string x.f2], [v3], rfl, rfl, ⟨v3, rfl, r3⟩⟩⟩⟩⟩
def rd_T84 (xs : List S84) (i : Int) : S84 := xs.getD i.toNat z84
theorem at_T84 {w : World} {A : Option Addr} {n : Nat} {xs : List S84} (h : Kd.C k84 w A n xs) (i : Int) (h0 : 0 ≤ i) (h1 : i < n) : ∃ ad A3 c3, A = some ad ∧ w.cell? (ad.add (i.toNat * 4)) = some (.int .i64 (rd_T84 xs i).f0) ∧ w.cell? ⟨(ad.add (i.toNat * 4)).block, (ad.add (i.toNat * 4)).off + 1, none⟩ = some (.int .i64 (rd_T84 xs i).f1) ∧ w.cell? ⟨(ad.add (i.toNat * 4)).block, (ad.add (i.toNat * 4)).off + 2, none⟩ = some (.string (rd_T84 xs i).f2) ∧ w.cell? ⟨(ad.add (i.toNat * 4)).block, (ad.add (i.toNat * 4)).off + 3, none⟩ = some (.slice A3 (rd_T84 xs i).f3.length c3) ∧ (rd_T84 xs i).f3.length ≤ c3 ∧ k84.C w A3 (rd_T84 xs i).f3.length (rd_T84 xs i).f3 := by
  obtain ⟨ad, c, e, _, hK, hc0⟩ := Kd.C_get h z84 i h0 h1
  have hc : ∀ j u, c[j]? = some u → w.cell? (ad.add (i.toNat * 4 + j)) = some u := hc0
  obtain ⟨A3, c3, rfl, l3, g3⟩ := k84_open hK
  exact ⟨ad, A3, c3, e, hc 0 _ rfl, by rw [← add_field _ _ 1 (by omega)]; exact hc 1 _ rfl, by rw [← add_field _ _ 2 (by omega)]; exact hc 2 _ rfl, by rw [← add_field _ _ 3 (by omega)]; exact hc 3 _ rfl, l3, g3⟩

end Go.Proofs.YthighbbikpnpgaaDoor.PSh

/-! DtA -/
namespace Go.Proofs.YthighbbikpnpgaaDoor
open Go.RowKit Go.Proofs.YthighbbikpnpgaaDoor.PSh Go.Proofs.YthighbbikpnpgaaDoorW.PrintWords

abbrev Dat := S84
abbrev kD := k84
noncomputable def szD (x : Dat) : Nat := SizeOf.sizeOf x
abbrev zD : Dat := z84

/-- At p lies the datum x. -/
structure DatAt (w : World) (p : Addr) (x : Dat) (A : Option Addr) (c : Nat) : Prop where
  c0 : w.cell? p = some (.int .i64 x.f0)
  c1 : w.cell? ⟨p.block, p.off + 1, none⟩ = some (.int .i64 x.f1)
  c2 : w.cell? ⟨p.block, p.off + 2, none⟩ = some (.string x.f2)
  c3 : w.cell? ⟨p.block, p.off + 3, none⟩ = some (.slice A x.f3.length c)
  len : x.f3.length ≤ c
  items : Kd.C kD w A x.f3.length x.f3

theorem DatAt.below {w w' : World} {p : Addr} {x : Dat} {A : Option Addr} {c : Nat} (h : DatAt w p x A c) (hb : Below w.heap.size w w') : DatAt w' p x A c where
  c0 := (hb.cell (World.block_lt_of_cell? w _ h.c0)).trans h.c0
  c1 := (hb.cell (World.block_lt_of_cell? w _ h.c1)).trans h.c1
  c2 := (hb.cell (World.block_lt_of_cell? w _ h.c2)).trans h.c2
  c3 := (hb.cell (World.block_lt_of_cell? w _ h.c3)).trans h.c3
  len := h.len
  items := Kd.C_below h.items hb

/-- One of a row's data. -/
theorem dat_item {w : World} {A : Option Addr} {n : Nat} {xs : List Dat} (h : Kd.C kD w A n xs) (j : Nat) (hj : j < n) (hl : j < xs.length) :
    ∃ ad, A = some ad ∧ ∃ A' c', DatAt w (ad.add (j * 4)) xs[j] A' c' := by
  obtain ⟨ad, A', c', e, h0, h1, h2, h3, hlen, hC⟩ := at_T84 h (j : Int) (by omega) (by omega)
  have hx : rd_T84 xs (j : Int) = xs[j] := by
    unfold rd_T84
    rw [Int.toNat_natCast, List.getD_eq_getElem?_getD, List.getElem?_eq_getElem hl]
    rfl
  rw [hx] at h0 h1 h2 h3 hlen hC
  rw [Int.toNat_natCast] at h0 h1 h2 h3
  exact ⟨ad, e, A', c', ⟨h0, h1, h2, h3, hlen, hC⟩⟩

theorem dat_lt {x y : Dat} (h : y ∈ x.f3) : szD y < szD x := by
  have := List.sizeOf_lt_of_mem h
  obtain ⟨a, b, c, l⟩ := x
  simp [szD] at this ⊢
  omega

mutual
/-- How many parts, up to 5000. -/
def cnt : Dat → Nat → Nat
  | ⟨_, _, _, l⟩, n => cntL l (n + 1)
def cntL : List Dat → Nat → Nat
  | [], n => n
  | x :: r, n => if 5000 ≤ n then n else cntL r (cnt x n)
end
theorem cnt_eq (x : Dat) (n : Nat) : cnt x n = cntL x.f3 (n + 1) := by obtain ⟨a, b, c, l⟩ := x; rw [cnt]
theorem cntL_stop (l : List Dat) (n : Nat) (h : 5000 ≤ n) : cntL l n = n := by
  cases l with
  | nil => rw [cntL]
  | cons x r => rw [cntL, if_pos h]
theorem cntL_next (x : Dat) (r : List Dat) (n : Nat) (h : ¬ 5000 ≤ n) : cntL (x :: r) n = cntL r (cnt x n) := by rw [cntL, if_neg h]

theorem cnt_bound (m : Nat) : ∀ x : Dat, szD x < m → ∀ n, n < 5000 → n < cnt x n ∧ cnt x n ≤ 5000 := by
  induction m with
  | zero => intro x h; omega
  | succ m ih =>
    intro x hx n hn
    rw [cnt_eq]
    have : ∀ (l : List Dat), (∀ y ∈ l, szD y < m) → ∀ k, k ≤ 5000 → k ≤ cntL l k ∧ cntL l k ≤ 5000 := by
      intro l
      induction l with
      | nil => intro _ k hk; rw [cntL]; omega
      | cons y r ihr =>
        intro hl k hk
        by_cases h5 : 5000 ≤ k
        · rw [cntL_stop _ _ h5]; omega
        · rw [cntL_next _ _ _ h5]
          obtain ⟨h1, h2⟩ := ih y (hl y (by simp)) k (by omega)
          obtain ⟨h3, h4⟩ := ihr (fun z hz => hl z (by simp [hz])) (cnt y k) h2
          omega
    obtain ⟨h1, h2⟩ := this x.f3 (fun y hy => by have := dat_lt hy; omega) (n + 1) (by omega)
    omega

set_option maxRecDepth 400000 in
set_option maxHeartbeats 1000000 in
theorem counted_any (m : Nat) : ∀ x : Dat, szD x < m → ∀ (p : Addr) (n : Nat) (w : World) (A : Option Addr) (c : Nat), DatAt w p x A c → n < 5000 →
    Calls Tryd.prog 124 #[.pointer (some p), .int .i64 (n : Nat)] w fun e w' => e = .returned (.int .i64 (cnt x n : Nat)) ∧ w = w' := by
  induction m with
  | zero => intro x h; omega
  | succ m ih =>
    intro x hx p n w A c hD hn
    have H := Lib.hid hD
    have IH := Lib.hid ih
    have hl := hD.len
    have c3 := hD.c3
    have HX := Lib.hid (show ∀ y ∈ x.f3, szD y < m from fun y hy => by have := dat_lt hy; omega)
    have HE := Lib.hid (cnt_eq x n)
    clear ih hD
    go_enter Tryd.func124, Tryd.ntmps124
    go_wp2_with fail
    clear c3
    go_loop [1, 13] (fun nn i => ∃ (j k : Nat), j ≤ x.f3.length ∧ i = .int .i64 (j : Nat) ∧ nn = .int .i64 (k : Nat) ∧ k ≤ 5000 ∧ Hid (cntL (x.f3.drop j) k = cnt x n)) (fun _ i => x.f3.length - (intOf i).toNat)
    case atStart => exact ⟨0, n + 1, Nat.zero_le _, rfl, by go_num, by omega, Lib.hid (by rw [HE.out]; rfl)⟩
    case round =>
      obtain ⟨j, k, hj, rfl, rfl, hk, HR⟩ := hrel
      have h63 : x.f3.length ≤ 9223372036854775807 := H.out.items.2.1
      have c3 := H.out.c3
      by_cases hlt : j < x.f3.length
      · by_cases h5 : 5000 ≤ k
        · have HF := Lib.hid (show k = cnt x n by rw [← HR.out, cntL_stop _ _ h5])
          go_wp2_with fail
          go_ret
          exact ⟨by rw [← HF.out]; rfl, rfl⟩
        · obtain ⟨ad, rfl, A', c', hD'⟩ := dat_item H.out.items j hlt hlt
          have hy := HX.out x.f3[j] (List.getElem_mem hlt)
          have HC := Lib.hid (IH.out x.f3[j] hy _ k w A' c' hD' (by omega))
          have HB := Lib.hid (cnt_bound m x.f3[j] hy k (by omega))
          have HS := Lib.hid (show cntL (x.f3.drop (j + 1)) (cnt x.f3[j] k) = cnt x n by rw [← HR.out, List.drop_eq_getElem_cons hlt, cntL_next _ _ _ h5])
          generalize x.f3[j] = y at hD' hy HC HB HS
          have HLT := Lib.hid hlt
          clear hD' hy
          go_wp2_with fail
          refine HC.out.mono ?_
          rintro e w' ⟨rfl, rfl⟩
          go_wp2_with fail
          go_round
          case rel => exact ⟨j + 1, cnt y k, by have := HLT.out; omega, by go_num, rfl, HB.out.2, HS⟩
          case measure => have := HLT.out; simp [intOf]; omega
      · obtain rfl : j = x.f3.length := by omega
        have HF := Lib.hid (show k = cnt x n by rw [← HR.out, List.drop_length, cntL])
        go_wp2_with fail
        go_ret
        exact ⟨by rw [← HF.out]; rfl, rfl⟩

set_option maxRecDepth 16000 in
theorem dat_box (w : World) (x : Dat) (A : Option Addr) (c : Nat) (hl : x.f3.length ≤ c) (hC : Kd.C kD w A x.f3.length x.f3) (w' : World) (hb : Below (w.alloc (.cells #[.int .i64 x.f0, .int .i64 x.f1, .string x.f2, .slice A x.f3.length c] 84)).heap.size (w.alloc (.cells #[.int .i64 x.f0, .int .i64 x.f1, .string x.f2, .slice A x.f3.length c] 84)) w') :
    DatAt w' ⟨w.heap.size, 0, none⟩ x A c := by
  have hm : w'.heap[w.heap.size]? = some (.cells #[.int .i64 x.f0, .int .i64 x.f1, .string x.f2, .slice A x.f3.length c] 84 (0, 0)) := heap_below (heap_alloc_new w _) hb (by simp)
  refine ⟨?_, ?_, ?_, ?_, hl, Kd.C_below hC (below_trans ((Below.refl _ _).alloc (Nat.le_refl _) _) hb)⟩
  all_goals (rw [cell_of_row w' _ _ _ _ (0, 0) hm]; rfl)

set_option maxRecDepth 16000 in
theorem parts_any (x : Dat) (A : Option Addr) (c : Nat) (w : World) (hl : x.f3.length ≤ c) (hC : Kd.C kD w A x.f3.length x.f3) :
    Calls Tryd.prog 113 #[.agg #[.int .i64 x.f0, .int .i64 x.f1, .string x.f2, .slice A x.f3.length c]] w fun e w' => e = .returned (.int .i64 (cnt x 0 : Nat)) ∧ Below w.heap.size w w' := by
  have HC := Lib.hid (counted_any (szD x + 1) x (by omega) ⟨w.heap.size, 0, none⟩ 0 _ A c (dat_box w x A c hl hC _ (Below.refl _ _)) (by omega))
  clear hC
  go_enter Tryd.func113, Tryd.ntmps113
  go_wp2_with fail
  refine HC.out.mono ?_
  rintro e w' ⟨rfl, rfl⟩
  go_wp2_with fail
  go_ret
  exact ⟨rfl, (Below.refl _ _).alloc (Nat.le_refl _) _⟩
end Go.Proofs.YthighbbikpnpgaaDoor

/-! FU -/
namespace Go.Proofs.YthighbbikpnpgaaDoor
open Go.RowKit

theorem dec_small {u : Nat} (h : u < 10) : Lib.decDigits u = [UInt8.ofNat (48 + u)] := by rw [Lib.decDigits, dif_pos h]
theorem dec_big {u : Nat} (h : ¬ u < 10) : Lib.decDigits u = Lib.decDigits (u / 10) ++ [UInt8.ofNat (48 + u % 10)] := by rw [Lib.decDigits, dif_neg h]

/-- A string of one byte, out of the newest block. -/
theorem one_string (w : World) (c : Int) (h0 : 0 ≤ c) (h1 : c < 256) :
    (convert 76 9 (.slice (some ⟨w.heap.size, 0, none⟩) 1 1)).run Tryd.prog (w.alloc (.cells #[.int .u8 c] 5)) = .ok (.string ⟨#[UInt8.ofNat c.toNat]⟩) (w.alloc (.cells #[.int .u8 c] 5)) := by
  have hc : ((UInt8.ofNat c.toNat).toNat : Int) = c := by
    simp [UInt8.toNat_ofNat']
    omega
  refine run_convert_bytes_back (w.alloc (.cells #[.int .u8 c] 5)) 76 9 5 ⟨w.heap.size, 0, none⟩ 1 [UInt8.ofNat c.toNat] Tryd.underlying76 Tryd.underlying5 Tryd.underlying9 ?_
  intro j hj
  obtain rfl : j = 0 := by simpa using hj
  rw [news_new w [.int .u8 c] 5 w.heap.size rfl 0 (.int .u8 c) rfl]
  simp only [List.getElem_cons_zero, hc]

theorem mk_cons (c : UInt8) (t : List UInt8) : (⟨#[c]⟩ : ByteArray) ++ ⟨t.toArray⟩ = ⟨(c :: t).toArray⟩ := by
  apply ByteArray.ext
  rw [ByteArray.data_append]
  simp

set_option maxRecDepth 16000 in
theorem reftext_any (n : Int) (w : World) (h0 : -9223372036854775808 ≤ n) (h1 : n ≤ 9223372036854775807) :
    Calls Tryd.prog 39 #[.int .i64 n] w fun e w' => e = .returned (.string ⟨(Lib.itoa n).toArray⟩) ∧ Below w.heap.size w w' := by
  obtain ⟨W, rfl⟩ : ∃ W : World, W = w := ⟨w, rfl⟩
  have hlen := Lib.itoa_length_le n h0 h1
  have HI : Hid (Lib.itoa n = if n < 0 then 45 :: Lib.decDigits n.natAbs else Lib.decDigits n.toNat) := rfl
  by_cases hn : n < 0
  · obtain ⟨u, hu⟩ : ∃ u : Nat, u = n.natAbs := ⟨_, rfl⟩
    have wn : IntKind.u64.wrap (-IntKind.u64.wrap n) = (u : Int) := by rw [u64w, u64w]; omega
    have hd : (Lib.decDigits u).length ≤ 20 := by
      have := HI.out
      rw [if_pos hn, ← hu] at this
      rw [this] at hlen
      simp at hlen
      omega
    have HI2 : Hid (Lib.itoa n = 45 :: Lib.decDigits u) := by rw [Hid, HI.out, if_pos hn, ← hu]
    have hu' : u ≤ 9223372036854775808 := by omega
    clear hu
    go_enter Tryd.func39, Tryd.ntmps39
    go_wp2_with fail
    go_loopw [3, 4] (fun x s wr => ∃ (y : Nat) (t : List UInt8), x = .int .u64 y ∧ s = .string ⟨t.toArray⟩ ∧ y ≤ 9223372036854775808 ∧ Below W.heap.size W wr ∧ Hid (Lib.decDigits u = Lib.decDigits y ++ t)) (fun x _ _ => (intOf x).toNat)
    case atStart => exact ⟨u, [], rfl, rfl, by omega, Below.refl _ _, by simp [Hid]⟩
    case round =>
      obtain ⟨y, t, rfl, rfl, hy, hb, H⟩ := hrel
      have ht : t.length ≤ 21 := by
        have := congrArg List.length H.out
        rw [List.length_append] at this
        omega
      have hcs := one_string wr (48 + (y : Int) % 10) (by omega) (by omega)
      have hcn : (48 + (y : Int) % 10).toNat = 48 + y % 10 := by omega
      rw [hcn] at hcs
      have hbs := hb.size
      have HAP : Hid (({ data := #[48 + UInt8.ofNat (y % 10)] } : ByteArray) ++ { data := t.toArray } = ⟨(UInt8.ofNat (48 + y % 10) :: t).toArray⟩) := by
        rw [Hid, ← mk_cons, UInt8.ofNat_add]; rfl
      by_cases hy10 : y < 10
      · have HD := Lib.hid (show Lib.decDigits u = UInt8.ofNat (48 + y % 10) :: t by rw [H.out, dec_small hy10, Nat.mod_eq_of_lt hy10]; rfl)
        have hq : (y : Int) / 10 = 0 := by omega
        go_wp2_with fail
        go_ret
        exact ⟨by rw [HI2.out, HD.out, ← mk_cons 45 (_ :: _), ← HAP.out]; rfl, hb.alloc hbs _⟩
      · have HD : Hid (Lib.decDigits u = Lib.decDigits (y / 10) ++ (UInt8.ofNat (48 + y % 10) :: t)) := by rw [Hid, H.out, dec_big hy10]; simp
        have hq : ((y : Int) / 10 == 0) = false := by simp; omega
        go_wp2_with fail
        go_roundw
        case rel => exact ⟨y / 10, _, by go_num, by rw [HAP.out], by omega, hb.alloc hbs _, HD⟩
        case measure => simp [intOf]; omega
  · obtain ⟨u, hu⟩ : ∃ u : Nat, n = u := ⟨n.toNat, by omega⟩
    subst hu
    have hd : (Lib.decDigits u).length ≤ 21 := by
      have := HI.out
      rw [if_neg hn, Int.toNat_natCast] at this
      rw [this] at hlen
      exact hlen
    have HI2 : Hid (Lib.itoa u = Lib.decDigits u) := by rw [Hid, HI.out, if_neg hn, Int.toNat_natCast]
    go_enter Tryd.func39, Tryd.ntmps39
    go_wp2_with fail
    go_loopw [3, 4] (fun x s wr => ∃ (y : Nat) (t : List UInt8), x = .int .u64 y ∧ s = .string ⟨t.toArray⟩ ∧ y ≤ 9223372036854775808 ∧ Below W.heap.size W wr ∧ Hid (Lib.decDigits u = Lib.decDigits y ++ t)) (fun x _ _ => (intOf x).toNat)
    case atStart => exact ⟨u, [], rfl, rfl, by omega, Below.refl _ _, by simp [Hid]⟩
    case round =>
      obtain ⟨y, t, rfl, rfl, hy, hb, H⟩ := hrel
      have ht : t.length ≤ 21 := by
        have := congrArg List.length H.out
        rw [List.length_append] at this
        omega
      have hcs := one_string wr (48 + (y : Int) % 10) (by omega) (by omega)
      have hcn : (48 + (y : Int) % 10).toNat = 48 + y % 10 := by omega
      rw [hcn] at hcs
      have hbs := hb.size
      have HAP : Hid (({ data := #[48 + UInt8.ofNat (y % 10)] } : ByteArray) ++ { data := t.toArray } = ⟨(UInt8.ofNat (48 + y % 10) :: t).toArray⟩) := by
        rw [Hid, ← mk_cons, UInt8.ofNat_add]; rfl
      by_cases hy10 : y < 10
      · have HD := Lib.hid (show Lib.decDigits u = UInt8.ofNat (48 + y % 10) :: t by rw [H.out, dec_small hy10, Nat.mod_eq_of_lt hy10]; rfl)
        have hq : (y : Int) / 10 = 0 := by omega
        go_wp2_with fail
        go_ret
        exact ⟨by rw [HI2.out, HD.out, ← HAP.out]; rfl, hb.alloc hbs _⟩
      · have HD : Hid (Lib.decDigits u = Lib.decDigits (y / 10) ++ (UInt8.ofNat (48 + y % 10) :: t)) := by rw [Hid, H.out, dec_big hy10]; simp
        have hq : ((y : Int) / 10 == 0) = false := by simp; omega
        go_wp2_with fail
        go_roundw
        case rel => exact ⟨y / 10, _, by go_num, by rw [HAP.out], by omega, hb.alloc hbs _, HD⟩
        case measure => simp [intOf]; omega
end Go.Proofs.YthighbbikpnpgaaDoor

/-! LxA -/
namespace Go.Proofs.YthighbbikpnpgaaDoor
open Go.RowKit

/-- A byte that no name has. -/
def markB (c : UInt8) : Bool := decide (0 ≤ Lib.indexByte [40, 41, 34, 59, 39, 44, 96, 35] c)
def symCh (c : UInt8) : Bool := decide (33 ≤ c.toNat) && decide (c.toNat ≤ 126) && !markB c
def symL (s : List UInt8) : Bool := decide (1 ≤ s.length) && decide (s.length ≤ 60) && !(s == [46]) && !okL (bodyL s) && s.all symCh

theorem fitL_code (n : Int) : (fitL n).2 = 0 ∨ (fitL n).2 = 11 := by unfold fitL; split <;> simp

theorem digits_any (s : ByteArray) (w : World) :
    Calls Tryd.prog 79 #[.string s] w fun e w' => e = .returned (.bool (okL (bodyL s.data.toList))) ∧ Below w.heap.size w w' := by
  obtain ⟨W, rfl⟩ : ∃ W : World, W = w := ⟨w, rfl⟩
  have cP := Lib.hid (parse_any s W)
  have hp : parseL s.data.toList = parseL s.data.toList := rfl
  have hok : (okL (bodyL s.data.toList) = true ∧ ((parseL s.data.toList).2 = 0 ∨ (parseL s.data.toList).2 = 11)) ∨ (okL (bodyL s.data.toList) = false ∧ (parseL s.data.toList).2 = 6) := by
    cases h : okL (bodyL s.data.toList)
    · exact .inr ⟨rfl, by rw [parseL, h]; rfl⟩
    · exact .inl ⟨rfl, by rw [parseL, h]; exact fitL_code _⟩
  clear hp
  generalize okL (bodyL s.data.toList) = ok at hok ⊢
  generalize parseL s.data.toList = x at hok cP
  obtain ⟨n, k⟩ := x
  simp only at hok
  rw [resV] at cP
  have h3 : (ok = true ∧ k = 0) ∨ (ok = true ∧ k = 11) ∨ (ok = false ∧ k = 6) := by
    rcases hok with ⟨h, h0 | h1⟩ | ⟨h, h6⟩
    · exact .inl ⟨h, h0⟩
    · exact .inr (.inl ⟨h, h1⟩)
    · exact .inr (.inr ⟨h, h6⟩)
  clear hok
  rcases h3 with ⟨rfl, rfl⟩ | ⟨rfl, rfl⟩ | ⟨rfl, rfl⟩
  · have e0 : errV 0 = .nilIface := rfl
    rw [e0] at cP
    go_enter Tryd.func79, Tryd.ntmps79
    go_wp2_with fail
    refine cP.out.mono ?_
    rintro e w' ⟨rfl, hb⟩
    go_wp2_with fail
    go_ret
    exact ⟨rfl, hb⟩
  all_goals
    have e0 : errV 11 = kindV 11 := rfl
    have e6 : errV 6 = kindV 6 := rfl
    (try rw [e0] at cP); (try rw [e6] at cP)
    clear e0 e6
    go_enter Tryd.func79, Tryd.ntmps79
    go_wp2_with fail
    refine cP.out.mono ?_
    rintro e w' ⟨rfl, hb⟩
    go_wp2_with fail
    refine (is_kind _ _ _).mono ?_
    rintro e w'' ⟨rfl, rfl⟩
    go_wp2_with fail
    go_ret
    exact ⟨rfl, hb⟩

theorem indexbyte_any (s : ByteArray) (c : Int) (w : World) :
    Calls Tryd.prog 80 #[.string s, .int .u8 c] w fun e w' => e = .returned (.int .i64 (Lib.indexByte s.data.toList c.toNat.toUInt8)) ∧ w' = w := Tryd.strings_IndexByte s c w
end Go.Proofs.YthighbbikpnpgaaDoor

/-! LxB -/
namespace Go.Proofs.YthighbbikpnpgaaDoor
open Go.RowKit

/-- The newest block's bytes, one by one. -/
theorem bytes_at (W : World) (s : ByteArray) (j : Nat) (hj : j < s.data.toList.length) : (Lib.bytesWorld W 5 s).cell? ⟨W.heap.size, j, none⟩ = some (.int .u8 (s.data.toList[j].toNat : Int)) := by
  rw [Lib.bytesWorld_cell W 5 s j (by simpa using hj)]
  simp [List.getD, List.getElem?_eq_getElem hj]

theorem sym_short (s : ByteArray) (h : s.data.toList = []) (W : World) :
    Calls Tryd.prog 59 #[.string s] W fun e w' => e = .returned (.bool false) ∧ Below W.heap.size W w' := by
  obtain rfl : s = ⟨#[]⟩ := by apply ByteArray.ext; simpa using h
  go_enter Tryd.func59, Tryd.ntmps59
  go_wp2_with fail
  go_ret
  exact ⟨rfl, Below.refl _ _⟩

theorem sym_dot (W : World) :
    Calls Tryd.prog 59 #[.string ⟨#[46]⟩] W fun e w' => e = .returned (.bool false) ∧ Below W.heap.size W w' := by
  go_enter Tryd.func59, Tryd.ntmps59
  go_wp2_with fail
  go_ret
  exact ⟨rfl, Below.refl _ _⟩

set_option maxRecDepth 16000 in
theorem sym_long (s : ByteArray) (h : 60 < s.data.toList.length) (W : World) :
    Calls Tryd.prog 59 #[.string s] W fun e w' => e = .returned (.bool false) ∧ Below W.heap.size W w' := by
  have h0 : ¬ s.toList = [] := by
    rw [ByteArray.toList_eq]
    intro e
    rw [e] at h
    simp at h
  have h2 : s.size = s.data.toList.length := by simp
  have h1 : (60 : Int) < s.size := by omega
  clear h h2
  go_enter Tryd.func59, Tryd.ntmps59
  go_wp2_with fail
  go_ret
  exact ⟨rfl, Below.refl _ _⟩

set_option maxRecDepth 16000 in
theorem sym_digits (s : ByteArray) (h0 : s.data.toList ≠ []) (h1 : s.data.toList.length ≤ 60) (h2 : s.data.toList ≠ [46]) (hd : okL (bodyL s.data.toList) = true) (W : World) :
    Calls Tryd.prog 59 #[.string s] W fun e w' => e = .returned (.bool false) ∧ Below W.heap.size W w' := by
  have g0 : ¬ s.toList = [] := by rw [ByteArray.toList_eq]; exact h0
  have g00 : s.toList.isEmpty = false := by simpa using g0
  have g2 : ¬ s.toList = [46] := by rw [ByteArray.toList_eq]; exact h2
  have g22 : (s.toList == [46]) = false := by simpa using g2
  have e2 : s.size = s.data.toList.length := by simp
  have g1 : ¬ (60 : Int) < s.size := by omega
  have g1' : (s.size : Int) ≤ 60 := by omega
  have cD := Lib.hid (digits_any s W)
  rw [hd] at cD
  clear e2 h0 h1 h2 hd
  go_enter Tryd.func59, Tryd.ntmps59
  go_wp2_with fail
  refine cD.out.mono ?_
  rintro e w' ⟨rfl, hb⟩
  go_wp2_with fail
  go_ret
  exact ⟨rfl, hb⟩

theorem take_all {l : List UInt8} {p : UInt8 → Bool} {k : Nat} (h : (l.take (k + 1)).all p = false) : l.all p = false := by
  rw [← Bool.not_eq_true] at h ⊢
  exact fun hh => h (all_take hh _)

set_option maxRecDepth 16000 in
theorem sym_bytes (s : ByteArray) (h0 : s.data.toList ≠ []) (h1 : s.data.toList.length ≤ 60) (h2 : s.data.toList ≠ [46]) (hd : okL (bodyL s.data.toList) = false) (W : World) :
    Calls Tryd.prog 59 #[.string s] W fun e w' => e = .returned (.bool (s.data.toList.all symCh)) ∧ Below W.heap.size W w' := by
  obtain ⟨R, hR⟩ : ∃ R, s.data.toList.all symCh = R := ⟨_, rfl⟩
  have HRR := Lib.hid hR
  rw [hR]
  clear hR
  have hcv := fun (w : World) (s : ByteArray) => Lib.run_convert_string_bytes w 9 76 5 s Tryd.underlying9 Tryd.underlying76 Tryd.underlying5
  have g0 : ¬ s.toList = [] := by rw [ByteArray.toList_eq]; exact h0
  have g00 : s.toList.isEmpty = false := by simpa using g0
  have g2 : ¬ s.toList = [46] := by rw [ByteArray.toList_eq]; exact h2
  have g22 : (s.toList == [46]) = false := by simpa using g2
  have e2 : s.size = s.data.toList.length := by simp
  have g1 : ¬ (60 : Int) < s.size := by omega
  have g1' : (s.size : Int) ≤ 60 := by omega
  have cD := Lib.hid (digits_any s W)
  rw [hd] at cD
  have HE2 := Lib.hid e2
  clear h0 h1 h2 hd e2
  go_enter Tryd.func59, Tryd.ntmps59
  go_wp2_with fail
  refine cD.out.mono ?_
  rintro e w' ⟨rfl, hb⟩
  go_wp2_with fail
  clear hcv
  have hcells := Lib.hid (bytes_at w' s)
  have hbl := below_trans hb (below_bytes (W := w') 5 s)
  generalize Lib.bytesWorld w' 5 s = w1 at hcells hbl ⊢
  have e2 := HE2.out
  clear HE2
  have hR := HRR.out
  clear HRR
  generalize hE : s.data.toList = E at hcells e2 hR
  clear hE
  have hEl : E.length ≤ s.size ∧ s.size ≤ E.length := by omega
  have HR := Lib.hid hR
  clear hR
  clear g0 g00 g2 g22 e2
  go_loop [23] (fun i => ∃ k : Nat, k ≤ E.length ∧ i = .int .i64 k ∧ (E.take k).all symCh = true) (fun i => E.length - (intOf i).toNat)
  case atStart => exact ⟨0, by omega, rfl, rfl⟩
  case round =>
    obtain ⟨k, hk, rfl, hall⟩ := hrel
    obtain ⟨hE1, hE2⟩ := hEl
    by_cases hlt : k < E.length
    · have hks : k < s.size := by omega
      have hks' : (k : Int) < s.size := by omega
      have htk := Lib.hid (List.take_succ_eq_append_getElem hlt)
      have hck := hcells.out k hlt
      generalize E[k] = x at htk hck
      have HN : Hid (symCh x = false → E.all symCh = false) := by
        intro hx
        refine take_all (k := k) ?_
        rw [htk.out, List.all_append]
        simp [hx]
      have HY : Hid (symCh x = true → (E.take (k + 1)).all symCh = true) := by
        intro hx
        rw [htk.out, List.all_append, hall]
        simp [hx]
      have hxx := Lib.hid (show symCh x = (decide (33 ≤ x.toNat) && decide (x.toNat ≤ 126) && !markB x) from rfl)
      have hx256 : x.toNat < 256 := x.toNat_lt
      have hmk : Hid (markB x = decide (0 ≤ Lib.indexByte [40, 41, 34, 59, 39, 44, 96, 35] x)) := rfl
      have hxu : ((x.toNat : Int).toNat.toUInt8) = x := by simp
      clear htk hall
      by_cases h33 : x.toNat < 33
      · have b1 : decide ((x.toNat : Int) < 33) = true := by simp; omega
        have hF := Lib.hid (HN.out (by rw [hxx.out]; simp; omega))
        clear HN HY hxx hmk hxu
        go_wp2_with fail
        go_ret
        exact ⟨by rw [← HR.out, hF.out]; rfl, hbl⟩
      · have b1 : decide ((x.toNat : Int) < 33) = false := by simp; omega
        by_cases h126 : 126 < x.toNat
        · have b2 : decide (126 < (x.toNat : Int)) = true := by simp; omega
          have hF := Lib.hid (HN.out (by rw [hxx.out]; simp; omega))
          clear HN HY hxx hmk hxu
          go_wp2_with fail
          go_ret
          exact ⟨by rw [← HR.out, hF.out]; rfl, hbl⟩
        · have b2 : decide (126 < (x.toNat : Int)) = false := by simp; omega
          have HS := Lib.hid (show symCh x = !decide (0 ≤ Lib.indexByte [40, 41, 34, 59, 39, 44, 96, 35] x) by rw [hxx.out, hmk.out]; simp; omega)
          have cI := Lib.hid (indexbyte_any ⟨#[40, 41, 34, 59, 39, 44, 96, 35]⟩ (x.toNat : Int) w1)
          rw [hxu] at cI
          have cI2 : Hid (Calls Tryd.prog 80 #[.string ⟨#[40, 41, 34, 59, 39, 44, 96, 35]⟩, .int .u8 x.toNat] w1 fun e w' => e = .returned (.int .i64 (Lib.indexByte [40, 41, 34, 59, 39, 44, 96, 35] x)) ∧ w' = w1) := cI
          clear cI hxx hmk hxu
          generalize Lib.indexByte [40, 41, 34, 59, 39, 44, 96, 35] x = q at HS cI2
          by_cases hq : 0 ≤ q
          · have hF := Lib.hid (HN.out (by rw [HS.out]; simp [hq]))
            clear HN HY HS
            go_wp2_with fail
            refine cI2.out.mono ?_
            rintro e w' ⟨rfl, rfl⟩
            go_wp2_with fail
            go_ret
            exact ⟨by rw [← HR.out, hF.out]; rfl, hbl⟩
          · have hF := Lib.hid (HY.out (by rw [HS.out]; simp [hq]))
            clear HN HY HS
            go_wp2_with fail
            refine cI2.out.mono ?_
            rintro e w' ⟨rfl, rfl⟩
            go_wp2_with fail
            go_round
            case rel => exact ⟨k + 1, by omega, by go_num, hF.out⟩
            case measure => simp [intOf]; omega
    · obtain rfl : k = E.length := by omega
      rw [List.take_length] at hall
      have HA := Lib.hid hall
      have hge : ¬ (E.length : Int) < (s.size : Int) := by omega
      clear hall
      go_wp2_with fail
      go_ret
      exact ⟨by rw [← HR.out, HA.out]; rfl, hbl⟩
end Go.Proofs.YthighbbikpnpgaaDoor

/-! LxC -/
namespace Go.Proofs.YthighbbikpnpgaaDoor
open Go.RowKit

theorem symL_cases (l : List UInt8) : (l = [] ∧ symL l = false) ∨ (60 < l.length ∧ symL l = false) ∨ (l = [46] ∧ symL l = false) ∨
    (l ≠ [] ∧ l.length ≤ 60 ∧ l ≠ [46] ∧ okL (bodyL l) = true ∧ symL l = false) ∨ (l ≠ [] ∧ l.length ≤ 60 ∧ l ≠ [46] ∧ okL (bodyL l) = false ∧ symL l = l.all symCh) := by
  by_cases h0 : l = []
  · subst h0; exact .inl ⟨rfl, rfl⟩
  · by_cases h1 : 60 < l.length
    · refine .inr (.inl ⟨h1, ?_⟩)
      have : decide (l.length ≤ 60) = false := by simp; omega
      simp [symL, this]
    · by_cases h2 : l = [46]
      · subst h2; exact .inr (.inr (.inl ⟨rfl, rfl⟩))
      · have e1 : decide (1 ≤ l.length) = true := by cases l with | nil => exact absurd rfl h0 | cons _ _ => simp
        have e2 : decide (l.length ≤ 60) = true := by simp; omega
        have e3 : (l == [46]) = false := by simpa using h2
        cases hk : okL (bodyL l)
        · exact .inr (.inr (.inr (.inr ⟨h0, by omega, h2, rfl, by simp only [symL, e1, e2, e3, hk]; rfl⟩)))
        · exact .inr (.inr (.inr (.inl ⟨h0, by omega, h2, rfl, by simp only [symL, e1, e2, e3, hk]; rfl⟩)))

theorem symbol_any (s : ByteArray) (W : World) :
    Calls Tryd.prog 59 #[.string s] W fun e w' => e = .returned (.bool (symL s.data.toList)) ∧ Below W.heap.size W w' := by
  rcases symL_cases s.data.toList with ⟨h, e⟩ | ⟨h, e⟩ | ⟨h, e⟩ | ⟨h0, h1, h2, h3, e⟩ | ⟨h0, h1, h2, h3, e⟩
  · rw [e]; exact sym_short s h W
  · rw [e]; exact sym_long s h W
  · rw [e]
    obtain rfl : s = ⟨#[46]⟩ := by apply ByteArray.ext; rw [← Array.toList_inj, h]
    exact sym_dot W
  · rw [e]; exact sym_digits s h0 h1 h2 h3 W
  · rw [e]; exact sym_bytes s h0 h1 h2 h3 W

theorem refdig_minus (D : List UInt8) (hs : D.length ≤ 4611686018427387904) (W : World) :
    Calls Tryd.prog 81 #[.string ⟨⟨45 :: D⟩⟩] W fun e w' => e = .returned (.bool (okL D)) ∧ w' = W := by
  have eb := ba_zero 45 D
  have hext : (⟨⟨45 :: D⟩⟩ : ByteArray).extract 1 (D.length + 1) = ⟨⟨D⟩⟩ := by
    rw [Lib.extract_eq]; simp
  go_enter Tryd.func81, Tryd.ntmps81
  go_wp2_with fail
  clear eb hext
  go_loop [3] (fun i => ∃ k : Nat, k ≤ D.length ∧ i = .int .i64 k ∧ (D.take k).all digB = true) (fun i => D.length - (intOf i).toNat)
  case atStart => exact ⟨0, by omega, rfl, rfl⟩
  case round =>
    obtain ⟨k, hk, rfl, hall⟩ := hrel
    by_cases hlt : k < D.length
    · have htk := Lib.hid (List.take_succ_eq_append_getElem hlt)
      obtain ⟨x, hx0⟩ : ∃ x, D[k] = x := ⟨_, rfl⟩
      have hbx : ∀ h : k < (⟨⟨D⟩⟩ : ByteArray).size, (⟨⟨D⟩⟩ : ByteArray)[k]'h = x := fun _ => hx0
      rw [hx0] at htk
      clear hx0
      have hx256 : x.toNat < 256 := x.toNat_lt
      by_cases hd : digB x = true
      · obtain ⟨d1, d2⟩ := digB_iff.1 hd
        have b1 : decide ((x.toNat : Int) < 48) = false := by simp; omega
        have b2 : decide (57 < (x.toNat : Int)) = false := by simp; omega
        have HALL := Lib.hid (show (D.take (k + 1)).all digB = true by rw [htk.out, List.all_append, hall]; simp [hd])
        clear htk hall hd
        go_wp2_with fail
        go_round
        case rel => exact ⟨k + 1, by omega, by go_num, HALL.out⟩
        case measure => simp [intOf]; omega
      · have hF := Lib.hid (show okL D = false by
          have : D.all digB = false := take_all (k := k) (by rw [htk.out, List.all_append]; simp [hd])
          rw [okL, this]; simp)
        have hx : x.toNat < 48 ∨ 57 < x.toNat := by
          rcases Nat.lt_or_ge x.toNat 48 with h | h
          · exact .inl h
          · rcases Nat.lt_or_ge 57 x.toNat with h' | h'
            · exact .inr h'
            · exact absurd (digB_iff.2 ⟨h, h'⟩) hd
        clear htk hd hall
        rcases hx with h | h
        · have b1 : decide ((x.toNat : Int) < 48) = true := by simp; omega
          go_wp2_with fail
          go_ret
          exact ⟨by rw [hF.out]; rfl, rfl⟩
        · have b1 : decide ((x.toNat : Int) < 48) = false := by simp; omega
          have b2 : decide (57 < (x.toNat : Int)) = true := by simp; omega
          go_wp2_with fail
          go_ret
          exact ⟨by rw [hF.out]; rfl, rfl⟩
    · obtain rfl : k = D.length := by omega
      rw [List.take_length] at hall
      have hF := Lib.hid (show okL D = (decide (1 ≤ D.length) && decide (D.length ≤ 30)) by rw [okL, hall, Bool.and_true])
      clear hall
      by_cases l1 : 1 ≤ D.length
      · by_cases l2 : D.length ≤ 30
        · have m1 : decide (1 ≤ (D.length : Int)) = true := by simp; omega
          have m2 : decide ((D.length : Int) ≤ 30) = true := by simp; omega
          have hG := Lib.hid (show okL D = true by rw [hF.out, decide_eq_true l1, decide_eq_true l2]; rfl)
          clear hF
          go_wp2_with fail
          go_ret
          exact ⟨by rw [hG.out]; first | rfl | simp [m1, m2] | simp; omega, rfl⟩
        · have m1 : decide (1 ≤ (D.length : Int)) = true := by simp; omega
          have m2 : decide ((D.length : Int) ≤ 30) = false := by simp; omega
          have hG := Lib.hid (show okL D = false by rw [hF.out, decide_eq_false l2]; simp)
          clear hF
          go_wp2_with fail
          go_ret
          exact ⟨by rw [hG.out]; first | rfl | simp [m1, m2] | simp; omega, rfl⟩
      · have m1 : decide (1 ≤ (D.length : Int)) = false := by simp; omega
        have hG := Lib.hid (show okL D = false by rw [hF.out, decide_eq_false l1]; rfl)
        clear hF
        go_wp2_with fail
        go_ret
        exact ⟨by rw [hG.out]; first | rfl | simp [m1] | simp; omega, rfl⟩

theorem refdig_plus (D : List UInt8) (hs : D.length ≤ 4611686018427387904) (W : World) :
    Calls Tryd.prog 81 #[.string ⟨⟨43 :: D⟩⟩] W fun e w' => e = .returned (.bool (okL D)) ∧ w' = W := by
  have eb := ba_zero 43 D
  have hext : (⟨⟨43 :: D⟩⟩ : ByteArray).extract 1 (D.length + 1) = ⟨⟨D⟩⟩ := by
    rw [Lib.extract_eq]; simp
  go_enter Tryd.func81, Tryd.ntmps81
  go_wp2_with fail
  clear eb hext
  go_loop [3] (fun i => ∃ k : Nat, k ≤ D.length ∧ i = .int .i64 k ∧ (D.take k).all digB = true) (fun i => D.length - (intOf i).toNat)
  case atStart => exact ⟨0, by omega, rfl, rfl⟩
  case round =>
    obtain ⟨k, hk, rfl, hall⟩ := hrel
    by_cases hlt : k < D.length
    · have htk := Lib.hid (List.take_succ_eq_append_getElem hlt)
      obtain ⟨x, hx0⟩ : ∃ x, D[k] = x := ⟨_, rfl⟩
      have hbx : ∀ h : k < (⟨⟨D⟩⟩ : ByteArray).size, (⟨⟨D⟩⟩ : ByteArray)[k]'h = x := fun _ => hx0
      rw [hx0] at htk
      clear hx0
      have hx256 : x.toNat < 256 := x.toNat_lt
      by_cases hd : digB x = true
      · obtain ⟨d1, d2⟩ := digB_iff.1 hd
        have b1 : decide ((x.toNat : Int) < 48) = false := by simp; omega
        have b2 : decide (57 < (x.toNat : Int)) = false := by simp; omega
        have HALL := Lib.hid (show (D.take (k + 1)).all digB = true by rw [htk.out, List.all_append, hall]; simp [hd])
        clear htk hall hd
        go_wp2_with fail
        go_round
        case rel => exact ⟨k + 1, by omega, by go_num, HALL.out⟩
        case measure => simp [intOf]; omega
      · have hF := Lib.hid (show okL D = false by
          have : D.all digB = false := take_all (k := k) (by rw [htk.out, List.all_append]; simp [hd])
          rw [okL, this]; simp)
        have hx : x.toNat < 48 ∨ 57 < x.toNat := by
          rcases Nat.lt_or_ge x.toNat 48 with h | h
          · exact .inl h
          · rcases Nat.lt_or_ge 57 x.toNat with h' | h'
            · exact .inr h'
            · exact absurd (digB_iff.2 ⟨h, h'⟩) hd
        clear htk hd hall
        rcases hx with h | h
        · have b1 : decide ((x.toNat : Int) < 48) = true := by simp; omega
          go_wp2_with fail
          go_ret
          exact ⟨by rw [hF.out]; rfl, rfl⟩
        · have b1 : decide ((x.toNat : Int) < 48) = false := by simp; omega
          have b2 : decide (57 < (x.toNat : Int)) = true := by simp; omega
          go_wp2_with fail
          go_ret
          exact ⟨by rw [hF.out]; rfl, rfl⟩
    · obtain rfl : k = D.length := by omega
      rw [List.take_length] at hall
      have hF := Lib.hid (show okL D = (decide (1 ≤ D.length) && decide (D.length ≤ 30)) by rw [okL, hall, Bool.and_true])
      clear hall
      by_cases l1 : 1 ≤ D.length
      · by_cases l2 : D.length ≤ 30
        · have m1 : decide (1 ≤ (D.length : Int)) = true := by simp; omega
          have m2 : decide ((D.length : Int) ≤ 30) = true := by simp; omega
          have hG := Lib.hid (show okL D = true by rw [hF.out, decide_eq_true l1, decide_eq_true l2]; rfl)
          clear hF
          go_wp2_with fail
          go_ret
          exact ⟨by rw [hG.out]; first | rfl | simp [m1, m2] | simp; omega, rfl⟩
        · have m1 : decide (1 ≤ (D.length : Int)) = true := by simp; omega
          have m2 : decide ((D.length : Int) ≤ 30) = false := by simp; omega
          have hG := Lib.hid (show okL D = false by rw [hF.out, decide_eq_false l2]; simp)
          clear hF
          go_wp2_with fail
          go_ret
          exact ⟨by rw [hG.out]; first | rfl | simp [m1, m2] | simp; omega, rfl⟩
      · have m1 : decide (1 ≤ (D.length : Int)) = false := by simp; omega
        have hG := Lib.hid (show okL D = false by rw [hF.out, decide_eq_false l1]; rfl)
        clear hF
        go_wp2_with fail
        go_ret
        exact ⟨by rw [hG.out]; first | rfl | simp [m1] | simp; omega, rfl⟩

theorem refdig_none (c : UInt8) (r : List UInt8) (hc : ¬ c = 45) (hc' : ¬ c = 43) (hs : (c :: r).length ≤ 4611686018427387904) (W : World) :
    Calls Tryd.prog 81 #[.string ⟨⟨c :: r⟩⟩] W fun e w' => e = .returned (.bool (okL (c :: r))) ∧ w' = W := by
  have eb := ba_zero c r
  have g45 : ((c.toNat : Int) == 45) = false := (u8beq c 45).trans (by simpa using hc)
  have g43 : ((c.toNat : Int) == 43) = false := (u8beq c 43).trans (by simpa using hc')
  have hpos : 0 < (⟨⟨c :: r⟩⟩ : ByteArray).size := by show 0 < (c :: r).length; simp
  obtain ⟨D, hD⟩ : ∃ D, D = c :: r := ⟨_, rfl⟩
  have hDl : 0 < D.length := by rw [hD]; simp
  rw [← hD] at eb hs ⊢
  clear hD hpos
  go_enter Tryd.func81, Tryd.ntmps81
  go_wp2_with fail
  clear eb g45 g43 hDl
  go_loop [3] (fun i => ∃ k : Nat, k ≤ D.length ∧ i = .int .i64 k ∧ (D.take k).all digB = true) (fun i => D.length - (intOf i).toNat)
  case atStart => exact ⟨0, by omega, rfl, rfl⟩
  case round =>
    obtain ⟨k, hk, rfl, hall⟩ := hrel
    by_cases hlt : k < D.length
    · have htk := Lib.hid (List.take_succ_eq_append_getElem hlt)
      obtain ⟨x, hx0⟩ : ∃ x, D[k] = x := ⟨_, rfl⟩
      have hbx : ∀ h : k < (⟨⟨D⟩⟩ : ByteArray).size, (⟨⟨D⟩⟩ : ByteArray)[k]'h = x := fun _ => hx0
      rw [hx0] at htk
      clear hx0
      have hx256 : x.toNat < 256 := x.toNat_lt
      by_cases hd : digB x = true
      · obtain ⟨d1, d2⟩ := digB_iff.1 hd
        have b1 : decide ((x.toNat : Int) < 48) = false := by simp; omega
        have b2 : decide (57 < (x.toNat : Int)) = false := by simp; omega
        have HALL := Lib.hid (show (D.take (k + 1)).all digB = true by rw [htk.out, List.all_append, hall]; simp [hd])
        clear htk hall hd
        go_wp2_with fail
        go_round
        case rel => exact ⟨k + 1, by omega, by go_num, HALL.out⟩
        case measure => simp [intOf]; omega
      · have hF := Lib.hid (show okL D = false by
          have : D.all digB = false := take_all (k := k) (by rw [htk.out, List.all_append]; simp [hd])
          rw [okL, this]; simp)
        have hx : x.toNat < 48 ∨ 57 < x.toNat := by
          rcases Nat.lt_or_ge x.toNat 48 with h | h
          · exact .inl h
          · rcases Nat.lt_or_ge 57 x.toNat with h' | h'
            · exact .inr h'
            · exact absurd (digB_iff.2 ⟨h, h'⟩) hd
        clear htk hd hall
        rcases hx with h | h
        · have b1 : decide ((x.toNat : Int) < 48) = true := by simp; omega
          go_wp2_with fail
          go_ret
          exact ⟨by rw [hF.out]; rfl, rfl⟩
        · have b1 : decide ((x.toNat : Int) < 48) = false := by simp; omega
          have b2 : decide (57 < (x.toNat : Int)) = true := by simp; omega
          go_wp2_with fail
          go_ret
          exact ⟨by rw [hF.out]; rfl, rfl⟩
    · obtain rfl : k = D.length := by omega
      rw [List.take_length] at hall
      have hF := Lib.hid (show okL D = (decide (1 ≤ D.length) && decide (D.length ≤ 30)) by rw [okL, hall, Bool.and_true])
      clear hall
      by_cases l1 : 1 ≤ D.length
      · by_cases l2 : D.length ≤ 30
        · have m1 : decide (1 ≤ (D.length : Int)) = true := by simp; omega
          have m2 : decide ((D.length : Int) ≤ 30) = true := by simp; omega
          have hG := Lib.hid (show okL D = true by rw [hF.out, decide_eq_true l1, decide_eq_true l2]; rfl)
          clear hF
          go_wp2_with fail
          go_ret
          exact ⟨by rw [hG.out]; first | rfl | simp [m1, m2] | simp; omega, rfl⟩
        · have m1 : decide (1 ≤ (D.length : Int)) = true := by simp; omega
          have m2 : decide ((D.length : Int) ≤ 30) = false := by simp; omega
          have hG := Lib.hid (show okL D = false by rw [hF.out, decide_eq_false l2]; simp)
          clear hF
          go_wp2_with fail
          go_ret
          exact ⟨by rw [hG.out]; first | rfl | simp [m1, m2] | simp; omega, rfl⟩
      · have m1 : decide (1 ≤ (D.length : Int)) = false := by simp; omega
        have hG := Lib.hid (show okL D = false by rw [hF.out, decide_eq_false l1]; rfl)
        clear hF
        go_wp2_with fail
        go_ret
        exact ⟨by rw [hG.out]; first | rfl | simp [m1] | simp; omega, rfl⟩

theorem refdigits_any (s : ByteArray) (hs : s.data.toList.length ≤ 4611686018427387904) (W : World) :
    Calls Tryd.prog 81 #[.string s] W fun e w' => e = .returned (.bool (okL (bodyL s.data.toList))) ∧ w' = W := by
  obtain ⟨⟨l⟩⟩ := s
  rw [show (ByteArray.mk ⟨l⟩).data.toList = l from rfl] at hs ⊢
  rcases l with _ | ⟨c, r⟩
  · have H := Lib.hid (show okL (bodyL []) = false from rfl)
    go_enter Tryd.func81, Tryd.ntmps81
    go_wp2_with fail
    go_loop [3] (fun i => i = .int .i64 0) (fun _ => 0)
    case atStart => rfl
    case round =>
      subst hrel
      go_wp2_with fail
      go_ret
      exact ⟨by rw [H.out]; rfl, rfl⟩
  · by_cases h45 : c = 45
    · subst h45
      exact refdig_minus r (by simp at hs; omega) W
    · by_cases h43 : c = 43
      · subst h43
        exact refdig_plus r (by simp at hs; omega) W
      · have e : bodyL (c :: r) = c :: r := by simp [bodyL, h45, h43]
        rw [e]
        exact refdig_none c r h45 h43 hs W
end Go.Proofs.YthighbbikpnpgaaDoor

/-! DtB -/
namespace Go.Proofs.YthighbbikpnpgaaDoor
open Go.RowKit Go.Proofs.YthighbbikpnpgaaDoor.PSh Go.Proofs.YthighbbikpnpgaaDoorW.PrintWords

def lastK (l : List Dat) : Int := match l.getLast? with | some x => x.f0 | none => 0
mutual
/-- May a datum stand within so many? -/
def fitsD : Dat → Nat → Bool
  | ⟨k, n, t, l⟩, wi => !decide (64 ≤ wi) && (
    if k = 1 then decide (l = []) && decide (t.toList = []) && decide (n ≤ 1152921504606846975) && decide (-1152921504606846976 ≤ n)
    else if k = 2 then decide (l = []) && decide (t.toList = []) && (n == 0 || n == 1)
    else if k = 3 then decide (l = []) && decide (t.toList = []) && (decide (0 ≤ n) && decide (n ≤ 255))
    else if k = 4 then decide (l = []) && (n == 0) && decide (t.size ≤ 500)
    else if k = 5 then decide (l = []) && (n == 0) && symL t.data.toList
    else if k = 7 then decide (2 ≤ l.length) && !(lastK l == 6) && !(lastK l == 7) && fitsL l (wi + 1) && (n == 0) && decide (t.toList = [])
    else if k = 6 ∨ k = 8 then fitsL l (wi + 1) && (n == 0) && decide (t.toList = [])
    else false)
def fitsL : List Dat → Nat → Bool
  | [], _ => true
  | x :: r, wi => fitsD x wi && fitsL r wi
end

def FitsTo (b : Bool) (w : World) (e : Ending) (w' : World) : Prop := e = .returned (.bool b) ∧ Below w.heap.size w w'

theorem half_zero (m : Int) : (m / 2 == 0) = (m == 0 || m == 1) := by rw [Bool.eq_iff_iff]; simp; omega
theorem byte_zero (m : Int) : (m / 256 == 0) = (decide (0 ≤ m) && decide (m ≤ 255)) := by rw [Bool.eq_iff_iff]; simp; omega
theorem ret_bool {a b : Bool} (h : a = b) : Ending.returned (.bool a) = .returned (.bool b) := by rw [h]

set_option maxRecDepth 400000 in
set_option maxHeartbeats 1000000 in
theorem fits_deep (p : Addr) (n : Int) (hn : 64 ≤ n) (w : World) :
    Calls Tryd.prog 114 #[.pointer (some p), .int .i64 n] w (FitsTo false w) := by
  go_enter Tryd.func114, Tryd.ntmps114
  go_wp2_with fail
  go_ret
  exact ⟨rfl, Below.refl _ _⟩

set_option maxRecDepth 400000 in
set_option maxHeartbeats 1000000 in
theorem fits_1 (m : Int) (t : ByteArray) (l : List Dat) (p : Addr) (n : Int) (hn : ¬ 64 ≤ n) (w : World) (A : Option Addr) (c : Nat) (hD : DatAt w p ⟨1, m, t, l⟩ A c) :
    Calls Tryd.prog 114 #[.pointer (some p), .int .i64 n] w (FitsTo (decide (l = []) && decide (t.toList = []) && decide (m ≤ 1152921504606846975) && decide (-1152921504606846976 ≤ m)) w) := by
  have c0 := hD.c0
  have c1 := hD.c1
  have c2 := hD.c2
  have c3 := hD.c3
  clear hD
  obtain ⟨R, hR⟩ : ∃ R : Bool, R = (decide (l = []) && decide (t.toList = []) && decide (m ≤ 1152921504606846975) && decide (-1152921504606846976 ≤ m)) := ⟨_, rfl⟩
  rw [← hR]
  have HR := Lib.hid hR
  clear hR
  go_enter Tryd.func114, Tryd.ntmps114
  go_wp2_with fail
  all_goals
    go_ret
    exact ⟨ret_bool (by rw [HR.out]; simp [*] <;> omega), Below.refl _ _⟩

set_option maxRecDepth 400000 in
set_option maxHeartbeats 1000000 in
theorem fits_2 (m : Int) (t : ByteArray) (l : List Dat) (p : Addr) (n : Int) (hn : ¬ 64 ≤ n) (w : World) (A : Option Addr) (c : Nat) (hD : DatAt w p ⟨2, m, t, l⟩ A c) :
    Calls Tryd.prog 114 #[.pointer (some p), .int .i64 n] w (FitsTo (decide (l = []) && decide (t.toList = []) && (m == 0 || m == 1)) w) := by
  have c0 := hD.c0
  have c1 := hD.c1
  have c2 := hD.c2
  have c3 := hD.c3
  clear hD
  obtain ⟨R, hR⟩ : ∃ R : Bool, R = (decide (l = []) && decide (t.toList = []) && (m == 0 || m == 1)) := ⟨_, rfl⟩
  rw [← hR]
  have HR := Lib.hid hR
  clear hR
  go_enter Tryd.func114, Tryd.ntmps114
  go_wp2_with fail
  all_goals
    go_ret
    exact ⟨ret_bool (by rw [HR.out]; simp [*, half_zero]), Below.refl _ _⟩

set_option maxRecDepth 400000 in
set_option maxHeartbeats 1000000 in
theorem fits_3 (m : Int) (t : ByteArray) (l : List Dat) (p : Addr) (n : Int) (hn : ¬ 64 ≤ n) (w : World) (A : Option Addr) (c : Nat) (hD : DatAt w p ⟨3, m, t, l⟩ A c) :
    Calls Tryd.prog 114 #[.pointer (some p), .int .i64 n] w (FitsTo (decide (l = []) && decide (t.toList = []) && (decide (0 ≤ m) && decide (m ≤ 255))) w) := by
  have c0 := hD.c0
  have c1 := hD.c1
  have c2 := hD.c2
  have c3 := hD.c3
  clear hD
  obtain ⟨R, hR⟩ : ∃ R : Bool, R = (decide (l = []) && decide (t.toList = []) && (decide (0 ≤ m) && decide (m ≤ 255))) := ⟨_, rfl⟩
  rw [← hR]
  have HR := Lib.hid hR
  clear hR
  go_enter Tryd.func114, Tryd.ntmps114
  go_wp2_with fail
  all_goals
    go_ret
    exact ⟨ret_bool (by rw [HR.out]; simp [*, byte_zero]), Below.refl _ _⟩

set_option maxRecDepth 400000 in
set_option maxHeartbeats 1000000 in
theorem fits_4 (m : Int) (t : ByteArray) (l : List Dat) (p : Addr) (n : Int) (hn : ¬ 64 ≤ n) (w : World) (A : Option Addr) (c : Nat) (hD : DatAt w p ⟨4, m, t, l⟩ A c) :
    Calls Tryd.prog 114 #[.pointer (some p), .int .i64 n] w (FitsTo (decide (l = []) && (m == 0) && decide (t.size ≤ 500)) w) := by
  have c0 := hD.c0
  have c1 := hD.c1
  have c2 := hD.c2
  have c3 := hD.c3
  clear hD
  obtain ⟨R, hR⟩ : ∃ R : Bool, R = (decide (l = []) && (m == 0) && decide (t.size ≤ 500)) := ⟨_, rfl⟩
  rw [← hR]
  have HR := Lib.hid hR
  clear hR
  go_enter Tryd.func114, Tryd.ntmps114
  go_wp2_with fail
  all_goals
    go_ret
    exact ⟨ret_bool (by rw [HR.out]; simp [*] <;> omega), Below.refl _ _⟩

set_option maxRecDepth 400000 in
set_option maxHeartbeats 1000000 in
theorem fits_5 (m : Int) (t : ByteArray) (l : List Dat) (p : Addr) (n : Int) (hn : ¬ 64 ≤ n) (w : World) (A : Option Addr) (c : Nat) (hD : DatAt w p ⟨5, m, t, l⟩ A c) :
    Calls Tryd.prog 114 #[.pointer (some p), .int .i64 n] w (FitsTo (decide (l = []) && (m == 0) && symL t.data.toList) w) := by
  have c0 := hD.c0
  have c1 := hD.c1
  have c2 := hD.c2
  have c3 := hD.c3
  clear hD
  have cS := Lib.hid (symbol_any t w)
  obtain ⟨R, hR⟩ : ∃ R : Bool, R = (decide (l = []) && (m == 0) && symL t.data.toList) := ⟨_, rfl⟩
  rw [← hR]
  generalize symL t.data.toList = y at cS hR
  have HR := Lib.hid hR
  clear hR
  by_cases h1 : l = []
  · by_cases h2 : m = 0
    · subst h1 h2
      go_enter Tryd.func114, Tryd.ntmps114
      go_wp2_with fail
      refine cS.out.mono ?_
      rintro e w' ⟨rfl, hb⟩
      go_wp2_with fail
      go_ret
      exact ⟨ret_bool (by rw [HR.out]; simp), hb⟩
    · have h2' : (m == 0) = false := by simpa using h2
      have HR2 := Lib.hid (show R = false by rw [HR.out, h2']; simp)
      subst h1
      clear h2
      go_enter Tryd.func114, Tryd.ntmps114
      go_wp2_with fail
      go_ret
      exact ⟨ret_bool (by rw [HR2.out]), Below.refl _ _⟩
  · have HR2 := Lib.hid (show R = false by rw [HR.out]; simp [h1])
    have hl : ((l.length : Int) == 0) = false := by rw [beq_eq_false_iff_ne]; intro e; apply h1; exact List.length_eq_zero_iff.1 (by omega)
    go_enter Tryd.func114, Tryd.ntmps114
    go_wp2_with fail
    go_ret
    exact ⟨ret_bool (by rw [HR2.out]), Below.refl _ _⟩

set_option maxRecDepth 400000 in
set_option maxHeartbeats 1000000 in
theorem fits_none (k : Int) (hk : k ≠ 1 ∧ k ≠ 2 ∧ k ≠ 3 ∧ k ≠ 4 ∧ k ≠ 5 ∧ k ≠ 6 ∧ k ≠ 7 ∧ k ≠ 8) (m : Int) (t : ByteArray) (l : List Dat) (p : Addr) (n : Int) (hn : ¬ 64 ≤ n) (w : World) (A : Option Addr) (c : Nat) (hD : DatAt w p ⟨k, m, t, l⟩ A c) :
    Calls Tryd.prog 114 #[.pointer (some p), .int .i64 n] w (FitsTo false w) := by
  have c0 : w.cell? p = some (.int .i64 k) := hD.c0
  clear hD
  obtain ⟨k1, k2, k3, k4, k5, k6, k7, k8⟩ := hk
  have b1 : (k == 1) = false := by simpa using k1
  have b2 : (k == 2) = false := by simpa using k2
  have b3 : (k == 3) = false := by simpa using k3
  have b4 : (k == 4) = false := by simpa using k4
  have b5 : (k == 5) = false := by simpa using k5
  have b6 : (k == 6) = false := by simpa using k6
  have b7 : (k == 7) = false := by simpa using k7
  have b8 : (k == 8) = false := by simpa using k8
  clear k1 k2 k3 k4 k5 k6 k7 k8
  go_enter Tryd.func114, Tryd.ntmps114
  go_wp2_with fail
  go_ret
  exact ⟨rfl, Below.refl _ _⟩
theorem isE (l : List UInt8) : l.isEmpty = decide (l = []) := by cases l <;> simp
end Go.Proofs.YthighbbikpnpgaaDoor

/-! DtC -/
namespace Go.Proofs.YthighbbikpnpgaaDoor
open Go.RowKit Go.Proofs.YthighbbikpnpgaaDoor.PSh Go.Proofs.YthighbbikpnpgaaDoorW.PrintWords

set_option maxRecDepth 400000 in
set_option maxHeartbeats 2000000 in
theorem fits_6 (m : Int) (t : ByteArray) (l : List Dat) (p : Addr) (n : Nat) (hn : n < 64) (w : World) (A : Option Addr) (c : Nat) (hD : DatAt w p ⟨6, m, t, l⟩ A c)
    (ih : ∀ x : Dat, x ∈ l → ∀ (p : Addr) (w : World) (A : Option Addr) (c : Nat), DatAt w p x A c → Calls Tryd.prog 114 #[.pointer (some p), .int .i64 ((n : Int) + 1)] w (FitsTo (fitsD x (n + 1)) w)) :
    Calls Tryd.prog 114 #[.pointer (some p), .int .i64 (n : Nat)] w (FitsTo (fitsL l (n + 1) && (m == 0) && decide (t.toList = [])) w) := by
  have c0 := hD.c0
  have c1 := hD.c1
  have c2 := hD.c2
  have c3 := hD.c3
  have H := Lib.hid hD
  have h63 : l.length ≤ 9223372036854775807 := hD.items.2.1
  have IH := Lib.hid ih
  clear hD ih
  obtain ⟨R, hR⟩ : ∃ R : Bool, R = (fitsL l (n + 1) && (m == 0) && decide (t.toList = [])) := ⟨_, rfl⟩
  rw [← hR]
  have HR := Lib.hid hR
  clear hR
  go_enter Tryd.func114, Tryd.ntmps114
  go_wp2_with fail
  clear c0 c1 c2 c3
  go_loopw [174] (fun i wr => ∃ j : Nat, j ≤ l.length ∧ i = .int .i64 (j : Nat) ∧ Hid (DatAt wr p ⟨6, m, t, l⟩ A c) ∧ Hid (Below w.heap.size w wr) ∧ Hid (fitsL (l.drop j) (n + 1) = fitsL l (n + 1))) (fun i _ => l.length - (intOf i).toNat)
  case atStart => exact ⟨0, Nat.zero_le _, rfl, H, Lib.hid (Below.refl _ _), Lib.hid rfl⟩
  case round =>
    obtain ⟨j, hj, rfl, HD, HB, HF⟩ := hrel
    have c1 := HD.out.c1
    have c2 := HD.out.c2
    have c3 := HD.out.c3
    have HJ := Lib.hid hj
    by_cases hlt : j < l.length
    · obtain ⟨ad', rfl, A', c', hD'⟩ := dat_item HD.out.items j hlt hlt

      have HC := Lib.hid (IH.out l[j] (List.getElem_mem hlt) _ _ A' c' hD')
      have HS := Lib.hid (show (fitsD l[j] (n + 1) && fitsL (l.drop (j + 1)) (n + 1)) = fitsL l (n + 1) by rw [← HF.out, List.drop_eq_getElem_cons hlt, fitsL])
      have HLT := Lib.hid hlt
      generalize fitsD l[j] (n + 1) = y at HC HS
      clear hD'
      cases y
      · have HR2 := Lib.hid (show R = false by rw [HR.out, ← HS.out]; simp)
        go_wp2_with fail
        refine HC.out.mono ?_
        rintro e w' ⟨rfl, hb⟩
        go_wp2_with fail
        go_ret
        exact ⟨ret_bool (by rw [HR2.out]), below_trans HB.out hb⟩
      · have HS2 := Lib.hid (show fitsL (l.drop (j + 1)) (n + 1) = fitsL l (n + 1) by rw [← HS.out]; simp)
        go_wp2_with fail
        refine HC.out.mono ?_
        rintro e w' ⟨rfl, hb⟩
        have HD2 := Lib.hid (HD.out.below hb)
        have HB2 := Lib.hid (below_trans HB.out hb)
        clear c1 c2 c3 hb
        go_wp2_with fail
        go_roundw
        case rel => exact ⟨j + 1, by have := HLT.out; omega, by go_num, HD2, HB2, HS2⟩
        case measure => have := HLT.out; simp [intOf]; omega
    · obtain rfl : j = l.length := by omega
      have HT := Lib.hid (show R = ((m == 0) && decide (t.toList = [])) by rw [HR.out, ← HF.out, List.drop_length, fitsL]; simp)
      go_wp2_with fail
      all_goals
        go_ret
        exact ⟨ret_bool (by rw [HT.out]; simp [*, isE]), HB.out⟩

set_option maxRecDepth 400000 in
set_option maxHeartbeats 2000000 in
theorem fits_8 (m : Int) (t : ByteArray) (l : List Dat) (p : Addr) (n : Nat) (hn : n < 64) (w : World) (A : Option Addr) (c : Nat) (hD : DatAt w p ⟨8, m, t, l⟩ A c)
    (ih : ∀ x : Dat, x ∈ l → ∀ (p : Addr) (w : World) (A : Option Addr) (c : Nat), DatAt w p x A c → Calls Tryd.prog 114 #[.pointer (some p), .int .i64 ((n : Int) + 1)] w (FitsTo (fitsD x (n + 1)) w)) :
    Calls Tryd.prog 114 #[.pointer (some p), .int .i64 (n : Nat)] w (FitsTo (fitsL l (n + 1) && (m == 0) && decide (t.toList = [])) w) := by
  have c0 := hD.c0
  have c1 := hD.c1
  have c2 := hD.c2
  have c3 := hD.c3
  have H := Lib.hid hD
  have h63 : l.length ≤ 9223372036854775807 := hD.items.2.1
  have IH := Lib.hid ih
  clear hD ih
  obtain ⟨R, hR⟩ : ∃ R : Bool, R = (fitsL l (n + 1) && (m == 0) && decide (t.toList = [])) := ⟨_, rfl⟩
  rw [← hR]
  have HR := Lib.hid hR
  clear hR
  go_enter Tryd.func114, Tryd.ntmps114
  go_wp2_with fail
  clear c0 c1 c2 c3
  go_loopw [174] (fun i wr => ∃ j : Nat, j ≤ l.length ∧ i = .int .i64 (j : Nat) ∧ Hid (DatAt wr p ⟨8, m, t, l⟩ A c) ∧ Hid (Below w.heap.size w wr) ∧ Hid (fitsL (l.drop j) (n + 1) = fitsL l (n + 1))) (fun i _ => l.length - (intOf i).toNat)
  case atStart => exact ⟨0, Nat.zero_le _, rfl, H, Lib.hid (Below.refl _ _), Lib.hid rfl⟩
  case round =>
    obtain ⟨j, hj, rfl, HD, HB, HF⟩ := hrel
    have c1 := HD.out.c1
    have c2 := HD.out.c2
    have c3 := HD.out.c3
    have HJ := Lib.hid hj
    by_cases hlt : j < l.length
    · obtain ⟨ad', rfl, A', c', hD'⟩ := dat_item HD.out.items j hlt hlt

      have HC := Lib.hid (IH.out l[j] (List.getElem_mem hlt) _ _ A' c' hD')
      have HS := Lib.hid (show (fitsD l[j] (n + 1) && fitsL (l.drop (j + 1)) (n + 1)) = fitsL l (n + 1) by rw [← HF.out, List.drop_eq_getElem_cons hlt, fitsL])
      have HLT := Lib.hid hlt
      generalize fitsD l[j] (n + 1) = y at HC HS
      clear hD'
      cases y
      · have HR2 := Lib.hid (show R = false by rw [HR.out, ← HS.out]; simp)
        go_wp2_with fail
        refine HC.out.mono ?_
        rintro e w' ⟨rfl, hb⟩
        go_wp2_with fail
        go_ret
        exact ⟨ret_bool (by rw [HR2.out]), below_trans HB.out hb⟩
      · have HS2 := Lib.hid (show fitsL (l.drop (j + 1)) (n + 1) = fitsL l (n + 1) by rw [← HS.out]; simp)
        go_wp2_with fail
        refine HC.out.mono ?_
        rintro e w' ⟨rfl, hb⟩
        have HD2 := Lib.hid (HD.out.below hb)
        have HB2 := Lib.hid (below_trans HB.out hb)
        clear c1 c2 c3 hb
        go_wp2_with fail
        go_roundw
        case rel => exact ⟨j + 1, by have := HLT.out; omega, by go_num, HD2, HB2, HS2⟩
        case measure => have := HLT.out; simp [intOf]; omega
    · obtain rfl : j = l.length := by omega
      have HT := Lib.hid (show R = ((m == 0) && decide (t.toList = [])) by rw [HR.out, ← HF.out, List.drop_length, fitsL]; simp)
      go_wp2_with fail
      all_goals
        go_ret
        exact ⟨ret_bool (by rw [HT.out]; simp [*, isE]), HB.out⟩

set_option maxRecDepth 400000 in
set_option maxHeartbeats 2000000 in
theorem fits_7 (m : Int) (t : ByteArray) (l : List Dat) (p : Addr) (n : Nat) (hn : n < 64) (w : World) (A : Option Addr) (c : Nat) (hD : DatAt w p ⟨7, m, t, l⟩ A c) (hd : 2 ≤ l.length ∧ (lastK l == 6) = false ∧ (lastK l == 7) = false)
    (ih : ∀ x : Dat, x ∈ l → ∀ (p : Addr) (w : World) (A : Option Addr) (c : Nat), DatAt w p x A c → Calls Tryd.prog 114 #[.pointer (some p), .int .i64 ((n : Int) + 1)] w (FitsTo (fitsD x (n + 1)) w)) :
    Calls Tryd.prog 114 #[.pointer (some p), .int .i64 (n : Nat)] w (FitsTo (fitsL l (n + 1) && (m == 0) && decide (t.toList = [])) w) := by
  have hl2 : (2 : Int) ≤ l.length := by omega
  have hk6 : (lastK l == 6) = false := hd.2.1
  have hk7 : (lastK l == 7) = false := hd.2.2
  obtain ⟨ad, rfl, A1, c1', hDl⟩ := dat_item hD.items (l.length - 1) (by show l.length - 1 < l.length; omega) (by show l.length - 1 < l.length; omega)
  have hlast : (l[l.length - 1]'(by omega)).f0 = lastK l := by
    unfold lastK
    rw [List.getLast?_eq_getElem?, List.getElem?_eq_getElem (by omega)]
  have cl : w.cell? (ad.add ((l.length - 1) * 4)) = some (.int .i64 (lastK l)) := by rw [← hlast]; exact hDl.c0
  clear hDl hlast
  generalize lastK l = lk at hk6 hk7 cl
  have c0 := hD.c0
  have c1 := hD.c1
  have c2 := hD.c2
  have c3 := hD.c3
  have H := Lib.hid hD
  have h63 : l.length ≤ 9223372036854775807 := hD.items.2.1
  have IH := Lib.hid ih
  clear hD ih hd
  obtain ⟨R, hR⟩ : ∃ R : Bool, R = (fitsL l (n + 1) && (m == 0) && decide (t.toList = [])) := ⟨_, rfl⟩
  rw [← hR]
  have HR := Lib.hid hR
  clear hR
  go_enter Tryd.func114, Tryd.ntmps114
  go_wp2_with fail
  clear c0 c1 c2 c3
  go_loopw [174] (fun i wr => ∃ j : Nat, j ≤ l.length ∧ i = .int .i64 (j : Nat) ∧ Hid (DatAt wr p ⟨7, m, t, l⟩ (some ad) c) ∧ Hid (Below w.heap.size w wr) ∧ Hid (fitsL (l.drop j) (n + 1) = fitsL l (n + 1))) (fun i _ => l.length - (intOf i).toNat)
  case atStart => exact ⟨0, Nat.zero_le _, rfl, H, Lib.hid (Below.refl _ _), Lib.hid rfl⟩
  case round =>
    obtain ⟨j, hj, rfl, HD, HB, HF⟩ := hrel
    have c1 := HD.out.c1
    have c2 := HD.out.c2
    have c3 := HD.out.c3
    have HJ := Lib.hid hj
    by_cases hlt : j < l.length
    · obtain ⟨ad', e, A', c', hD'⟩ := dat_item HD.out.items j hlt hlt
      cases e
      have HC := Lib.hid (IH.out l[j] (List.getElem_mem hlt) _ _ A' c' hD')
      have HS := Lib.hid (show (fitsD l[j] (n + 1) && fitsL (l.drop (j + 1)) (n + 1)) = fitsL l (n + 1) by rw [← HF.out, List.drop_eq_getElem_cons hlt, fitsL])
      have HLT := Lib.hid hlt
      generalize fitsD l[j] (n + 1) = y at HC HS
      clear hD'
      cases y
      · have HR2 := Lib.hid (show R = false by rw [HR.out, ← HS.out]; simp)
        go_wp2_with fail
        refine HC.out.mono ?_
        rintro e w' ⟨rfl, hb⟩
        go_wp2_with fail
        go_ret
        exact ⟨ret_bool (by rw [HR2.out]), below_trans HB.out hb⟩
      · have HS2 := Lib.hid (show fitsL (l.drop (j + 1)) (n + 1) = fitsL l (n + 1) by rw [← HS.out]; simp)
        go_wp2_with fail
        refine HC.out.mono ?_
        rintro e w' ⟨rfl, hb⟩
        have HD2 := Lib.hid (HD.out.below hb)
        have HB2 := Lib.hid (below_trans HB.out hb)
        clear c1 c2 c3 hb
        go_wp2_with fail
        go_roundw
        case rel => exact ⟨j + 1, by have := HLT.out; omega, by go_num, HD2, HB2, HS2⟩
        case measure => have := HLT.out; simp [intOf]; omega
    · obtain rfl : j = l.length := by omega
      have HT := Lib.hid (show R = ((m == 0) && decide (t.toList = [])) by rw [HR.out, ← HF.out, List.drop_length, fitsL]; simp)
      go_wp2_with fail
      all_goals
        go_ret
        exact ⟨ret_bool (by rw [HT.out]; simp [*, isE]), HB.out⟩

end Go.Proofs.YthighbbikpnpgaaDoor

/-! DtD -/
namespace Go.Proofs.YthighbbikpnpgaaDoor
open Go.RowKit Go.Proofs.YthighbbikpnpgaaDoor.PSh Go.Proofs.YthighbbikpnpgaaDoorW.PrintWords

set_option maxRecDepth 400000 in
set_option maxHeartbeats 2000000 in
theorem fits_7_short (m : Int) (t : ByteArray) (l : List Dat) (p : Addr) (n : Nat) (hn : n < 64) (w : World) (A : Option Addr) (c : Nat) (hD : DatAt w p ⟨7, m, t, l⟩ A c) (hd : l.length < 2) :
    Calls Tryd.prog 114 #[.pointer (some p), .int .i64 (n : Nat)] w (FitsTo false w) := by
  have c0 := hD.c0
  have c3 := hD.c3
  have h2 : (l.length : Int) < 2 := by omega
  clear hD
  go_enter Tryd.func114, Tryd.ntmps114
  go_wp2_with fail
  go_ret
  exact ⟨rfl, Below.refl _ _⟩

set_option maxRecDepth 400000 in
set_option maxHeartbeats 2000000 in
theorem fits_7_last (m : Int) (t : ByteArray) (l : List Dat) (p : Addr) (n : Nat) (hn : n < 64) (w : World) (A : Option Addr) (c : Nat) (hD : DatAt w p ⟨7, m, t, l⟩ A c) (hd : 2 ≤ l.length) (hk : lastK l = 6 ∨ lastK l = 7) :
    Calls Tryd.prog 114 #[.pointer (some p), .int .i64 (n : Nat)] w (FitsTo false w) := by
  have h2 : (2 : Int) ≤ l.length := by omega
  obtain ⟨ad, rfl, A1, c1', hDl⟩ := dat_item hD.items (l.length - 1) (by show l.length - 1 < l.length; omega) (by show l.length - 1 < l.length; omega)
  have hlast : (l[l.length - 1]'(by omega)).f0 = lastK l := by
    unfold lastK
    rw [List.getLast?_eq_getElem?, List.getElem?_eq_getElem (by omega)]
  have cl : w.cell? (ad.add ((l.length - 1) * 4)) = some (.int .i64 (lastK l)) := by rw [← hlast]; exact hDl.c0
  clear hDl hlast
  generalize lastK l = lk at hk cl
  have c0 := hD.c0
  have c3 := hD.c3
  have h63 : l.length ≤ 9223372036854775807 := hD.items.2.1
  clear hD
  rcases hk with rfl | rfl
  all_goals
    go_enter Tryd.func114, Tryd.ntmps114
    go_wp2_with fail
    go_ret
    exact ⟨rfl, Below.refl _ _⟩

theorem fits_any (M : Nat) : ∀ x : Dat, szD x < M → ∀ (p : Addr) (n : Nat) (w : World) (A : Option Addr) (c : Nat), DatAt w p x A c →
    Calls Tryd.prog 114 #[.pointer (some p), .int .i64 (n : Nat)] w (FitsTo (fitsD x n) w) := by
  induction M with
  | zero => intro x h; omega
  | succ M ih =>
    intro x hx p n w A c hD
    have hx' : ∀ y ∈ x.f3, szD y < M := fun y hy => by have := dat_lt hy; omega
    obtain ⟨k, m, t, l⟩ := x
    rw [fitsD]
    by_cases hn : 64 ≤ n
    · rw [decide_eq_true hn]
      exact fits_deep p n (by omega) w
    · rw [decide_eq_false hn, Bool.not_false, Bool.true_and]
      have ih' : ∀ x : Dat, x ∈ l → ∀ (p : Addr) (w : World) (A : Option Addr) (c : Nat), DatAt w p x A c → Calls Tryd.prog 114 #[.pointer (some p), .int .i64 ((n : Int) + 1)] w (FitsTo (fitsD x (n + 1)) w) :=
        fun y hy q w' A' c' hD' => by have := ih y (hx' y hy) q (n + 1) w' A' c' hD'; rwa [Int.natCast_add] at this
      by_cases k1 : k = 1
      · subst k1; rw [if_pos rfl]; exact fits_1 m t l p n (by omega) w A c hD
      rw [if_neg k1]
      by_cases k2 : k = 2
      · subst k2; rw [if_pos rfl]; exact fits_2 m t l p n (by omega) w A c hD
      rw [if_neg k2]
      by_cases k3 : k = 3
      · subst k3; rw [if_pos rfl]; exact fits_3 m t l p n (by omega) w A c hD
      rw [if_neg k3]
      by_cases k4 : k = 4
      · subst k4; rw [if_pos rfl]; exact fits_4 m t l p n (by omega) w A c hD
      rw [if_neg k4]
      by_cases k5 : k = 5
      · subst k5; rw [if_pos rfl]; exact fits_5 m t l p n (by omega) w A c hD
      rw [if_neg k5]
      by_cases k7 : k = 7
      · subst k7
        rw [if_pos rfl]
        by_cases h2 : 2 ≤ l.length
        · by_cases h6 : lastK l = 6
          · rw [h6]
            simp only [decide_eq_true h2, beq_self_eq_true, Bool.not_true, Bool.and_false, Bool.false_and]
            exact fits_7_last m t l p n (by omega) w A c hD h2 (.inl h6)
          · by_cases h7 : lastK l = 7
            · rw [h7]
              simp only [beq_self_eq_true, Bool.not_true, Bool.and_false, Bool.false_and]
              exact fits_7_last m t l p n (by omega) w A c hD h2 (.inr h7)
            · have b6 : (lastK l == 6) = false := by simpa using h6
              have b7 : (lastK l == 7) = false := by simpa using h7
              rw [decide_eq_true h2, b6, b7]
              simp only [Bool.not_false, Bool.and_self, Bool.true_and]
              exact fits_7 m t l p n (by omega) w A c hD ⟨h2, b6, b7⟩ ih'
        · rw [decide_eq_false h2]
          simp only [Bool.false_and]
          exact fits_7_short m t l p n (by omega) w A c hD (by omega)
      rw [if_neg k7]
      by_cases k6 : k = 6
      · subst k6; rw [if_pos (.inl rfl)]; exact fits_6 m t l p n (by omega) w A c hD ih'
      by_cases k8 : k = 8
      · subst k8; rw [if_pos (.inr rfl)]; exact fits_8 m t l p n (by omega) w A c hD ih'
      rw [if_neg (by rintro (h | h); exact k6 h; exact k8 h)]
      exact fits_none k ⟨k1, k2, k3, k4, k5, k6, k7, k8⟩ m t l p n (by omega) w A c hD

/-- May it be a datum? -/
def rightD (x : Dat) : Bool := decide (cnt x 0 ≤ 4000) && fitsD x 0
def CheckTo (b : Bool) (w : World) (e : Ending) (w' : World) : Prop := e = .returned (if b = true then .nilIface else kindV 7) ∧ Below w.heap.size w w'

set_option maxRecDepth 16000 in
set_option maxHeartbeats 1000000 in
theorem check_any (x : Dat) (A : Option Addr) (c : Nat) (w : World) (hl : x.f3.length ≤ c) (hC : Kd.C kD w A x.f3.length x.f3) :
    Calls Tryd.prog 97 #[.agg #[.int .i64 x.f0, .int .i64 x.f1, .string x.f2, .slice A x.f3.length c]] w (CheckTo (rightD x) w) := by
  obtain ⟨W1, hW1⟩ : ∃ W1, W1 = w.alloc (.cells #[.int .i64 x.f0, .int .i64 x.f1, .string x.f2, .slice A x.f3.length c] 84) := ⟨_, rfl⟩
  have hbox := fun (w' : World) (hb : Below W1.heap.size W1 w') => dat_box w x A c hl hC w' (by rw [← hW1]; exact hb)
  have HBX := Lib.hid hbox
  have hb1 : Below w.heap.size w W1 := by rw [hW1]; exact (Below.refl _ _).alloc (Nat.le_refl _) _
  have cP := Lib.hid (fun w' hb => parts_any x A c w' hl (Kd.C_below hC hb))
  have cF := Lib.hid (fun p w' hD => fits_any (szD x + 1) x (by omega) p 0 w' A c hD)
  obtain ⟨R, hR⟩ : ∃ R : Bool, R = rightD x := ⟨_, rfl⟩
  rw [← hR]
  rw [rightD] at hR
  generalize cnt x 0 = q at cP hR
  generalize fitsD x 0 = y at cF hR
  have HR := Lib.hid hR
  have d := hbox W1 (Below.refl _ _)
  have c0 := d.c0
  have c1 := d.c1
  have c2 := d.c2
  have c3 := d.c3
  simp only [Nat.zero_add] at c1 c2 c3
  clear hR hbox hC d
  rw [hW1] at c0 c1 c2 c3
  have HW := Lib.hid hW1
  have hq : (4000 : Int) < q ∨ ¬ (4000 : Int) < q := by omega
  rcases hq with h4 | h4
  · have HR2 := Lib.hid (show R = false by rw [HR.out, decide_eq_false (by omega)]; rfl)
    go_enter Tryd.func97, Tryd.ntmps97
    go_wp2_with fail
    refine (cP.out _ (by rw [← HW.out]; exact hb1)).mono ?_
    rintro e w2 ⟨rfl, hb2⟩
    rw [← HW.out] at hb2
    go_wp2_with fail
    go_ret
    exact ⟨by rw [HR2.out]; rfl, below_trans hb1 hb2⟩
  · have h4' : decide ((4000 : Int) < q) = false := decide_eq_false h4
    have HR2 := Lib.hid (show R = y by rw [HR.out, decide_eq_true (by omega)]; rfl)
    clear h4
    cases y
    all_goals
      go_enter Tryd.func97, Tryd.ntmps97
      go_wp2_with fail
      refine (cP.out _ (by rw [← HW.out]; exact hb1)).mono ?_
      rintro e w2 ⟨rfl, hb2⟩
      rw [← HW.out] at hb2
      go_wp2_with fail
      refine (cF.out _ _ (HBX.out _ hb2)).mono ?_
      rintro e w3 ⟨rfl, hb3⟩
      go_wp2_with fail
      go_ret
      exact ⟨by rw [HR2.out]; rfl, below_trans hb1 (below_trans hb2 hb3)⟩
end Go.Proofs.YthighbbikpnpgaaDoor

/-! PShx11 -/
-- PRINTED by print.py (a twelfth state) out of the translation. Not trusted: Lean checks it.
namespace Go.Proofs.YthighbbikpnpgaaDoor.PSh
open Go.RowKit Go.Proofs.YthighbbikpnpgaaDoorW.PrintWords Go.Proofs.YthighbbikpnpgaaDoorW.PrintLast Go.Proofs.YthighbbikpnpgaaDoorW.PrintMore
attribute [local go_sem] max2_int min2_int max_two min_two max_three min_three max_four min_four   -- for this text's walks alone
set_option linter.unusedVariables false
set_option linter.unusedSimpArgs false

/-! ### spindleref09_Char: function 49 -/
def spindleref09_Char.j0 : Nat → Int → Bool → Option (ByteArray)
  | 0, _, _ => none
  | k + 1, x0, x3 => if x3 = true then (some (⟨#[]⟩ : ByteArray)) else (if x0 = 32 then (some (⟨#[35, 92, 115, 112, 97, 99, 101]⟩ : ByteArray)) else (if x0 = 10 then (some (⟨#[35, 92, 110, 101, 119, 108, 105, 110, 101]⟩ : ByteArray)) else (if x0 = 9 then (some (⟨#[35, 92, 116, 97, 98]⟩ : ByteArray)) else (if x0 = 0 then (some (⟨#[35, 92, 110, 117, 108]⟩ : ByteArray)) else ((some (([(x0) % 256] : List Int) : List Int)).bind fun y138 => (if 2 + (strOfNums y138).size ≤ 9223372036854775807 then (some ((⟨#[35, 92]⟩ : ByteArray) ++ (strOfNums y138))) else (none)))))))
def spindleref09_Char.f (k : Nat) (a0 : Int) : Option (ByteArray) := if a0 < 0 then (spindleref09_Char.j0 k a0 true) else (spindleref09_Char.j0 k a0 (decide (a0 > 255)))
theorem spindleref09_Char.mono_l : ∀ k, (∀ y0 y1, LeO (spindleref09_Char.j0 k y0 y1) (spindleref09_Char.j0 (k + 1) y0 y1))
  | 0 => fun _ _ r h => by simp [spindleref09_Char.j0] at h
  | k + 1 => by
    have ih0 := spindleref09_Char.mono_l k
    · intro y0 y1
      unfold spindleref09_Char.j0
      repeat' first
      | (with_reducible exact ih0 _ _)
      | (with_reducible exact LeO.refl _)
      | (with_reducible exact LeO.none _)
      | (with_reducible refine LeO.ite ?_ ?_)
      | (with_reducible refine LeO.bind ?_ (fun _ => ?_))
      | exact ih0 _ _
      | exact LeO.none _
      | refine LeO.ite ?_ ?_
      | refine LeO.bind ?_ (fun _ => ?_)
theorem spindleref09_Char.mono : ∀ a0 k, LeO (spindleref09_Char.f k a0) (spindleref09_Char.f (k + 1) a0) := by
  intro a0 k
  have ih0 := spindleref09_Char.mono_l k
  unfold spindleref09_Char.f
  repeat' first
      | (with_reducible exact ih0 _ _)
      | (with_reducible exact LeO.refl _)
      | (with_reducible exact LeO.none _)
      | (with_reducible refine LeO.ite ?_ ?_)
      | (with_reducible refine LeO.bind ?_ (fun _ => ?_))
      | exact ih0 _ _
      | exact LeO.none _
      | refine LeO.ite ?_ ?_
      | refine LeO.bind ?_ (fun _ => ?_)
set_option maxHeartbeats 8000000 in
set_option maxRecDepth 100000 in
theorem spindleref09_Char.calls (k : Nat) (a0 : Int) (r : ByteArray) (w : World) (h : spindleref09_Char.f k a0 = some r) :
    Calls Tryd.prog 49 #[.int .i64 a0] w fun e w' => e = .returned (.string r) ∧ Below w.heap.size w w' := by
  have HB := Aside0.mk (Below.refl w.heap.size w)
  have H : (if a0 < 0 then (spindleref09_Char.j0 k a0 true) else (spindleref09_Char.j0 k a0 (decide (a0 > 255)))) = some r := h
  clear h
  have HC2 := Aside0.mk H
  clear H
  go_enter Tryd.func49, Tryd.ntmps49
  go_upto_region 1 with (fail)
  go_cut [3] (fun v3 wc => ∃ (kq : Nat) (x3_1 : Bool), v3 = .bool x3_1 ∧ Aside0 (spindleref09_Char.j0 kq a0 x3_1 = some r) ∧ Aside0 (kq ≤ k) ∧ Aside0 (Below w.heap.size w wc))
  case first =>
    have H := HC2.out
    clear HC2
    by_cases c3 : a0 < 0
    · rw [if_pos c3] at H
      have c3b0 : decide (a0 < 0) = true := decide_eq_true c3
      clear c3
      (first | rw [c3b0] | (simp only [i64_w, i32_w]; rw [c3b0]) | skip)
      have H' := Aside0.mk H
      clear H
      go_wp2
      go_meet
      case rel => exact ⟨_, (true), (by first | rfl | (simp; done) | (simp [*]; done)), H', ⟨by first | omega | exact Nat.le_refl _⟩, ⟨by repeat (first | (with_reducible first | exact HB.out | apply below_alloc | apply pw_below_drewN | apply below_drew1) | exact HB.out)⟩⟩
    · rw [if_neg c3] at H
      have c3b0 : decide (a0 < 0) = false := decide_eq_false c3
      clear c3
      (first | rw [c3b0] | (simp only [i64_w, i32_w]; rw [c3b0]) | skip)
      have H' := Aside0.mk H
      clear H
      go_wp2
      go_meet
      case rel => exact ⟨_, (decide (a0 > 255)), (by first | rfl | (simp; done) | (simp [*]; done)), H', ⟨by first | omega | exact Nat.le_refl _⟩, ⟨by repeat (first | (with_reducible first | exact HB.out | apply below_alloc | apply pw_below_drewN | apply below_drew1) | exact HB.out)⟩⟩
  case rest =>
    clear HC2
    try clear p2
    try clear c3
    try clear c3b0
    obtain ⟨kq, x3_1, rfl, HA, HJ1, HB⟩ := hcut
    cases kq with
    | zero => exact absurd HA.out (by simp [spindleref09_Char.j0])
    | succ kj1 =>
      have H := HA.out
      clear HA
      simp only [spindleref09_Char.j0] at H
      by_cases c4 : x3_1 = true
      · subst c4
        have H1 : (some (⟨#[]⟩ : ByteArray)) = some r := by rw [if_pos rfl] at H; exact H
        clear H
        have H := H1
        clear H1
        obtain rfl := Option.some.inj H
        go_wp2
        go_ret
        exact ⟨by first | rfl | (simp [errW_none, errW_some] <;> rfl) | (simp [*, errW_none, errW_some] <;> rfl), by repeat (first | (with_reducible first | exact HB.out | apply below_alloc | apply pw_below_drewN | apply below_drew1) | exact HB.out)⟩
      · replace c4 := Bool.eq_false_iff.mpr c4
        subst c4
        have H1 : (if a0 = 32 then (some (⟨#[35, 92, 115, 112, 97, 99, 101]⟩ : ByteArray)) else (if a0 = 10 then (some (⟨#[35, 92, 110, 101, 119, 108, 105, 110, 101]⟩ : ByteArray)) else (if a0 = 9 then (some (⟨#[35, 92, 116, 97, 98]⟩ : ByteArray)) else (if a0 = 0 then (some (⟨#[35, 92, 110, 117, 108]⟩ : ByteArray)) else ((some (([(a0) % 256] : List Int) : List Int)).bind fun y138 => (if 2 + (strOfNums y138).size ≤ 9223372036854775807 then (some ((⟨#[35, 92]⟩ : ByteArray) ++ (strOfNums y138))) else (none))))))) = some r := by rw [if_neg (show ¬ (false = true) by decide)] at H; exact H
        clear H
        have H := H1
        clear H1
        by_cases c5 : a0 = 32
        · rw [if_pos c5] at H
          have c5b0 : (a0 == 32) = true := beq_iff_eq.mpr c5
          have c5b1 : (a0 != 32) = false := bne_eq_false_iff_eq.mpr c5
          clear c5
          obtain rfl := Option.some.inj H
          go_wp2
          go_ret
          exact ⟨by first | rfl | (simp [errW_none, errW_some] <;> rfl) | (simp [*, errW_none, errW_some] <;> rfl), by repeat (first | (with_reducible first | exact HB.out | apply below_alloc | apply pw_below_drewN | apply below_drew1) | exact HB.out)⟩
        · rw [if_neg c5] at H
          have c5b0 : (a0 == 32) = false := beq_eq_false_iff_ne.mpr c5
          have c5b1 : (a0 != 32) = true := bne_iff_ne.mpr c5
          by_cases c6 : a0 = 10
          · rw [if_pos c6] at H
            have c6b0 : (a0 == 10) = true := beq_iff_eq.mpr c6
            have c6b1 : (a0 != 10) = false := bne_eq_false_iff_eq.mpr c6
            clear c6
            obtain rfl := Option.some.inj H
            go_wp2
            go_ret
            exact ⟨by first | rfl | (simp [errW_none, errW_some] <;> rfl) | (simp [*, errW_none, errW_some] <;> rfl), by repeat (first | (with_reducible first | exact HB.out | apply below_alloc | apply pw_below_drewN | apply below_drew1) | exact HB.out)⟩
          · rw [if_neg c6] at H
            have c6b0 : (a0 == 10) = false := beq_eq_false_iff_ne.mpr c6
            have c6b1 : (a0 != 10) = true := bne_iff_ne.mpr c6
            by_cases c7 : a0 = 9
            · rw [if_pos c7] at H
              have c7b0 : (a0 == 9) = true := beq_iff_eq.mpr c7
              have c7b1 : (a0 != 9) = false := bne_eq_false_iff_eq.mpr c7
              clear c7
              obtain rfl := Option.some.inj H
              go_wp2
              go_ret
              exact ⟨by first | rfl | (simp [errW_none, errW_some] <;> rfl) | (simp [*, errW_none, errW_some] <;> rfl), by repeat (first | (with_reducible first | exact HB.out | apply below_alloc | apply pw_below_drewN | apply below_drew1) | exact HB.out)⟩
            · rw [if_neg c7] at H
              have c7b0 : (a0 == 9) = false := beq_eq_false_iff_ne.mpr c7
              have c7b1 : (a0 != 9) = true := bne_iff_ne.mpr c7
              by_cases c8 : a0 = 0
              · rw [if_pos c8] at H
                have c8b0 : (a0 == 0) = true := beq_iff_eq.mpr c8
                have c8b1 : (a0 != 0) = false := bne_eq_false_iff_eq.mpr c8
                clear c8
                obtain rfl := Option.some.inj H
                go_wp2
                go_ret
                exact ⟨by first | rfl | (simp [errW_none, errW_some] <;> rfl) | (simp [*, errW_none, errW_some] <;> rfl), by repeat (first | (with_reducible first | exact HB.out | apply below_alloc | apply pw_below_drewN | apply below_drew1) | exact HB.out)⟩
              · rw [if_neg c8] at H
                have c8b0 : (a0 == 0) = false := beq_eq_false_iff_ne.mpr c8
                have c8b1 : (a0 != 0) = true := bne_iff_ne.mpr c8
                obtain ⟨y138, hy138⟩ : ∃ y_ : List Int, y_ = (([(a0) % 256] : List Int)) := ⟨_, rfl⟩
                replace H : (if 2 + (strOfNums y138).size ≤ 9223372036854775807 then (some ((⟨#[35, 92]⟩ : ByteArray) ++ (strOfNums y138))) else (none)) = some r := by first | (rw [hy138]; with_reducible exact H) | (have H2_ := (Option.bind_some _ _).symm.trans H; rw [hy138]; with_reducible exact H2_) | (have H2_ := (Option.bind_some _ _).symm.trans H; with_reducible exact H2_) | with_reducible exact H | (rw [hy138]; exact H) | exact H
                have Ny138 := Aside0.mk hy138
                clear hy138
                by_cases c9 : 2 + (strOfNums y138).size ≤ 9223372036854775807
                · rw [if_pos c9] at H
                  have c9b0 := eq_true c9
                  have c9b1 : decide (2 + (strOfNums y138).size ≤ 9223372036854775807) = true := decide_eq_true c9
                  try have c9b2 : (9223372036854775807 < 2 + (strOfNums y138).size) = False := eq_false (Nat.not_lt.2 c9)
                  obtain rfl := Option.some.inj H
                  go_wp2_with (first | ((with_reducible refine gate_dst (N := 24) rfl ?_); refine Kd.R_lit (Kd.int .u8) _ 5 ?hg (N := 24) ?hd (xs := ([(a0) % 256] : List Int)) (inner := [.int .u8 ((a0) % 256)]) (ok := fun _ => True) (okp := fun _ => True) ?hr ?hp (fun _ hk => hk) trivial (Below.refl _ _) (Nat.le_refl _) (by simp) ?_; (case hd => rfl); (case hg => rfl); (case hr => first | (go_simp; done) | (go_simp; rfl)); (case hp => exact (Reps.one (show Kd.M (Kd.int .u8) _ _ _ ((a0) % 256) [.int .u8 ((a0) % 256)] from rfl) (Reps.none _ _))); intro v139 w10 ho11 hb hg_ hnew_; clear hg_ hnew_; (first | rw [← Ny138.out] at ho11 | (simp only [Int.reduceToNat] at ho11; rw [← Ny138.out] at ho11)); have n0_ := Aside0.mk (Kd.R_lower ho11 (below_size (by repeat (first | (with_reducible first | exact HB.out | apply below_alloc | apply pw_below_drewN | apply below_drew1) | exact HB.out)))); have n1_ := Aside0.mk (below_step (by repeat (first | (with_reducible first | exact HB.out | apply below_alloc | apply pw_below_drewN | apply below_drew1) | exact HB.out)) hb); clear HB; have HO140 := n0_; have HB := n1_; clear n0_ n1_; clear hb ho11; have hcv12 := own_string (P := Tryd.prog) Tryd.underlying76 Tryd.underlying5 Tryd.underlying9 (Kd.own_of_R HO140.out)))
                  go_ret
                  exact ⟨by first | rfl | (simp [errW_none, errW_some] <;> rfl) | (simp [*, errW_none, errW_some] <;> rfl), by repeat (first | (with_reducible first | exact HB.out | apply below_alloc | apply pw_below_drewN | apply below_drew1) | exact HB.out)⟩
                · rw [if_neg c9] at H
                  exact absurd H (by simp)

end Go.Proofs.YthighbbikpnpgaaDoor.PSh

/-! PShx12 -/
-- PRINTED by print.py (a twelfth state) out of the translation. Not trusted: Lean checks it.
namespace Go.Proofs.YthighbbikpnpgaaDoor.PSh
open Go.RowKit Go.Proofs.YthighbbikpnpgaaDoorW.PrintWords Go.Proofs.YthighbbikpnpgaaDoorW.PrintLast Go.Proofs.YthighbbikpnpgaaDoorW.PrintMore
attribute [local go_sem] max2_int min2_int max_two min_two max_three min_three max_four min_four   -- for this text's walks alone
set_option linter.unusedVariables false
set_option linter.unusedSimpArgs false

/-! ### spindleref09_str: function 73 -/
def spindleref09_str.l0 : Nat → ByteArray → List Int → Int → Option (ByteArray)
  | 0, _, _, _ => none
  | k + 1, x0, x3, x4 => if x4 < (x0.size : Int) then (if 0 ≤ x4 then (if (bt x0 x4) = 10 then ((some (([92, 110] : List Int) : List Int)).bind fun y147 => (if x3.length + y147.length < 140737488355328 then (spindleref09_str.l0 k x0 (x3 ++ y147) (wrap64 (x4 + 1))) else (none))) else (if (bt x0 x4) = 9 then ((some (([92, 116] : List Int) : List Int)).bind fun y153 => (if x3.length + y153.length < 140737488355328 then (spindleref09_str.l0 k x0 (x3 ++ y153) (wrap64 (x4 + 1))) else (none))) else (if (bt x0 x4) = 92 then ((some (([92, bt x0 x4] : List Int) : List Int)).bind fun y159 => (if x3.length + y159.length < 140737488355328 then (spindleref09_str.l0 k x0 (x3 ++ y159) (wrap64 (x4 + 1))) else (none))) else (if (bt x0 x4) = 34 then ((some (([92, bt x0 x4] : List Int) : List Int)).bind fun y165 => (if x3.length + y165.length < 140737488355328 then (spindleref09_str.l0 k x0 (x3 ++ y165) (wrap64 (x4 + 1))) else (none))) else (if x3.length < 140737488355328 then (spindleref09_str.l0 k x0 (x3 ++ [bt x0 x4]) (wrap64 (x4 + 1))) else (none)))))) else (none)) else (if x3.length < 140737488355328 then (some (strOfNums (x3 ++ [34]))) else (none))
def spindleref09_str.f (k : Nat) (a0 : ByteArray) : Option (ByteArray) := spindleref09_str.l0 k a0 (([34] : List Int)) 0
theorem spindleref09_str.mono_l : ∀ k, (∀ y0 y1 y2, LeO (spindleref09_str.l0 k y0 y1 y2) (spindleref09_str.l0 (k + 1) y0 y1 y2))
  | 0 => fun _ _ _ r h => by simp [spindleref09_str.l0] at h
  | k + 1 => by
    have ih0 := spindleref09_str.mono_l k
    · intro y0 y1 y2
      unfold spindleref09_str.l0
      repeat' first
      | (with_reducible exact ih0 _ _ _)
      | (with_reducible exact LeO.refl _)
      | (with_reducible exact LeO.none _)
      | (with_reducible refine LeO.ite ?_ ?_)
      | (with_reducible refine LeO.bind ?_ (fun _ => ?_))
      | exact ih0 _ _ _
      | exact LeO.none _
      | refine LeO.ite ?_ ?_
      | refine LeO.bind ?_ (fun _ => ?_)
theorem spindleref09_str.mono : ∀ a0 k, LeO (spindleref09_str.f k a0) (spindleref09_str.f (k + 1) a0) := by
  intro a0 k
  have ih0 := spindleref09_str.mono_l k
  unfold spindleref09_str.f
  repeat' first
      | (with_reducible exact ih0 _ _ _)
      | (with_reducible exact LeO.refl _)
      | (with_reducible exact LeO.none _)
      | (with_reducible refine LeO.ite ?_ ?_)
      | (with_reducible refine LeO.bind ?_ (fun _ => ?_))
      | exact ih0 _ _ _
      | exact LeO.none _
      | refine LeO.ite ?_ ?_
      | refine LeO.bind ?_ (fun _ => ?_)
set_option maxHeartbeats 8000000 in
set_option maxRecDepth 100000 in
theorem spindleref09_str.calls (k : Nat) (a0 : ByteArray) (r : ByteArray) (w : World) (h : spindleref09_str.f k a0 = some r) :
    Calls Tryd.prog 73 #[.string a0] w fun e w' => e = .returned (.string r) ∧ Below w.heap.size w w' := by
  have HB := Aside0.mk (Below.refl w.heap.size w)
  have H : (spindleref09_str.l0 k a0 (([34] : List Int)) 0) = some r := h
  clear h
  obtain ⟨y141, hy141⟩ : ∃ y_ : List Int, y_ = (([34] : List Int)) := ⟨_, rfl⟩
  replace H : (spindleref09_str.l0 k a0 y141 0) = some r := by first | (rw [hy141]; with_reducible exact H) | (have H2_ := (Option.bind_some _ _).symm.trans H; rw [hy141]; with_reducible exact H2_) | (have H2_ := (Option.bind_some _ _).symm.trans H; with_reducible exact H2_) | with_reducible exact H | (rw [hy141]; exact H) | exact H
  have Ny141 := Aside0.mk hy141
  clear hy141
  have H' := Aside0.mk H
  clear H
  go_enter Tryd.func73, Tryd.ntmps73
  go_wp2_with (first | ((with_reducible refine gate_dst (N := 5) rfl ?_); refine Kd.R_lit (Kd.int .u8) _ 5 ?hg (N := 5) ?hd (xs := ([34] : List Int)) (inner := [.int .u8 34]) (ok := fun _ => True) (okp := fun _ => True) ?hr ?hp (fun _ hk => hk) trivial (Below.refl _ _) (Nat.le_refl _) (by simp) ?_; (case hd => rfl); (case hg => rfl); (case hr => first | (go_simp; done) | (go_simp; rfl)); (case hp => exact (Reps.one (show Kd.M (Kd.int .u8) _ _ _ 34 [.int .u8 34] from rfl) (Reps.none _ _))); intro v142 w2 ho3 hb hg_ hnew_; clear hg_ hnew_; (first | rw [← Ny141.out] at ho3 | (simp only [Int.reduceToNat] at ho3; rw [← Ny141.out] at ho3)); have n0_ := Aside0.mk (Kd.R_lower ho3 (below_size (by repeat (first | (with_reducible first | exact HB.out | apply below_alloc | apply pw_below_drewN | apply below_drew1) | exact HB.out)))); have n1_ := Aside0.mk (below_step (by repeat (first | (with_reducible first | exact HB.out | apply below_alloc | apply pw_below_drewN | apply below_drew1) | exact HB.out)) hb); clear HB; have HO143 := n0_; have HB := n1_; clear n0_ n1_; clear hb ho3))
  go_loopg [3, 4] k (fun kq v3 v4 w' => ∃ (x3_1 : List Int) (x4_1 : Int), v4 = .int .i64 x4_1 ∧ Aside0 (spindleref09_str.l0 kq a0 x3_1 x4_1 = some r) ∧ Aside0 (kq ≤ k) ∧ Aside0 (Kd.R (Kd.int .u8) 5 w' w.heap.size (fun _ => True) v3 x3_1) ∧ Aside0 (Below w.heap.size w w'))
  case atStart => exact ⟨(y141), (0), (by first | rfl | (simp; done) | (simp [*]; done)), H', ⟨Nat.le_refl _⟩, ⟨by (with_reducible repeat (first | apply Kd.R_alloc | apply Kd.R_drewN | apply Kd.R_drew)); exact HO143.out⟩, ⟨by repeat (first | (with_reducible first | exact HB.out | apply below_alloc | apply pw_below_drewN | apply below_drew1) | exact HB.out)⟩⟩
  case round =>
    clear H'
    try clear p2
    obtain ⟨x3_1, x4_1, rfl, HA, HK1, HO_3, HB⟩ := hrel
    cases gk with
    | zero => exact absurd HA.out (by simp [spindleref09_str.l0])
    | succ k1 =>
      have H := HA.out
      clear HA
      simp only [spindleref09_str.l0] at H
      by_cases c4 : x4_1 < (a0.size : Int)
      · rw [if_pos c4] at H
        have c4b0 : decide (x4_1 < (a0.size : Int)) = true := decide_eq_true c4
        clear c4
        by_cases c5 : 0 ≤ x4_1
        · rw [if_pos c5] at H
          have c5b0 : decide (0 ≤ x4_1) = true := decide_eq_true c5
          clear c5
          by_cases c7 : (bt a0 x4_1) = 10
          · rw [if_pos c7] at H
            have c7b0 : ((bt a0 x4_1) == 10) = true := beq_iff_eq.mpr c7
            have c7b1 : ((bt a0 x4_1) != 10) = false := bne_eq_false_iff_eq.mpr c7
            clear c7
            obtain ⟨y147, hy147⟩ : ∃ y_ : List Int, y_ = (([92, 110] : List Int)) := ⟨_, rfl⟩
            replace H : (if x3_1.length + y147.length < 140737488355328 then (spindleref09_str.l0 k1 a0 (x3_1 ++ y147) (wrap64 (x4_1 + 1))) else (none)) = some r := by first | (rw [hy147]; with_reducible exact H) | (have H2_ := (Option.bind_some _ _).symm.trans H; rw [hy147]; with_reducible exact H2_) | (have H2_ := (Option.bind_some _ _).symm.trans H; with_reducible exact H2_) | with_reducible exact H | (rw [hy147]; exact H) | exact H
            have Ny147 := Aside0.mk hy147
            clear hy147
            by_cases c8 : x3_1.length + y147.length < 140737488355328
            · rw [if_pos c8] at H
              have LMc8 := Aside0.mk c8
              clear c8
              obtain ⟨y150, hy150⟩ : ∃ y_ : List Int, y_ = (x3_1 ++ y147) := ⟨_, rfl⟩
              replace H : (spindleref09_str.l0 k1 a0 y150 (wrap64 (x4_1 + 1))) = some r := by first | (rw [hy150]; with_reducible exact H) | (have H2_ := (Option.bind_some _ _).symm.trans H; rw [hy150]; with_reducible exact H2_) | (have H2_ := (Option.bind_some _ _).symm.trans H; with_reducible exact H2_) | with_reducible exact H | (rw [hy150]; exact H) | exact H
              have Ny150 := Aside0.mk hy150
              clear hy150
              have H' := Aside0.mk H
              clear H
              have p6 : 0 ≤ (x4_1 : Int) := of_decide_eq_true (by first | (with_reducible assumption) | assumption)
              have q6 : x4_1 < (a0.size : Int) := of_decide_eq_true (by first | (with_reducible assumption) | assumption)
              have hx6 := bt_at a0 x4_1
              replace p6 := eq_true p6
              replace q6 := eq_true q6
              go_wp2_with (first | ((with_reducible refine gate_dst (N := 24) rfl ?_); refine Kd.R_lit (Kd.int .u8) _ 5 ?hg (N := 24) ?hd (xs := ([92, 110] : List Int)) (inner := [.int .u8 92, .int .u8 110]) (ok := fun _ => True) (okp := fun _ => True) ?hr ?hp (fun _ hk => hk) trivial (Below.refl _ _) (Nat.le_refl _) (by simp) ?_; (case hd => rfl); (case hg => rfl); (case hr => first | (go_simp; done) | (go_simp; rfl)); (case hp => exact (Reps.one (show Kd.M (Kd.int .u8) _ _ _ 92 [.int .u8 92] from rfl) (Reps.one (show Kd.M (Kd.int .u8) _ _ _ 110 [.int .u8 110] from rfl) (Reps.none _ _)))); intro v148 w9 ho10 hb hg_ hnew_; clear hg_ hnew_; (first | rw [← Ny147.out] at ho10 | (simp only [Int.reduceToNat] at ho10; rw [← Ny147.out] at ho10)); have n0_ := Aside0.mk (Kd.R_elder' (by (with_reducible repeat (first | apply Kd.R_alloc | apply Kd.R_drewN | apply Kd.R_drew)); exact HO_3.out) (Kd.R_base ho10) hb); have n1_ := Aside0.mk (Kd.R_lower (Kd.R_new' ho10 (Kd.R_lt (by (with_reducible repeat (first | apply Kd.R_alloc | apply Kd.R_drewN | apply Kd.R_drew)); exact HO_3.out))) (below_size (by repeat (first | (with_reducible first | exact HB.out | apply below_alloc | apply pw_below_drewN | apply below_drew1) | exact HB.out)))); have n2_ := Aside0.mk (below_step (by repeat (first | (with_reducible first | exact HB.out | apply below_alloc | apply pw_below_drewN | apply below_drew1) | exact HB.out)) hb); clear HO_3; clear HB; have HO_3 := n0_; have HO149 := n1_; have HB := n2_; clear n0_ n1_ n2_; clear hb ho10; obtain ⟨Ao12, co12, eo12⟩ := Kd.R_slice HO149.out; subst eo12) | ((with_reducible refine gate_builtin (b := .append) (xs := #[.tmp 23, .tmp 24]) rfl ?_); at_builtin; refine Kd.R_append_rows (Kd.int .u8) (w0 := w) w.heap.size rfl (.tmp 23) (.tmp 24) 76 5 (.int .u8 0) 1 rfl Tryd.underlying76 info5 rfl (by decide) (by omega) u3 x3_1 y147 _ _ _ (fun k_ => some k_ ≠ (.slice Ao12 y147.length co12 : Value).ownBlock) (fun _ => False) rfl rfl ?aO ?aR (fun _ _ h => h) (fun _ h => h.elim) ?aF ?aB ?aS ?aL ?_; (case aR => repeat (first | exact (Kd.R_reads' HO149.out).2.2 | (with_reducible refine Kd.C_alloc ?_ _) | (with_reducible refine Kd.C_drewN ?_ _) | (with_reducible refine Kd.C_drew ?_))); (case aB => exact (by repeat (first | (with_reducible first | exact HB.out | apply below_alloc | apply pw_below_drewN | apply below_drew1) | exact HB.out))); (case aF => exact (fun k_ hk => Kd.fresh' (Kd.R_lt (by (with_reducible repeat (first | apply Kd.R_alloc | apply Kd.R_drewN | apply Kd.R_drew)); exact HO149.out)) k_ hk)); (case aO => exact (by (with_reducible repeat (first | apply Kd.R_alloc | apply Kd.R_drewN | apply Kd.R_drew)); exact Kd.R_mono HO_3.out (fun _ hk => hk.2))); (case aS => exact (below_size (by repeat (first | (with_reducible first | exact HB.out | apply below_alloc | apply pw_below_drewN | apply below_drew1) | exact HB.out)))); (case aL => have := LMc8.out; omega); intro v151 w11 ho hb hg hat; rw [← Ny150.out] at ho; have n0_ := Aside0.mk (Kd.R_after (ok := (fun _ => True)) (by (with_reducible repeat (first | apply Kd.R_alloc | apply Kd.R_drewN | apply Kd.R_drew)); exact HO149.out) hg hat); have n1_ := Aside0.mk (hb); have n2_ := Aside0.mk (ho); clear HO149; clear HB; clear HO_3; have HO149 := n0_; have HB := n1_; have HO152 := n2_; clear n0_ n1_ n2_; clear ho hb hg hat))
              go_roundg k1
              case measure => have := HK1.out; omega
              case rel => exact ⟨(y150), (wrap64 (x4_1 + 1)), (by first | rfl | (simp; done) | (simp [*]; done)), H', ⟨by have := HK1.out; omega⟩, ⟨by (with_reducible repeat (first | apply Kd.R_alloc | apply Kd.R_drewN | apply Kd.R_drew)); exact Kd.R_mono HO152.out (fun _ hk => trivial)⟩, ⟨by repeat (first | (with_reducible first | exact HB.out | apply below_alloc | apply pw_below_drewN | apply below_drew1) | exact HB.out)⟩⟩
            · rw [if_neg c8] at H
              exact absurd H (by simp)
          · rw [if_neg c7] at H
            have c7b0 : ((bt a0 x4_1) == 10) = false := beq_eq_false_iff_ne.mpr c7
            have c7b1 : ((bt a0 x4_1) != 10) = true := bne_iff_ne.mpr c7
            by_cases c13 : (bt a0 x4_1) = 9
            · rw [if_pos c13] at H
              have c13b0 : ((bt a0 x4_1) == 9) = true := beq_iff_eq.mpr c13
              have c13b1 : ((bt a0 x4_1) != 9) = false := bne_eq_false_iff_eq.mpr c13
              clear c13
              obtain ⟨y153, hy153⟩ : ∃ y_ : List Int, y_ = (([92, 116] : List Int)) := ⟨_, rfl⟩
              replace H : (if x3_1.length + y153.length < 140737488355328 then (spindleref09_str.l0 k1 a0 (x3_1 ++ y153) (wrap64 (x4_1 + 1))) else (none)) = some r := by first | (rw [hy153]; with_reducible exact H) | (have H2_ := (Option.bind_some _ _).symm.trans H; rw [hy153]; with_reducible exact H2_) | (have H2_ := (Option.bind_some _ _).symm.trans H; with_reducible exact H2_) | with_reducible exact H | (rw [hy153]; exact H) | exact H
              have Ny153 := Aside0.mk hy153
              clear hy153
              by_cases c14 : x3_1.length + y153.length < 140737488355328
              · rw [if_pos c14] at H
                have LMc14 := Aside0.mk c14
                clear c14
                obtain ⟨y156, hy156⟩ : ∃ y_ : List Int, y_ = (x3_1 ++ y153) := ⟨_, rfl⟩
                replace H : (spindleref09_str.l0 k1 a0 y156 (wrap64 (x4_1 + 1))) = some r := by first | (rw [hy156]; with_reducible exact H) | (have H2_ := (Option.bind_some _ _).symm.trans H; rw [hy156]; with_reducible exact H2_) | (have H2_ := (Option.bind_some _ _).symm.trans H; with_reducible exact H2_) | with_reducible exact H | (rw [hy156]; exact H) | exact H
                have Ny156 := Aside0.mk hy156
                clear hy156
                have H' := Aside0.mk H
                clear H
                have p6 : 0 ≤ (x4_1 : Int) := of_decide_eq_true (by first | (with_reducible assumption) | assumption)
                have q6 : x4_1 < (a0.size : Int) := of_decide_eq_true (by first | (with_reducible assumption) | assumption)
                have hx6 := bt_at a0 x4_1
                replace p6 := eq_true p6
                replace q6 := eq_true q6
                go_wp2_with (first | ((with_reducible refine gate_dst (N := 29) rfl ?_); refine Kd.R_lit (Kd.int .u8) _ 5 ?hg (N := 29) ?hd (xs := ([92, 116] : List Int)) (inner := [.int .u8 92, .int .u8 116]) (ok := fun _ => True) (okp := fun _ => True) ?hr ?hp (fun _ hk => hk) trivial (Below.refl _ _) (Nat.le_refl _) (by simp) ?_; (case hd => rfl); (case hg => rfl); (case hr => first | (go_simp; done) | (go_simp; rfl)); (case hp => exact (Reps.one (show Kd.M (Kd.int .u8) _ _ _ 92 [.int .u8 92] from rfl) (Reps.one (show Kd.M (Kd.int .u8) _ _ _ 116 [.int .u8 116] from rfl) (Reps.none _ _)))); intro v154 w15 ho16 hb hg_ hnew_; clear hg_ hnew_; (first | rw [← Ny153.out] at ho16 | (simp only [Int.reduceToNat] at ho16; rw [← Ny153.out] at ho16)); have n0_ := Aside0.mk (Kd.R_elder' (by (with_reducible repeat (first | apply Kd.R_alloc | apply Kd.R_drewN | apply Kd.R_drew)); exact HO_3.out) (Kd.R_base ho16) hb); have n1_ := Aside0.mk (Kd.R_lower (Kd.R_new' ho16 (Kd.R_lt (by (with_reducible repeat (first | apply Kd.R_alloc | apply Kd.R_drewN | apply Kd.R_drew)); exact HO_3.out))) (below_size (by repeat (first | (with_reducible first | exact HB.out | apply below_alloc | apply pw_below_drewN | apply below_drew1) | exact HB.out)))); have n2_ := Aside0.mk (below_step (by repeat (first | (with_reducible first | exact HB.out | apply below_alloc | apply pw_below_drewN | apply below_drew1) | exact HB.out)) hb); clear HO_3; clear HB; have HO_3 := n0_; have HO155 := n1_; have HB := n2_; clear n0_ n1_ n2_; clear hb ho16; obtain ⟨Ao18, co18, eo18⟩ := Kd.R_slice HO155.out; subst eo18) | ((with_reducible refine gate_builtin (b := .append) (xs := #[.tmp 28, .tmp 29]) rfl ?_); at_builtin; refine Kd.R_append_rows (Kd.int .u8) (w0 := w) w.heap.size rfl (.tmp 28) (.tmp 29) 76 5 (.int .u8 0) 1 rfl Tryd.underlying76 info5 rfl (by decide) (by omega) u3 x3_1 y153 _ _ _ (fun k_ => some k_ ≠ (.slice Ao18 y153.length co18 : Value).ownBlock) (fun _ => False) rfl rfl ?aO ?aR (fun _ _ h => h) (fun _ h => h.elim) ?aF ?aB ?aS ?aL ?_; (case aR => repeat (first | exact (Kd.R_reads' HO155.out).2.2 | (with_reducible refine Kd.C_alloc ?_ _) | (with_reducible refine Kd.C_drewN ?_ _) | (with_reducible refine Kd.C_drew ?_))); (case aB => exact (by repeat (first | (with_reducible first | exact HB.out | apply below_alloc | apply pw_below_drewN | apply below_drew1) | exact HB.out))); (case aF => exact (fun k_ hk => Kd.fresh' (Kd.R_lt (by (with_reducible repeat (first | apply Kd.R_alloc | apply Kd.R_drewN | apply Kd.R_drew)); exact HO155.out)) k_ hk)); (case aO => exact (by (with_reducible repeat (first | apply Kd.R_alloc | apply Kd.R_drewN | apply Kd.R_drew)); exact Kd.R_mono HO_3.out (fun _ hk => hk.2))); (case aS => exact (below_size (by repeat (first | (with_reducible first | exact HB.out | apply below_alloc | apply pw_below_drewN | apply below_drew1) | exact HB.out)))); (case aL => have := LMc14.out; omega); intro v157 w17 ho hb hg hat; rw [← Ny156.out] at ho; have n0_ := Aside0.mk (Kd.R_after (ok := (fun _ => True)) (by (with_reducible repeat (first | apply Kd.R_alloc | apply Kd.R_drewN | apply Kd.R_drew)); exact HO155.out) hg hat); have n1_ := Aside0.mk (hb); have n2_ := Aside0.mk (ho); clear HO155; clear HB; clear HO_3; have HO155 := n0_; have HB := n1_; have HO158 := n2_; clear n0_ n1_ n2_; clear ho hb hg hat))
                go_roundg k1
                case measure => have := HK1.out; omega
                case rel => exact ⟨(y156), (wrap64 (x4_1 + 1)), (by first | rfl | (simp; done) | (simp [*]; done)), H', ⟨by have := HK1.out; omega⟩, ⟨by (with_reducible repeat (first | apply Kd.R_alloc | apply Kd.R_drewN | apply Kd.R_drew)); exact Kd.R_mono HO158.out (fun _ hk => trivial)⟩, ⟨by repeat (first | (with_reducible first | exact HB.out | apply below_alloc | apply pw_below_drewN | apply below_drew1) | exact HB.out)⟩⟩
              · rw [if_neg c14] at H
                exact absurd H (by simp)
            · rw [if_neg c13] at H
              have c13b0 : ((bt a0 x4_1) == 9) = false := beq_eq_false_iff_ne.mpr c13
              have c13b1 : ((bt a0 x4_1) != 9) = true := bne_iff_ne.mpr c13
              by_cases c19 : (bt a0 x4_1) = 92
              · rw [if_pos c19] at H
                have c19b0 : ((bt a0 x4_1) == 92) = true := beq_iff_eq.mpr c19
                have c19b1 : ((bt a0 x4_1) != 92) = false := bne_eq_false_iff_eq.mpr c19
                clear c19
                obtain ⟨y159, hy159⟩ : ∃ y_ : List Int, y_ = (([92, bt a0 x4_1] : List Int)) := ⟨_, rfl⟩
                replace H : (if x3_1.length + y159.length < 140737488355328 then (spindleref09_str.l0 k1 a0 (x3_1 ++ y159) (wrap64 (x4_1 + 1))) else (none)) = some r := by first | (rw [hy159]; with_reducible exact H) | (have H2_ := (Option.bind_some _ _).symm.trans H; rw [hy159]; with_reducible exact H2_) | (have H2_ := (Option.bind_some _ _).symm.trans H; with_reducible exact H2_) | with_reducible exact H | (rw [hy159]; exact H) | exact H
                have Ny159 := Aside0.mk hy159
                clear hy159
                by_cases c21 : x3_1.length + y159.length < 140737488355328
                · rw [if_pos c21] at H
                  have LMc21 := Aside0.mk c21
                  clear c21
                  obtain ⟨y162, hy162⟩ : ∃ y_ : List Int, y_ = (x3_1 ++ y159) := ⟨_, rfl⟩
                  replace H : (spindleref09_str.l0 k1 a0 y162 (wrap64 (x4_1 + 1))) = some r := by first | (rw [hy162]; with_reducible exact H) | (have H2_ := (Option.bind_some _ _).symm.trans H; rw [hy162]; with_reducible exact H2_) | (have H2_ := (Option.bind_some _ _).symm.trans H; with_reducible exact H2_) | with_reducible exact H | (rw [hy162]; exact H) | exact H
                  have Ny162 := Aside0.mk hy162
                  clear hy162
                  have H' := Aside0.mk H
                  clear H
                  have p6 : 0 ≤ (x4_1 : Int) := of_decide_eq_true (by first | (with_reducible assumption) | assumption)
                  have q6 : x4_1 < (a0.size : Int) := of_decide_eq_true (by first | (with_reducible assumption) | assumption)
                  have hx6 := bt_at a0 x4_1
                  replace p6 := eq_true p6
                  replace q6 := eq_true q6
                  have p20 : 0 ≤ (x4_1 : Int) := of_decide_eq_true (by first | (with_reducible assumption) | assumption)
                  have q20 : x4_1 < (a0.size : Int) := of_decide_eq_true (by first | (with_reducible assumption) | assumption)
                  have hx20 := bt_at a0 x4_1
                  replace p20 := eq_true p20
                  replace q20 := eq_true q20
                  go_wp2_with (first | ((with_reducible refine gate_dst (N := 38) rfl ?_); refine Kd.R_lit (Kd.int .u8) _ 5 ?hg (N := 38) ?hd (xs := ([92, bt a0 x4_1] : List Int)) (inner := [.int .u8 92, .int .u8 (bt a0 x4_1)]) (ok := fun _ => True) (okp := fun _ => True) ?hr ?hp (fun _ hk => hk) trivial (Below.refl _ _) (Nat.le_refl _) (by simp) ?_; (case hd => rfl); (case hg => rfl); (case hr => first | (go_simp; done) | (go_simp; rfl)); (case hp => exact (Reps.one (show Kd.M (Kd.int .u8) _ _ _ 92 [.int .u8 92] from rfl) (Reps.one (show Kd.M (Kd.int .u8) _ _ _ (bt a0 x4_1) [.int .u8 (bt a0 x4_1)] from rfl) (Reps.none _ _)))); intro v160 w22 ho23 hb hg_ hnew_; clear hg_ hnew_; (first | rw [← Ny159.out] at ho23 | (simp only [Int.reduceToNat] at ho23; rw [← Ny159.out] at ho23)); have n0_ := Aside0.mk (Kd.R_elder' (by (with_reducible repeat (first | apply Kd.R_alloc | apply Kd.R_drewN | apply Kd.R_drew)); exact HO_3.out) (Kd.R_base ho23) hb); have n1_ := Aside0.mk (Kd.R_lower (Kd.R_new' ho23 (Kd.R_lt (by (with_reducible repeat (first | apply Kd.R_alloc | apply Kd.R_drewN | apply Kd.R_drew)); exact HO_3.out))) (below_size (by repeat (first | (with_reducible first | exact HB.out | apply below_alloc | apply pw_below_drewN | apply below_drew1) | exact HB.out)))); have n2_ := Aside0.mk (below_step (by repeat (first | (with_reducible first | exact HB.out | apply below_alloc | apply pw_below_drewN | apply below_drew1) | exact HB.out)) hb); clear HO_3; clear HB; have HO_3 := n0_; have HO161 := n1_; have HB := n2_; clear n0_ n1_ n2_; clear hb ho23; obtain ⟨Ao25, co25, eo25⟩ := Kd.R_slice HO161.out; subst eo25) | ((with_reducible refine gate_builtin (b := .append) (xs := #[.tmp 34, .tmp 38]) rfl ?_); at_builtin; refine Kd.R_append_rows (Kd.int .u8) (w0 := w) w.heap.size rfl (.tmp 34) (.tmp 38) 76 5 (.int .u8 0) 1 rfl Tryd.underlying76 info5 rfl (by decide) (by omega) u3 x3_1 y159 _ _ _ (fun k_ => some k_ ≠ (.slice Ao25 y159.length co25 : Value).ownBlock) (fun _ => False) rfl rfl ?aO ?aR (fun _ _ h => h) (fun _ h => h.elim) ?aF ?aB ?aS ?aL ?_; (case aR => repeat (first | exact (Kd.R_reads' HO161.out).2.2 | (with_reducible refine Kd.C_alloc ?_ _) | (with_reducible refine Kd.C_drewN ?_ _) | (with_reducible refine Kd.C_drew ?_))); (case aB => exact (by repeat (first | (with_reducible first | exact HB.out | apply below_alloc | apply pw_below_drewN | apply below_drew1) | exact HB.out))); (case aF => exact (fun k_ hk => Kd.fresh' (Kd.R_lt (by (with_reducible repeat (first | apply Kd.R_alloc | apply Kd.R_drewN | apply Kd.R_drew)); exact HO161.out)) k_ hk)); (case aO => exact (by (with_reducible repeat (first | apply Kd.R_alloc | apply Kd.R_drewN | apply Kd.R_drew)); exact Kd.R_mono HO_3.out (fun _ hk => hk.2))); (case aS => exact (below_size (by repeat (first | (with_reducible first | exact HB.out | apply below_alloc | apply pw_below_drewN | apply below_drew1) | exact HB.out)))); (case aL => have := LMc21.out; omega); intro v163 w24 ho hb hg hat; rw [← Ny162.out] at ho; have n0_ := Aside0.mk (Kd.R_after (ok := (fun _ => True)) (by (with_reducible repeat (first | apply Kd.R_alloc | apply Kd.R_drewN | apply Kd.R_drew)); exact HO161.out) hg hat); have n1_ := Aside0.mk (hb); have n2_ := Aside0.mk (ho); clear HO161; clear HB; clear HO_3; have HO161 := n0_; have HB := n1_; have HO164 := n2_; clear n0_ n1_ n2_; clear ho hb hg hat))
                  go_roundg k1
                  case measure => have := HK1.out; omega
                  case rel => exact ⟨(y162), (wrap64 (x4_1 + 1)), (by first | rfl | (simp; done) | (simp [*]; done)), H', ⟨by have := HK1.out; omega⟩, ⟨by (with_reducible repeat (first | apply Kd.R_alloc | apply Kd.R_drewN | apply Kd.R_drew)); exact Kd.R_mono HO164.out (fun _ hk => trivial)⟩, ⟨by repeat (first | (with_reducible first | exact HB.out | apply below_alloc | apply pw_below_drewN | apply below_drew1) | exact HB.out)⟩⟩
                · rw [if_neg c21] at H
                  exact absurd H (by simp)
              · rw [if_neg c19] at H
                have c19b0 : ((bt a0 x4_1) == 92) = false := beq_eq_false_iff_ne.mpr c19
                have c19b1 : ((bt a0 x4_1) != 92) = true := bne_iff_ne.mpr c19
                by_cases c26 : (bt a0 x4_1) = 34
                · rw [if_pos c26] at H
                  have c26b0 : ((bt a0 x4_1) == 34) = true := beq_iff_eq.mpr c26
                  have c26b1 : ((bt a0 x4_1) != 34) = false := bne_eq_false_iff_eq.mpr c26
                  clear c26
                  obtain ⟨y165, hy165⟩ : ∃ y_ : List Int, y_ = (([92, bt a0 x4_1] : List Int)) := ⟨_, rfl⟩
                  replace H : (if x3_1.length + y165.length < 140737488355328 then (spindleref09_str.l0 k1 a0 (x3_1 ++ y165) (wrap64 (x4_1 + 1))) else (none)) = some r := by first | (rw [hy165]; with_reducible exact H) | (have H2_ := (Option.bind_some _ _).symm.trans H; rw [hy165]; with_reducible exact H2_) | (have H2_ := (Option.bind_some _ _).symm.trans H; with_reducible exact H2_) | with_reducible exact H | (rw [hy165]; exact H) | exact H
                  have Ny165 := Aside0.mk hy165
                  clear hy165
                  by_cases c28 : x3_1.length + y165.length < 140737488355328
                  · rw [if_pos c28] at H
                    have LMc28 := Aside0.mk c28
                    clear c28
                    obtain ⟨y168, hy168⟩ : ∃ y_ : List Int, y_ = (x3_1 ++ y165) := ⟨_, rfl⟩
                    replace H : (spindleref09_str.l0 k1 a0 y168 (wrap64 (x4_1 + 1))) = some r := by first | (rw [hy168]; with_reducible exact H) | (have H2_ := (Option.bind_some _ _).symm.trans H; rw [hy168]; with_reducible exact H2_) | (have H2_ := (Option.bind_some _ _).symm.trans H; with_reducible exact H2_) | with_reducible exact H | (rw [hy168]; exact H) | exact H
                    have Ny168 := Aside0.mk hy168
                    clear hy168
                    have H' := Aside0.mk H
                    clear H
                    have p6 : 0 ≤ (x4_1 : Int) := of_decide_eq_true (by first | (with_reducible assumption) | assumption)
                    have q6 : x4_1 < (a0.size : Int) := of_decide_eq_true (by first | (with_reducible assumption) | assumption)
                    have hx6 := bt_at a0 x4_1
                    replace p6 := eq_true p6
                    replace q6 := eq_true q6
                    have p27 : 0 ≤ (x4_1 : Int) := of_decide_eq_true (by first | (with_reducible assumption) | assumption)
                    have q27 : x4_1 < (a0.size : Int) := of_decide_eq_true (by first | (with_reducible assumption) | assumption)
                    have hx27 := bt_at a0 x4_1
                    replace p27 := eq_true p27
                    replace q27 := eq_true q27
                    go_wp2_with (first | ((with_reducible refine gate_dst (N := 38) rfl ?_); refine Kd.R_lit (Kd.int .u8) _ 5 ?hg (N := 38) ?hd (xs := ([92, bt a0 x4_1] : List Int)) (inner := [.int .u8 92, .int .u8 (bt a0 x4_1)]) (ok := fun _ => True) (okp := fun _ => True) ?hr ?hp (fun _ hk => hk) trivial (Below.refl _ _) (Nat.le_refl _) (by simp) ?_; (case hd => rfl); (case hg => rfl); (case hr => first | (go_simp; done) | (go_simp; rfl)); (case hp => exact (Reps.one (show Kd.M (Kd.int .u8) _ _ _ 92 [.int .u8 92] from rfl) (Reps.one (show Kd.M (Kd.int .u8) _ _ _ (bt a0 x4_1) [.int .u8 (bt a0 x4_1)] from rfl) (Reps.none _ _)))); intro v166 w29 ho30 hb hg_ hnew_; clear hg_ hnew_; (first | rw [← Ny165.out] at ho30 | (simp only [Int.reduceToNat] at ho30; rw [← Ny165.out] at ho30)); have n0_ := Aside0.mk (Kd.R_elder' (by (with_reducible repeat (first | apply Kd.R_alloc | apply Kd.R_drewN | apply Kd.R_drew)); exact HO_3.out) (Kd.R_base ho30) hb); have n1_ := Aside0.mk (Kd.R_lower (Kd.R_new' ho30 (Kd.R_lt (by (with_reducible repeat (first | apply Kd.R_alloc | apply Kd.R_drewN | apply Kd.R_drew)); exact HO_3.out))) (below_size (by repeat (first | (with_reducible first | exact HB.out | apply below_alloc | apply pw_below_drewN | apply below_drew1) | exact HB.out)))); have n2_ := Aside0.mk (below_step (by repeat (first | (with_reducible first | exact HB.out | apply below_alloc | apply pw_below_drewN | apply below_drew1) | exact HB.out)) hb); clear HO_3; clear HB; have HO_3 := n0_; have HO167 := n1_; have HB := n2_; clear n0_ n1_ n2_; clear hb ho30; obtain ⟨Ao32, co32, eo32⟩ := Kd.R_slice HO167.out; subst eo32) | ((with_reducible refine gate_builtin (b := .append) (xs := #[.tmp 34, .tmp 38]) rfl ?_); at_builtin; refine Kd.R_append_rows (Kd.int .u8) (w0 := w) w.heap.size rfl (.tmp 34) (.tmp 38) 76 5 (.int .u8 0) 1 rfl Tryd.underlying76 info5 rfl (by decide) (by omega) u3 x3_1 y165 _ _ _ (fun k_ => some k_ ≠ (.slice Ao32 y165.length co32 : Value).ownBlock) (fun _ => False) rfl rfl ?aO ?aR (fun _ _ h => h) (fun _ h => h.elim) ?aF ?aB ?aS ?aL ?_; (case aR => repeat (first | exact (Kd.R_reads' HO167.out).2.2 | (with_reducible refine Kd.C_alloc ?_ _) | (with_reducible refine Kd.C_drewN ?_ _) | (with_reducible refine Kd.C_drew ?_))); (case aB => exact (by repeat (first | (with_reducible first | exact HB.out | apply below_alloc | apply pw_below_drewN | apply below_drew1) | exact HB.out))); (case aF => exact (fun k_ hk => Kd.fresh' (Kd.R_lt (by (with_reducible repeat (first | apply Kd.R_alloc | apply Kd.R_drewN | apply Kd.R_drew)); exact HO167.out)) k_ hk)); (case aO => exact (by (with_reducible repeat (first | apply Kd.R_alloc | apply Kd.R_drewN | apply Kd.R_drew)); exact Kd.R_mono HO_3.out (fun _ hk => hk.2))); (case aS => exact (below_size (by repeat (first | (with_reducible first | exact HB.out | apply below_alloc | apply pw_below_drewN | apply below_drew1) | exact HB.out)))); (case aL => have := LMc28.out; omega); intro v169 w31 ho hb hg hat; rw [← Ny168.out] at ho; have n0_ := Aside0.mk (Kd.R_after (ok := (fun _ => True)) (by (with_reducible repeat (first | apply Kd.R_alloc | apply Kd.R_drewN | apply Kd.R_drew)); exact HO167.out) hg hat); have n1_ := Aside0.mk (hb); have n2_ := Aside0.mk (ho); clear HO167; clear HB; clear HO_3; have HO167 := n0_; have HB := n1_; have HO170 := n2_; clear n0_ n1_ n2_; clear ho hb hg hat))
                    go_roundg k1
                    case measure => have := HK1.out; omega
                    case rel => exact ⟨(y168), (wrap64 (x4_1 + 1)), (by first | rfl | (simp; done) | (simp [*]; done)), H', ⟨by have := HK1.out; omega⟩, ⟨by (with_reducible repeat (first | apply Kd.R_alloc | apply Kd.R_drewN | apply Kd.R_drew)); exact Kd.R_mono HO170.out (fun _ hk => trivial)⟩, ⟨by repeat (first | (with_reducible first | exact HB.out | apply below_alloc | apply pw_below_drewN | apply below_drew1) | exact HB.out)⟩⟩
                  · rw [if_neg c28] at H
                    exact absurd H (by simp)
                · rw [if_neg c26] at H
                  have c26b0 : ((bt a0 x4_1) == 34) = false := beq_eq_false_iff_ne.mpr c26
                  have c26b1 : ((bt a0 x4_1) != 34) = true := bne_iff_ne.mpr c26
                  by_cases c34 : x3_1.length < 140737488355328
                  · rw [if_pos c34] at H
                    have LMc34 := Aside0.mk c34
                    clear c34
                    obtain ⟨y171, hy171⟩ : ∃ y_ : List Int, y_ = (x3_1 ++ [bt a0 x4_1]) := ⟨_, rfl⟩
                    replace H : (spindleref09_str.l0 k1 a0 y171 (wrap64 (x4_1 + 1))) = some r := by first | (rw [hy171]; with_reducible exact H) | (have H2_ := (Option.bind_some _ _).symm.trans H; rw [hy171]; with_reducible exact H2_) | (have H2_ := (Option.bind_some _ _).symm.trans H; with_reducible exact H2_) | with_reducible exact H | (rw [hy171]; exact H) | exact H
                    have Ny171 := Aside0.mk hy171
                    clear hy171
                    have H' := Aside0.mk H
                    clear H
                    have p6 : 0 ≤ (x4_1 : Int) := of_decide_eq_true (by first | (with_reducible assumption) | assumption)
                    have q6 : x4_1 < (a0.size : Int) := of_decide_eq_true (by first | (with_reducible assumption) | assumption)
                    have hx6 := bt_at a0 x4_1
                    replace p6 := eq_true p6
                    replace q6 := eq_true q6
                    have p33 : 0 ≤ (x4_1 : Int) := of_decide_eq_true (by first | (with_reducible assumption) | assumption)
                    have q33 : x4_1 < (a0.size : Int) := of_decide_eq_true (by first | (with_reducible assumption) | assumption)
                    have hx33 := bt_at a0 x4_1
                    replace p33 := eq_true p33
                    replace q33 := eq_true q33
                    go_wp2_with (first | ((with_reducible refine gate_builtin (b := .append) (xs := #[.tmp 15, .tmp 19]) rfl ?_); at_builtin; refine Kd.R_append (Kd.int .u8) (w0 := w) w.heap.size rfl (.tmp 15) (.tmp 19) 76 5 (.int .u8 0) 1 rfl Tryd.underlying76 info5 rfl (by decide) (by omega) u3 x3_1 (bt a0 x4_1) [.int .u8 (bt a0 x4_1)] (fun _ => True) (fun _ => False) rfl rfl ?aP (fun _ hk => hk.elim) ?aF ?aO ?aB ?aS ?aL ?_; (case aP => exact rfl); (case aB => exact (by repeat (first | (with_reducible first | exact HB.out | apply below_alloc | apply pw_below_drewN | apply below_drew1) | exact HB.out))); (case aF => exact (fun _ _ => trivial)); (case aO => exact (by (with_reducible repeat (first | apply Kd.R_alloc | apply Kd.R_drewN | apply Kd.R_drew)); exact HO_3.out)); (case aS => exact (below_size (by repeat (first | (with_reducible first | exact HB.out | apply below_alloc | apply pw_below_drewN | apply below_drew1) | exact HB.out)))); (case aL => have := LMc34.out; omega); intro v172 w35 ho hb hg hat; rw [← Ny171.out] at ho; have n0_ := Aside0.mk (hb); have n1_ := Aside0.mk (ho); clear HB; clear HO_3; have HB := n0_; have HO173 := n1_; clear n0_ n1_; clear ho hb hg hat))
                    go_roundg k1
                    case measure => have := HK1.out; omega
                    case rel => exact ⟨(y171), (wrap64 (x4_1 + 1)), (by first | rfl | (simp; done) | (simp [*]; done)), H', ⟨by have := HK1.out; omega⟩, ⟨by (with_reducible repeat (first | apply Kd.R_alloc | apply Kd.R_drewN | apply Kd.R_drew)); exact HO173.out⟩, ⟨by repeat (first | (with_reducible first | exact HB.out | apply below_alloc | apply pw_below_drewN | apply below_drew1) | exact HB.out)⟩⟩
                  · rw [if_neg c34] at H
                    exact absurd H (by simp)
        · rw [if_neg c5] at H
          exact absurd H (by simp)
      · rw [if_neg c4] at H
        have c4b0 : decide (x4_1 < (a0.size : Int)) = false := decide_eq_false c4
        clear c4
        by_cases c36 : x3_1.length < 140737488355328
        · rw [if_pos c36] at H
          have LMc36 := Aside0.mk c36
          clear c36
          obtain ⟨y144, hy144⟩ : ∃ y_ : List Int, y_ = (x3_1 ++ [34]) := ⟨_, rfl⟩
          replace H : (some (strOfNums y144)) = some r := by first | (rw [hy144]; with_reducible exact H) | (have H2_ := (Option.bind_some _ _).symm.trans H; rw [hy144]; with_reducible exact H2_) | (have H2_ := (Option.bind_some _ _).symm.trans H; with_reducible exact H2_) | with_reducible exact H | (rw [hy144]; exact H) | exact H
          have Ny144 := Aside0.mk hy144
          clear hy144
          obtain rfl := Option.some.inj H
          go_wp2_with (first | ((with_reducible refine gate_builtin (b := .append) (xs := #[.tmp 40, .tmp 41]) rfl ?_); at_builtin; refine Kd.R_append (Kd.int .u8) (w0 := w) w.heap.size rfl (.tmp 40) (.tmp 41) 76 5 (.int .u8 0) 1 rfl Tryd.underlying76 info5 rfl (by decide) (by omega) u3 x3_1 34 [.int .u8 34] (fun _ => True) (fun _ => False) rfl rfl ?aP (fun _ hk => hk.elim) ?aF ?aO ?aB ?aS ?aL ?_; (case aP => exact rfl); (case aB => exact (by repeat (first | (with_reducible first | exact HB.out | apply below_alloc | apply pw_below_drewN | apply below_drew1) | exact HB.out))); (case aF => exact (fun _ _ => trivial)); (case aO => exact (by (with_reducible repeat (first | apply Kd.R_alloc | apply Kd.R_drewN | apply Kd.R_drew)); exact HO_3.out)); (case aS => exact (below_size (by repeat (first | (with_reducible first | exact HB.out | apply below_alloc | apply pw_below_drewN | apply below_drew1) | exact HB.out)))); (case aL => have := LMc36.out; omega); intro v145 w37 ho hb hg hat; rw [← Ny144.out] at ho; have n0_ := Aside0.mk (hb); have n1_ := Aside0.mk (ho); clear HB; clear HO_3; have HB := n0_; have HO146 := n1_; clear n0_ n1_; clear ho hb hg hat; have hcv38 := own_string (P := Tryd.prog) Tryd.underlying76 Tryd.underlying5 Tryd.underlying9 (Kd.own_of_R HO146.out)))
          go_ret
          exact ⟨by first | rfl | (simp [errW_none, errW_some] <;> rfl) | (simp [*, errW_none, errW_some] <;> rfl), by repeat (first | (with_reducible first | exact HB.out | apply below_alloc | apply pw_below_drewN | apply below_drew1) | exact HB.out)⟩
        · rw [if_neg c36] at H
          exact absurd H (by simp)

end Go.Proofs.YthighbbikpnpgaaDoor.PSh

/-! PShx14 -/
-- PRINTED by print.py (a twelfth state) out of the translation. Not trusted: Lean checks it.
namespace Go.Proofs.YthighbbikpnpgaaDoor.PSh
open Go.RowKit Go.Proofs.YthighbbikpnpgaaDoorW.PrintWords Go.Proofs.YthighbbikpnpgaaDoorW.PrintLast Go.Proofs.YthighbbikpnpgaaDoorW.PrintMore
attribute [local go_sem] max2_int min2_int max_two min_two max_three min_three max_four min_four   -- for this text's walks alone
set_option linter.unusedVariables false
set_option linter.unusedSimpArgs false

/-! ### show_Char: function 48 -/
def show_Char.f (a0 : Int) : Option (ByteArray) := if a0 = 32 then (some (⟨#[35, 92, 115, 112, 97, 99, 101]⟩ : ByteArray)) else (if a0 = 10 then (some (⟨#[35, 92, 110, 101, 119, 108, 105, 110, 101]⟩ : ByteArray)) else (if a0 = 9 then (some (⟨#[35, 92, 116, 97, 98]⟩ : ByteArray)) else (if a0 = 0 then (some (⟨#[35, 92, 110, 117, 108]⟩ : ByteArray)) else (if a0 < 0 then (some (⟨#[]⟩ : ByteArray)) else (if a0 > 255 then (some (⟨#[]⟩ : ByteArray)) else ((some (([(a0) % 256] : List Int) : List Int)).bind fun y193 => (if 2 + (strOfNums y193).size ≤ 9223372036854775807 then (some ((⟨#[35, 92]⟩ : ByteArray) ++ (strOfNums y193))) else (none))))))))
set_option maxHeartbeats 8000000 in
set_option maxRecDepth 100000 in
theorem show_Char.calls (a0 : Int) (r : ByteArray) (w : World) (h : show_Char.f a0 = some r) :
    Calls Tryd.prog 48 #[.int .i64 a0] w fun e w' => e = .returned (.string r) ∧ Below w.heap.size w w' := by
  have HB := Aside0.mk (Below.refl w.heap.size w)
  have H : (if a0 = 32 then (some (⟨#[35, 92, 115, 112, 97, 99, 101]⟩ : ByteArray)) else (if a0 = 10 then (some (⟨#[35, 92, 110, 101, 119, 108, 105, 110, 101]⟩ : ByteArray)) else (if a0 = 9 then (some (⟨#[35, 92, 116, 97, 98]⟩ : ByteArray)) else (if a0 = 0 then (some (⟨#[35, 92, 110, 117, 108]⟩ : ByteArray)) else (if a0 < 0 then (some (⟨#[]⟩ : ByteArray)) else (if a0 > 255 then (some (⟨#[]⟩ : ByteArray)) else ((some (([(a0) % 256] : List Int) : List Int)).bind fun y193 => (if 2 + (strOfNums y193).size ≤ 9223372036854775807 then (some ((⟨#[35, 92]⟩ : ByteArray) ++ (strOfNums y193))) else (none))))))))) = some r := h
  clear h
  by_cases c2 : a0 = 32
  · rw [if_pos c2] at H
    have c2b0 : (a0 == 32) = true := beq_iff_eq.mpr c2
    have c2b1 : (a0 != 32) = false := bne_eq_false_iff_eq.mpr c2
    clear c2
    obtain rfl := Option.some.inj H
    go_enter Tryd.func48, Tryd.ntmps48
    go_wp2
    go_ret
    exact ⟨by first | rfl | (simp [errW_none, errW_some] <;> rfl) | (simp [*, errW_none, errW_some] <;> rfl), by repeat (first | (with_reducible first | exact HB.out | apply below_alloc | apply pw_below_drewN | apply below_drew1) | exact HB.out)⟩
  · rw [if_neg c2] at H
    have c2b0 : (a0 == 32) = false := beq_eq_false_iff_ne.mpr c2
    have c2b1 : (a0 != 32) = true := bne_iff_ne.mpr c2
    by_cases c3 : a0 = 10
    · rw [if_pos c3] at H
      have c3b0 : (a0 == 10) = true := beq_iff_eq.mpr c3
      have c3b1 : (a0 != 10) = false := bne_eq_false_iff_eq.mpr c3
      clear c3
      obtain rfl := Option.some.inj H
      go_enter Tryd.func48, Tryd.ntmps48
      go_wp2
      go_ret
      exact ⟨by first | rfl | (simp [errW_none, errW_some] <;> rfl) | (simp [*, errW_none, errW_some] <;> rfl), by repeat (first | (with_reducible first | exact HB.out | apply below_alloc | apply pw_below_drewN | apply below_drew1) | exact HB.out)⟩
    · rw [if_neg c3] at H
      have c3b0 : (a0 == 10) = false := beq_eq_false_iff_ne.mpr c3
      have c3b1 : (a0 != 10) = true := bne_iff_ne.mpr c3
      by_cases c4 : a0 = 9
      · rw [if_pos c4] at H
        have c4b0 : (a0 == 9) = true := beq_iff_eq.mpr c4
        have c4b1 : (a0 != 9) = false := bne_eq_false_iff_eq.mpr c4
        clear c4
        obtain rfl := Option.some.inj H
        go_enter Tryd.func48, Tryd.ntmps48
        go_wp2
        go_ret
        exact ⟨by first | rfl | (simp [errW_none, errW_some] <;> rfl) | (simp [*, errW_none, errW_some] <;> rfl), by repeat (first | (with_reducible first | exact HB.out | apply below_alloc | apply pw_below_drewN | apply below_drew1) | exact HB.out)⟩
      · rw [if_neg c4] at H
        have c4b0 : (a0 == 9) = false := beq_eq_false_iff_ne.mpr c4
        have c4b1 : (a0 != 9) = true := bne_iff_ne.mpr c4
        by_cases c5 : a0 = 0
        · rw [if_pos c5] at H
          have c5b0 : (a0 == 0) = true := beq_iff_eq.mpr c5
          have c5b1 : (a0 != 0) = false := bne_eq_false_iff_eq.mpr c5
          clear c5
          obtain rfl := Option.some.inj H
          go_enter Tryd.func48, Tryd.ntmps48
          go_wp2
          go_ret
          exact ⟨by first | rfl | (simp [errW_none, errW_some] <;> rfl) | (simp [*, errW_none, errW_some] <;> rfl), by repeat (first | (with_reducible first | exact HB.out | apply below_alloc | apply pw_below_drewN | apply below_drew1) | exact HB.out)⟩
        · rw [if_neg c5] at H
          have c5b0 : (a0 == 0) = false := beq_eq_false_iff_ne.mpr c5
          have c5b1 : (a0 != 0) = true := bne_iff_ne.mpr c5
          by_cases c6 : a0 < 0
          · rw [if_pos c6] at H
            have c6b0 : decide (a0 < 0) = true := decide_eq_true c6
            clear c6
            obtain rfl := Option.some.inj H
            go_enter Tryd.func48, Tryd.ntmps48
            go_wp2
            go_ret
            exact ⟨by first | rfl | (simp [errW_none, errW_some] <;> rfl) | (simp [*, errW_none, errW_some] <;> rfl), by repeat (first | (with_reducible first | exact HB.out | apply below_alloc | apply pw_below_drewN | apply below_drew1) | exact HB.out)⟩
          · rw [if_neg c6] at H
            have c6b0 : decide (a0 < 0) = false := decide_eq_false c6
            clear c6
            by_cases c7 : a0 > 255
            · rw [if_pos c7] at H
              have c7b0 : decide (255 < a0) = true := decide_eq_true c7
              clear c7
              obtain rfl := Option.some.inj H
              go_enter Tryd.func48, Tryd.ntmps48
              go_wp2
              go_ret
              exact ⟨by first | rfl | (simp [errW_none, errW_some] <;> rfl) | (simp [*, errW_none, errW_some] <;> rfl), by repeat (first | (with_reducible first | exact HB.out | apply below_alloc | apply pw_below_drewN | apply below_drew1) | exact HB.out)⟩
            · rw [if_neg c7] at H
              have c7b0 : decide (255 < a0) = false := decide_eq_false c7
              clear c7
              obtain ⟨y193, hy193⟩ : ∃ y_ : List Int, y_ = (([(a0) % 256] : List Int)) := ⟨_, rfl⟩
              replace H : (if 2 + (strOfNums y193).size ≤ 9223372036854775807 then (some ((⟨#[35, 92]⟩ : ByteArray) ++ (strOfNums y193))) else (none)) = some r := by first | (rw [hy193]; with_reducible exact H) | (have H2_ := (Option.bind_some _ _).symm.trans H; rw [hy193]; with_reducible exact H2_) | (have H2_ := (Option.bind_some _ _).symm.trans H; with_reducible exact H2_) | with_reducible exact H | (rw [hy193]; exact H) | exact H
              have Ny193 := Aside0.mk hy193
              clear hy193
              by_cases c8 : 2 + (strOfNums y193).size ≤ 9223372036854775807
              · rw [if_pos c8] at H
                have c8b0 := eq_true c8
                have c8b1 : decide (2 + (strOfNums y193).size ≤ 9223372036854775807) = true := decide_eq_true c8
                try have c8b2 : (9223372036854775807 < 2 + (strOfNums y193).size) = False := eq_false (Nat.not_lt.2 c8)
                obtain rfl := Option.some.inj H
                go_enter Tryd.func48, Tryd.ntmps48
                go_wp2_with (first | ((with_reducible refine gate_dst (N := 20) rfl ?_); refine Kd.R_lit (Kd.int .u8) _ 5 ?hg (N := 20) ?hd (xs := ([(a0) % 256] : List Int)) (inner := [.int .u8 ((a0) % 256)]) (ok := fun _ => True) (okp := fun _ => True) ?hr ?hp (fun _ hk => hk) trivial (Below.refl _ _) (Nat.le_refl _) (by simp) ?_; (case hd => rfl); (case hg => rfl); (case hr => first | (go_simp; done) | (go_simp; rfl)); (case hp => exact (Reps.one (show Kd.M (Kd.int .u8) _ _ _ ((a0) % 256) [.int .u8 ((a0) % 256)] from rfl) (Reps.none _ _))); intro v194 w9 ho10 hb hg_ hnew_; clear hg_ hnew_; (first | rw [← Ny193.out] at ho10 | (simp only [Int.reduceToNat] at ho10; rw [← Ny193.out] at ho10)); have n0_ := Aside0.mk (Kd.R_lower ho10 (below_size (by repeat (first | (with_reducible first | exact HB.out | apply below_alloc | apply pw_below_drewN | apply below_drew1) | exact HB.out)))); have n1_ := Aside0.mk (below_step (by repeat (first | (with_reducible first | exact HB.out | apply below_alloc | apply pw_below_drewN | apply below_drew1) | exact HB.out)) hb); clear HB; have HO195 := n0_; have HB := n1_; clear n0_ n1_; clear hb ho10; have hcv11 := own_string (P := Tryd.prog) Tryd.underlying76 Tryd.underlying5 Tryd.underlying9 (Kd.own_of_R HO195.out)))
                go_ret
                exact ⟨by first | rfl | (simp [errW_none, errW_some] <;> rfl) | (simp [*, errW_none, errW_some] <;> rfl), by repeat (first | (with_reducible first | exact HB.out | apply below_alloc | apply pw_below_drewN | apply below_drew1) | exact HB.out)⟩
              · rw [if_neg c8] at H
                exact absurd H (by simp)

end Go.Proofs.YthighbbikpnpgaaDoor.PSh

/-! ShA -/
namespace Go.Proofs.YthighbbikpnpgaaDoor
open Go.RowKit Go.Proofs.YthighbbikpnpgaaDoor.PSh Go.Proofs.YthighbbikpnpgaaDoorW.PrintWords

def charL (n : Int) : List UInt8 :=
  if n = 32 then [35, 92, 115, 112, 97, 99, 101] else if n = 10 then [35, 92, 110, 101, 119, 108, 105, 110, 101] else if n = 9 then [35, 92, 116, 97, 98] else if n = 0 then [35, 92, 110, 117, 108]
  else if n < 0 then [] else if 255 < n then [] else [35, 92, UInt8.ofNat n.toNat]
theorem charL_len (n : Int) : (charL n).length ≤ 9 := by
  unfold charL
  repeat' split
  all_goals simp

theorem ofNums1 (n : Int) (h0 : 0 ≤ n) (h1 : n ≤ 255) : strOfNums [n % 256] = ⟨#[UInt8.ofNat n.toNat]⟩ := by
  have : n % 256 = n := by omega
  rw [this]
  rfl

theorem showchar_f (n : Int) : show_Char.f n = some ⟨(charL n).toArray⟩ := by
  unfold show_Char.f charL
  by_cases h1 : n = 32; · simp [h1]
  by_cases h2 : n = 10; · simp [h2]
  by_cases h3 : n = 9; · simp [h3]
  by_cases h4 : n = 0; · simp [h4]
  by_cases h5 : n < 0; · simp [h1, h2, h3, h4, h5]
  by_cases h6 : 255 < n; · simp [h1, h2, h3, h4, h5, h6]
  rw [if_neg h1, if_neg h2, if_neg h3, if_neg h4, if_neg h5, if_neg h6, if_neg h1, if_neg h2, if_neg h3, if_neg h4, if_neg h5, if_neg h6]
  simp only [Option.bind_some]
  rw [ofNums1 n (by omega) (by omega), if_pos (by show 2 + 1 ≤ 9223372036854775807; omega)]
  rfl

theorem refchar_f (n : Int) (k : Nat) (hk : 1 ≤ k) : spindleref09_Char.f k n = some ⟨(charL n).toArray⟩ := by
  obtain ⟨k, rfl⟩ : ∃ m, k = m + 1 := ⟨k - 1, by omega⟩
  unfold spindleref09_Char.f charL
  by_cases h5 : n < 0
  · rw [if_pos h5]
    simp only [spindleref09_Char.j0]
    rw [if_pos True.intro, if_neg (by omega), if_neg (by omega), if_neg (by omega), if_neg (by omega), if_pos h5]
  · rw [if_neg h5]
    simp only [spindleref09_Char.j0]
    by_cases h6 : n > 255
    · rw [decide_eq_true h6, if_pos rfl, if_neg (by omega), if_neg (by omega), if_neg (by omega), if_neg (by omega), if_neg h5, if_pos h6]
    · rw [decide_eq_false h6, if_neg (by decide)]
      by_cases h1 : n = 32; · simp [h1]
      by_cases h2 : n = 10; · simp [h2]
      by_cases h3 : n = 9; · simp [h3]
      by_cases h4 : n = 0; · simp [h4]
      rw [if_neg h1, if_neg h2, if_neg h3, if_neg h4, if_neg h1, if_neg h2, if_neg h3, if_neg h4, if_neg h5, if_neg h6]
      simp only [Option.bind_some]
      rw [ofNums1 n (by omega) (by omega), if_pos (by show 2 + 1 ≤ 9223372036854775807; omega)]
      rfl

def escL (c : UInt8) : List UInt8 := if c = 10 then [92, 110] else if c = 9 then [92, 116] else if c = 34 ∨ c = 92 then [92, c] else [c]
def strL (l : List UInt8) : List UInt8 := 34 :: (l.flatMap escL ++ [34])
theorem escL_len (c : UInt8) : (escL c).length ≤ 2 := by
  unfold escL
  repeat' split
  all_goals simp
theorem esc_len (l : List UInt8) : (l.flatMap escL).length ≤ 2 * l.length := by
  induction l with
  | nil => simp
  | cons c r ih => rw [List.flatMap_cons, List.length_append, List.length_cons]; have := escL_len c; omega
theorem strL_len (l : List UInt8) : (strL l).length ≤ 2 * l.length + 2 := by
  unfold strL
  have := esc_len l
  simp only [List.length_cons, List.length_append, List.length_nil]
  omega

theorem bt_nat (s : ByteArray) (j : Nat) (h : j < s.data.toList.length) : bt s (j : Int) = (s.data.toList[j].toNat : Int) := by
  unfold bt
  have h' : (j : Int).toNat < s.size := by rw [Int.toNat_natCast]; simpa using h
  rw [dif_pos h']
  have : s[(j : Int).toNat]'h' = s.data.toList[j] := by
    show s.data[(j : Int).toNat] = _
    simp
  rw [this]

theorem numsOf_app (xs : List UInt8) (ys : List UInt8) : (xs.map fun b => (b.toNat : Int)) ++ (ys.map fun b => (b.toNat : Int)) = (xs ++ ys).map fun b => (b.toNat : Int) := by simp
theorem strOf_bytes (l : List UInt8) : strOfNums (l.map fun b => (b.toNat : Int)) = ⟨l.toArray⟩ := by
  unfold strOfNums
  congr 1
  congr 1
  rw [List.map_map]
  conv => rhs; rw [← List.map_id l]
  apply List.map_congr_left
  intro b _
  simp

theorem refstr_l0 (s : ByteArray) (hs : s.data.toList.length ≤ 1000000000) : ∀ (d j K : Nat) (acc : List UInt8), d = s.data.toList.length - j → j ≤ s.data.toList.length → d + 1 ≤ K → acc.length + 2 * d ≤ 10000000000 →
    spindleref09_str.l0 K s (acc.map fun b => (b.toNat : Int)) (j : Int) = some ⟨(acc ++ (s.data.toList.drop j).flatMap escL ++ [34]).toArray⟩ := by
  intro d
  induction d with
  | zero =>
    intro j K acc hd hj hK hacc
    obtain ⟨K, rfl⟩ : ∃ m, K = m + 1 := ⟨K - 1, by omega⟩
    obtain rfl : j = s.data.toList.length := by omega
    simp only [spindleref09_str.l0]
    rw [if_neg (by simp), if_pos (by simp; omega), List.drop_length]
    have := numsOf_app acc [34]
    rw [show ([34] : List Int) = ([34] : List UInt8).map fun b => (b.toNat : Int) from rfl, this, strOf_bytes]
    simp
  | succ d ih =>
    intro j K acc hd hj hK hacc
    obtain ⟨K, rfl⟩ : ∃ m, K = m + 1 := ⟨K - 1, by omega⟩
    have hlt : j < s.data.toList.length := by omega
    have hw : wrap64 ((j : Int) + 1) = ((j + 1 : Nat) : Int) := by unfold wrap64; omega
    have hlt' : (j : Int) < (s.size : Int) := by have : s.size = s.data.toList.length := by simp
                                                 omega
    simp only [spindleref09_str.l0]
    rw [if_pos hlt', if_pos (by omega), bt_nat s j hlt, List.drop_eq_getElem_cons hlt, List.flatMap_cons, hw]
    generalize s.data.toList[j] = c
    have step : ∀ e : List UInt8, escL c = e → e.length ≤ 2 → spindleref09_str.l0 K s ((acc ++ e).map fun b => (b.toNat : Int)) ((j + 1 : Nat) : Int) = some ⟨(acc ++ (escL c ++ (s.data.toList.drop (j + 1)).flatMap escL) ++ [34]).toArray⟩ := by
      intro e he hl
      rw [ih (j + 1) K (acc ++ e) (by omega) (by omega) (by omega) (by simp; omega), he]
      simp
    have hcc : ∀ n : Nat, n < 256 → (((c.toNat : Int) = (n : Int)) ↔ c = UInt8.ofNat n) := by
      intro n hn
      constructor
      · intro h
        have : c.toNat = n := by omega
        rw [← this]; simp
      · rintro rfl
        simp
        omega
    have e10 : ((c.toNat : Int) = 10) ↔ c = 10 := hcc 10 (by decide)
    have e9 : ((c.toNat : Int) = 9) ↔ c = 9 := hcc 9 (by decide)
    have e92 : ((c.toNat : Int) = 92) ↔ c = 92 := hcc 92 (by decide)
    have e34 : ((c.toNat : Int) = 34) ↔ c = 34 := hcc 34 (by decide)
    by_cases h1 : c = 10
    · rw [if_pos (e10.2 h1)]
      simp only [Option.bind_some]
      rw [if_pos (by simp; omega)]
      have := step [92, 110] (by simp [escL, h1]) (by simp)
      rw [← this]; simp
    rw [if_neg (fun e => h1 (e10.1 e))]
    by_cases h2 : c = 9
    · rw [if_pos (e9.2 h2)]
      simp only [Option.bind_some]
      rw [if_pos (by simp; omega)]
      have := step [92, 116] (by simp [escL, h2]) (by simp)
      rw [← this]; simp
    rw [if_neg (fun e => h2 (e9.1 e))]
    by_cases h3 : c = 92
    · rw [if_pos (e92.2 h3)]
      simp only [Option.bind_some]
      rw [if_pos (by simp; omega)]
      have := step [92, c] (by simp [escL, h3]) (by simp)
      rw [← this]; simp
    rw [if_neg (fun e => h3 (e92.1 e))]
    by_cases h4 : c = 34
    · rw [if_pos (e34.2 h4)]
      simp only [Option.bind_some]
      rw [if_pos (by simp; omega)]
      have := step [92, c] (by simp [escL, h4]) (by simp)
      rw [← this]; simp
    rw [if_neg (fun e => h4 (e34.1 e))]
    rw [if_pos (by simp; omega)]
    have := step [c] (by simp [escL, h1, h2, h3, h4]) (by simp)
    rw [← this]; simp

theorem refstr_f (s : ByteArray) (hs : s.data.toList.length ≤ 1000000000) (K : Nat) (hK : s.data.toList.length + 1 ≤ K) : spindleref09_str.f K s = some ⟨(strL s.data.toList).toArray⟩ := by
  unfold spindleref09_str.f
  have := refstr_l0 s hs s.data.toList.length 0 K [34] (by omega) (by omega) hK (by show 1 + 2 * _ ≤ 10000000000; omega)
  simpa [strL] using this
end Go.Proofs.YthighbbikpnpgaaDoor

/-! ShB -/
namespace Go.Proofs.YthighbbikpnpgaaDoor
open Go.RowKit Go.Proofs.YthighbbikpnpgaaDoor.PSh Go.Proofs.YthighbbikpnpgaaDoorW.PrintWords

mutual
/-- The text of a datum; p: as it is shown to people. -/
def txtD : Dat → Bool → List UInt8
  | ⟨k, n, t, l⟩, p =>
    if k = 1 then Lib.itoa n else if k = 2 then (if n = 1 then [35, 116] else [35, 102])
    else if k = 3 then (if p = true then [UInt8.ofNat n.toNat] else charL n)
    else if k = 4 then (if p = true then t.data.toList else strL t.data.toList)
    else if k = 5 then t.data.toList
    else (if k = 8 then [35, 40] else [40]) ++ itemsL (k == 7) true l p
/-- What stands between the brackets, and the last one. -/
def itemsL : Bool → Bool → List Dat → Bool → List UInt8
  | _, _, [], _ => [41]
  | dot, first, x :: r, p => (if first = true then [] else [32]) ++ ((if dot = true ∧ r = [] then [46, 32] else []) ++ (txtD x p ++ itemsL dot false r p))
end

theorem items_len (dot first : Bool) (l : List Dat) (p : Bool) : 1 ≤ (itemsL dot first l p).length := by
  induction l generalizing first with
  | nil => rw [itemsL]; simp
  | cons x r ih => rw [itemsL]; simp only [List.length_append]; have := ih false; omega

mutual
/-- How many parts in all. -/
def prt : Dat → Nat
  | ⟨_, _, _, l⟩ => prtL l + 1
def prtL : List Dat → Nat
  | [] => 0
  | x :: r => prt x + prtL r
end

theorem cnt_prt (m : Nat) : ∀ x : Dat, szD x < m → ∀ n, cnt x n ≤ 4999 → cnt x n = n + prt x := by
  induction m with
  | zero => intro x h; omega
  | succ m ih =>
    intro x hx n
    have hxs : ∀ y ∈ x.f3, szD y < m := fun y hy => by have := dat_lt hy; omega
    obtain ⟨a, b, c, l⟩ := x
    rw [cnt, prt]
    have : ∀ (l : List Dat), (∀ y ∈ l, szD y < m) → ∀ k, cntL l k ≤ 4999 → cntL l k = k + prtL l := by
      intro l
      induction l with
      | nil => intro _ k _; rw [cntL, prtL]; omega
      | cons y r ihr =>
        intro hl k hk
        by_cases h5 : 5000 ≤ k
        · rw [cntL_stop _ _ h5] at hk; omega
        · rw [cntL_next _ _ _ h5] at hk ⊢
          have hr : ∀ k, k ≤ 5000 → k ≤ cntL r k := by
            have : ∀ (r : List Dat), (∀ y ∈ r, szD y < m) → ∀ k, k ≤ 5000 → k ≤ cntL r k := by
              intro r
              induction r with
              | nil => intro _ k _; rw [cntL]; omega
              | cons z r ihr =>
                intro hl k hk
                by_cases h5 : 5000 ≤ k
                · rw [cntL_stop _ _ h5]; omega
                · rw [cntL_next _ _ _ h5]
                  have h1 := cnt_bound m z (hl z (by simp)) k (by omega)
                  have := ihr (fun w hw => hl w (by simp [hw])) (cnt z k) h1.2
                  omega
            exact this r (fun w hw => hl w (by simp [hw]))
          have hb := cnt_bound m y (hl y (by simp)) k (by omega)
          have h1 := hr (cnt y k) hb.2
          have h2 := ih y (hl y (by simp)) k (by omega)
          have h3 := ihr (fun w hw => hl w (by simp [hw])) (cnt y k) hk
          rw [prtL]
          omega
    intro h
    rw [this l hxs (n + 1) h]
    omega

/-- A right datum's text is not long. -/
theorem txt_len (m : Nat) : ∀ x : Dat, szD x < m → ∀ wi p, fitsD x wi = true → (txtD x p).length + 10 ≤ 2000 * prt x := by
  induction m with
  | zero => intro x h; omega
  | succ m ih =>
    intro x hx wi p hf
    have hxs : ∀ y ∈ x.f3, szD y < m := fun y hy => by have := dat_lt hy; omega
    obtain ⟨k, n, t, l⟩ := x
    rw [fitsD] at hf
    rw [txtD, prt]
    simp only [Bool.and_eq_true] at hf
    obtain ⟨_, hf⟩ := hf
    have hl : ∀ (l : List Dat), (∀ y ∈ l, szD y < m) → fitsL l (wi + 1) = true → ∀ dot first, (itemsL dot first l p).length ≤ 2000 * prtL l + 1 := by
      intro l
      induction l with
      | nil => intro _ _ dot first; rw [itemsL, prtL]; simp
      | cons y r ihr =>
        intro hs hfl dot first
        rw [fitsL] at hfl
        simp only [Bool.and_eq_true] at hfl
        have h1 := ih y (hs y (by simp)) (wi + 1) p hfl.1
        have h2 := ihr (fun w hw => hs w (by simp [hw])) hfl.2 dot false
        rw [itemsL, prtL]
        simp only [List.length_append]
        have e1 : (if first = true then ([] : List UInt8) else [32]).length ≤ 1 := by split <;> simp
        have e2 : (if dot = true ∧ r = [] then ([46, 32] : List UInt8) else []).length ≤ 2 := by split <;> simp
        omega
    by_cases k1 : k = 1
    · subst k1
      rw [if_pos rfl] at hf ⊢
      simp only [Bool.and_eq_true, decide_eq_true_eq] at hf
      have := Lib.itoa_length_le n (by omega) (by omega)
      omega
    rw [if_neg k1] at hf ⊢
    by_cases k2 : k = 2
    · subst k2
      rw [if_pos rfl]
      split <;> (simp; omega)
    rw [if_neg k2] at hf ⊢
    by_cases k3 : k = 3
    · subst k3
      rw [if_pos rfl]
      have := charL_len n
      split
      · simp; omega
      · omega
    rw [if_neg k3] at hf ⊢
    by_cases k4 : k = 4
    · subst k4
      rw [if_pos rfl] at hf ⊢
      simp only [Bool.and_eq_true, decide_eq_true_eq] at hf
      have := strL_len t.data.toList
      have e : t.size = t.data.toList.length := by simp
      split <;> omega
    rw [if_neg k4] at hf ⊢
    by_cases k5 : k = 5
    · subst k5
      rw [if_pos rfl] at hf ⊢
      simp only [Bool.and_eq_true] at hf
      have := hf.2
      unfold symL at this
      simp only [Bool.and_eq_true, decide_eq_true_eq] at this
      omega
    rw [if_neg k5] at hf ⊢
    have hfl : fitsL l (wi + 1) = true := by
      by_cases k7 : k = 7
      · rw [if_pos k7] at hf
        simp only [Bool.and_eq_true] at hf
        exact hf.1.1.2
      · rw [if_neg k7] at hf
        by_cases k68 : k = 6 ∨ k = 8
        · rw [if_pos k68] at hf
          simp only [Bool.and_eq_true] at hf
          exact hf.1.1
        · rw [if_neg k68] at hf; cases hf
    have h1 := hl l hxs hfl (k == 7) true
    have e1 : (if k = 8 then ([35, 40] : List UInt8) else [40]).length ≤ 2 := by split <;> simp
    rw [List.length_append]
    omega
end Go.Proofs.YthighbbikpnpgaaDoor

/-! Bz -/
namespace Go.Proofs.YthighbbikpnpgaaDoor
open Go.RowKit

/-- The builder lies at the head of block b (one of the call's own, from B on) of type T, behind it the cells 'tail'; it holds the bytes l. -/
def Bld (T : TypeId) (tail : List Value) (B b : Nat) (l : List UInt8) (w : World) : Prop :=
  B ≤ b ∧ ∃ p v, (p = .pointer none ∨ p = .pointer (some ⟨b, 0, none⟩)) ∧ w.heap[b]? = some (.cells (p :: v :: tail).toArray T (0, 0)) ∧ w.ownsRow B 5 1 v l.length (Lib.byteCells l) ∧ v.ownBlock ≠ some b ∧ (l = [] → v = .slice none 0 0)

/-- Is a builder found at the head of a block of type T with n cells behind it? -/
def Lies (T : TypeId) (n : Nat) : Prop := liesAt Tryd.prog Tryd.prog.depth T ((2 + n) / Tryd.prog.cellsOf T) 0 176 1 = true ∧ T ≠ 5

theorem Bld.lt {T : TypeId} {tail : List Value} {B b : Nat} {l : List UInt8} {w : World} (h : Bld T tail B b l w) : b < w.heap.size := by
  obtain ⟨_, p, v, _, hb, _⟩ := h
  exact heap_lt hb

theorem bld_fresh (T : TypeId) (tail : List Value) (w : World) (B : Nat) (hB : B ≤ w.heap.size) : Bld T tail B w.heap.size [] (w.alloc (.cells (.pointer none :: .slice none 0 0 :: tail).toArray T)) :=
  ⟨hB, _, _, .inl rfl, heap_alloc_new w _, World.ownsRow_nil _ _ _ _, by simp [Value.ownBlock], fun _ => rfl⟩

theorem Bld.below {T : TypeId} {tail : List Value} {B b : Nat} {l : List UInt8} {w w' : World} (h : Bld T tail B b l w) (hb : Below w.heap.size w w') : Bld T tail B b l w' := by
  obtain ⟨hB, p, v, hp, hk, hown, hne, h0⟩ := h
  exact ⟨hB, p, v, hp, heap_below hk hb (heap_lt hk), own_below hown hb, hne, h0⟩

/-- What the builder's methods leave as it was: all but its block and rows of bytes that nobody has marked. -/
def Oth (b : Nat) (w w' : World) : Prop := ∀ k o, w.heap[k]? = some o → k ≠ b → (∀ c, o ≠ .cells c 5 (0, 0)) → w'.heap[k]? = some o
theorem Oth.refl (b : Nat) (w : World) : Oth b w w := fun _ _ h _ _ => h
theorem Oth.trans {b : Nat} {a c d : World} (h : Oth b a c) (k : Oth b c d) : Oth b a d := fun i o hi hb ho => k i o (h i o hi hb ho) hb ho
theorem Oth.alloc {b : Nat} {a w : World} (h : Oth b a w) (o : Obj) : Oth b a (w.alloc o) := by
  intro k x hk hb hx
  have h1 := h k x hk hb hx
  have hlt : k < w.heap.size := (Array.getElem?_eq_some_iff.1 h1).1
  exact (RowKit.Below.heap_alloc w o k hlt).trans h1
theorem Oth.setCell {b : Nat} {a w : World} (h : Oth b a w) (p : Addr) (hp : p.block = b) (v : Value) : Oth b a (w.setCell p v) := by
  intro k x hk hb hx
  have h1 := h k x hk hb hx
  rw [RowKit.Below.heap_setCell _ _ _ _ (fun e => hb (by rw [← hp, e]))]
  exact h1
theorem Oth.grown {b : Nat} {a w w' : World} {row : Option Nat} (h : Oth b a w) (hg : w.grownBy w' row) (hrow : ∀ g, row = some g → ∃ c, w.heap[g]? = some (.cells c 5 (0, 0))) : Oth b a w' := by
  intro k x hk hb hx
  have h1 := h k x hk hb hx
  have hlt : k < w.heap.size := (Array.getElem?_eq_some_iff.1 h1).1
  rw [hg.block k hlt ?_]
  · exact h1
  · intro hk2
    obtain ⟨c, hc⟩ := hrow k hk2.symm
    rw [h1] at hc
    exact hx c (Option.some.inj hc)
theorem own_kind {w : World} {B : Nat} {e : TypeId} {v : Value} {n : Nat} {xs : List Value} (h : w.ownsRow B e 1 v n xs) : ∀ g, v.ownBlock = some g → ∃ c, w.heap[g]? = some (.cells c e (0, 0)) := by
  intro g hg
  rcases h.2 with ⟨rfl, _⟩ | ⟨g', cap, cur, rfl, _, hgg, _⟩
  · simp [Value.ownBlock] at hg
  · simp [Value.ownBlock] at hg
    subst hg
    exact ⟨cur, hgg⟩

theorem size_builder : (Tryd.prog.info? 176).map (·.size) = some 2 := by kernel_rfl
theorem info_byte : (Tryd.prog.info? 5).map (fun i => (i.zero, i.size, i.bytes)) = some (some (.int .u8 0), 1, 1) := by kernel_rfl

set_option maxRecDepth 100000 in
theorem copyCheck_used (b : Nat) (w : World) (h0 : w.cell? ⟨b, 0, none⟩ = some (.pointer (some ⟨b, 0, none⟩))) :
    Calls Tryd.prog 123 #[.pointer (some ⟨b, 0, none⟩)] w fun e w' => e = .returned (.tuple #[]) ∧ w' = w := by
  obtain ⟨j, hj, _⟩ := Option.map_eq_some_iff.1 size_builder
  go_enter Tryd.func123, Tryd.ntmps123
  go_wp2
  rw [Lib.run_neq_ptr_same w _ Tryd.underlying174 hj]
  go_wp2
  go_end0
  exact ⟨rfl, rfl⟩

set_option maxRecDepth 100000 in
theorem copyCheck_fresh (b n : Nat) (T : TypeId) (w : World) (h0 : w.cell? ⟨b, 0, none⟩ = some (.pointer none)) (hsh : w.shape? b = some (T, 2 + n)) (hlies : Lies T n) (hfz : w.frozen? ⟨b, 0, none⟩ = false) :
    Calls Tryd.prog 123 #[.pointer (some ⟨b, 0, none⟩)] w fun e w' => e = .returned (.tuple #[]) ∧ w' = w.setCell ⟨b, 0, none⟩ (.pointer (some ⟨b, 0, none⟩)) := by
  obtain ⟨j, hj, hjs⟩ := Option.map_eq_some_iff.1 size_builder
  go_enter Tryd.func123, Tryd.ntmps123
  go_wp2
  rw [Lib.run_to_unsafe w ⟨b, 0, none⟩ Tryd.underlying174 Tryd.underlying162 hj (by rw [hjs]; decide) hsh (by show 0 < 2 + n; omega)]
  simp only [Result.andThen]
  rw [Oper.upon_value]
  go_wp2
  rw [run_callFunc_extern Tryd.func130 (by kernel_rfl) (by kernel_rfl) (by kernel_rfl) (e := Extern.AbiNoEscape.same) (by kernel_rfl)]
  rw [Lib.run_noEscape]
  simp only [Result.andThen]
  rw [Oper.upon_value]
  go_wp2
  rw [Lib.run_from_unsafe w ⟨b, 0, none⟩ Tryd.underlying162 Tryd.underlying174 hj hsh hlies.1]
  simp only [Result.andThen]
  rw [Oper.upon_value]
  go_wp2
  go_end0
  exact ⟨rfl, rfl⟩

/-- A builder that has been written, its first cell told. -/
def BldU (T : TypeId) (tail : List Value) (B b : Nat) (l : List UInt8) (w : World) : Prop :=
  B ≤ b ∧ ∃ v, w.heap[b]? = some (.cells (.pointer (some ⟨b, 0, none⟩) :: v :: tail).toArray T (0, 0)) ∧ w.ownsRow B 5 1 v l.length (Lib.byteCells l) ∧ v.ownBlock ≠ some b ∧ (l = [] → v = .slice none 0 0)

theorem BldU.bld {T : TypeId} {tail : List Value} {B b : Nat} {l : List UInt8} {w : World} (h : BldU T tail B b l w) : Bld T tail B b l w := by
  obtain ⟨hB, v, hb, hown, hne, h0⟩ := h
  exact ⟨hB, _, v, .inr rfl, hb, hown, hne, h0⟩

theorem set_heap {w : World} {b : Nat} {cs : Array Value} {T : TypeId} (h : w.heap[b]? = some (.cells cs T (0, 0))) (i : Nat) (u : Value) :
    (w.setCell ⟨b, i, none⟩ u).heap[b]? = some (.cells (cs.setIfInBounds i u) T (0, 0)) := by
  simp [World.setCell, Array.getElem?_modify, h]

theorem own_ne_block {w : World} {B : Nat} {e T : TypeId} {v : Value} {n : Nat} {xs : List Value} {b : Nat} {cs : Array Value} {fr : Nat × Nat} (hown : w.ownsRow B e 1 v n xs) (hb : w.heap[b]? = some (.cells cs T fr)) (hTe : T ≠ e) : v.ownBlock ≠ some b :=
  Lib.ownBlock_ne hown hb hTe

theorem own_set {w : World} {B : Nat} {e : TypeId} {v : Value} {n : Nat} {xs : List Value} {b : Nat} (hown : w.ownsRow B e 1 v n xs) (hne : v.ownBlock ≠ some b) (i : Nat) (u : Value) : (w.setCell ⟨b, i, none⟩ u).ownsRow B e 1 v n xs :=
  hown.kept (row := some b) ⟨rfl, rfl, rfl, by simp [World.setCell], fun k _ hk => Below.heap_setCell _ _ _ _ (by intro e; exact hk (by rw [e]))⟩ (.inr hne)

theorem copyCheck_any (T : TypeId) (tail : List Value) (B b : Nat) (l : List UInt8) (w : World) (h : Bld T tail B b l w) (hlies : Lies T tail.length) :
    Calls Tryd.prog 123 #[.pointer (some ⟨b, 0, none⟩)] w fun e w' => e = .returned (.tuple #[]) ∧ BldU T tail B b l w' ∧ Below B w w' ∧ Oth b w w' := by
  obtain ⟨hB, p, v, hp, hb, hown, hne, hnil⟩ := h
  rcases hp with rfl | rfl
  · have h0 : w.cell? ⟨b, 0, none⟩ = some (.pointer none) := by rw [Lib.cell_of_heap hb]; rfl
    have hsh : w.shape? b = some (T, 2 + tail.length) := by
      simp [World.shape?, hb]; omega
    refine (copyCheck_fresh b tail.length T w h0 hsh hlies (Lib.frozen_of_heap hb 0)).mono ?_
    rintro e w' ⟨rfl, rfl⟩
    refine ⟨rfl, ⟨hB, v, ?_, own_set hown hne _ _, hne, hnil⟩, (Below.refl B w).setCell (p := ⟨b, 0, none⟩) hB _, (Oth.refl _ _).setCell ⟨b, 0, none⟩ rfl _⟩
    rw [set_heap hb]
    rfl
  · refine (copyCheck_used b w (by rw [Lib.cell_of_heap hb]; rfl)).mono ?_
    rintro e w' ⟨rfl, rfl⟩
    exact ⟨rfl, ⟨hB, v, hb, hown, hne, hnil⟩, Below.refl B _, Oth.refl _ _⟩

theorem BldU.put {T : TypeId} {tail : List Value} {B b : Nat} {l : List UInt8} {w : World} {p v v' : Value} (hB : B ≤ b) (hb : w.heap[b]? = some (.cells (p :: v :: tail).toArray T (0, 0))) (hp : p = .pointer (some ⟨b, 0, none⟩))
    (hown : w.ownsRow B 5 1 v' l.length (Lib.byteCells l)) (hT : T ≠ 5) (hnil : l = [] → v' = .slice none 0 0) : BldU T tail B b l (w.setCell ⟨b, 1, none⟩ v') := by
  subst hp
  have hne := own_ne_block hown hb hT
  refine ⟨hB, v', ?_, own_set hown hne _ _, hne, hnil⟩
  rw [set_heap hb]
  rfl

theorem ba_nil {s : ByteArray} (h : s.data.toList = []) : s = ByteArray.empty := by
  obtain ⟨⟨x⟩⟩ := s
  obtain rfl : x = [] := h
  rfl

set_option maxHeartbeats 1000000 in
theorem writeString_any (T : TypeId) (tail : List Value) (B b : Nat) (l : List UInt8) (s : ByteArray) (w : World) (h : Bld T tail B b l w) (hlies : Lies T tail.length) (hlen : l.length + s.size ≤ 140737488355328) (hBw : B ≤ w.heap.size) :
    Calls Tryd.prog 115 #[.pointer (some ⟨b, 0, none⟩), .string s] w fun e w' => e = .returned (.tuple #[.int .i64 s.size, .nilIface]) ∧ BldU T tail B b (l ++ s.data.toList) w' ∧ Below B w w' ∧ Oth b w w' := by
  obtain ⟨i0, hi, hz0, hz1, hz2⟩ := info_parts info_byte
  obtain ⟨W, rfl⟩ : ∃ W : World, W = w := ⟨w, rfl⟩
  go_enter Tryd.func115, Tryd.ntmps115
  go_wp2_with fail
  refine (copyCheck_any T tail B b l _ h hlies).mono ?_
  rintro e w1 ⟨rfl, h1, hb1, ho1⟩
  obtain ⟨hB, v, hbk, hown, hne, hnil⟩ := h1
  have hNil := Lib.hid hnil
  clear hnil
  have c0 : w1.cell? ⟨b, 0, none⟩ = some (.pointer (some ⟨b, 0, none⟩)) := by rw [Lib.cell_of_heap hbk]; rfl
  have c1 : w1.cell? ⟨b, 1, none⟩ = some v := by rw [Lib.cell_of_heap hbk]; rfl
  have hbs := hb1.size
  go_wp2_with (at_builtin; refine Lib.wpList_append_own_string _ rfl _ _ 76 9 rfl B 5 i0 Tryd.underlying76 Tryd.underlying9 hi hz0 hz1 hz2 _ _ _ rfl hown s rfl ?c3 ?c4 ?c5 ?_)
  case c3 => unfold maxLen; omega
  case c4 => omega
  case c5 => omega
  intro v' w2 hown' hgrow hn'
  have hN := Lib.hid hn'
  clear hn'
  have hlt : b < w1.heap.size := heap_lt hbk
  have hb2 : w2.heap[b]? = some (.cells (.pointer (some ⟨b, 0, none⟩) :: v :: tail).toArray T (0, 0)) := by
    rw [hgrow.block b hlt (fun e => hne e.symm)]
    exact hbk
  have d0 : w2.cell? ⟨b, 0, none⟩ = some (.pointer (some ⟨b, 0, none⟩)) := by rw [Lib.cell_of_heap hb2]; rfl
  have d1 : w2.cell? ⟨b, 1, none⟩ = some v := by rw [Lib.cell_of_heap hb2]; rfl
  have f1 : w2.frozen? ⟨b, 1, none⟩ = false := Lib.frozen_of_heap hb2 1
  obtain ⟨ao, n', cap, rfl⟩ : ∃ ao n' cap, v' = .slice ao n' cap := by
    rcases hown'.2 with ⟨hv, _⟩ | ⟨g, cap, cur, hv, _⟩
    · exact ⟨_, _, _, hv⟩
    · exact ⟨_, _, _, hv⟩
  go_wp2
  go_ret2
  refine ⟨rfl, ?_, ?_, ?_⟩
  · refine BldU.put hB hb2 rfl ?_ hlies.2 ?_
    · rw [Lib.byteCells_append, List.length_append, ← Lib.size_eq]
      exact hown'
    · intro e
      rw [List.append_eq_nil_iff] at e
      exact hN.out.2 ⟨hNil.out e.1, ba_nil e.2⟩
  · exact (hb1.grown hgrow (by omega) (fun k hk => (hown.lt k hk).1)).setCell (p := ⟨b, 1, none⟩) hB _
  · exact (ho1.grown hgrow (own_kind hown)).setCell ⟨b, 1, none⟩ rfl _

set_option maxHeartbeats 1000000 in
theorem writeByte_any (T : TypeId) (tail : List Value) (B b : Nat) (l : List UInt8) (c : Int) (w : World) (h : Bld T tail B b l w) (hlies : Lies T tail.length) (hlen : l.length + 1 ≤ 140737488355328) (hBw : B ≤ w.heap.size) (h0 : 0 ≤ c) (h255 : c < 256) :
    Calls Tryd.prog 109 #[.pointer (some ⟨b, 0, none⟩), .int .u8 c] w fun e w' => e = .returned .nilIface ∧ BldU T tail B b (l ++ [UInt8.ofNat c.toNat]) w' ∧ Below B w w' ∧ Oth b w w' := by
  obtain ⟨i0, hi, hz0, hz1, hz2⟩ := info_parts info_byte
  obtain ⟨W, rfl⟩ : ∃ W : World, W = w := ⟨w, rfl⟩
  go_enter Tryd.func109, Tryd.ntmps109
  go_wp2_with fail
  refine (copyCheck_any T tail B b l _ h hlies).mono ?_
  rintro e w1 ⟨rfl, h1, hb1, ho1⟩
  obtain ⟨hB, v, hbk, hown, hne, hnil⟩ := h1
  clear hnil
  have c0 : w1.cell? ⟨b, 0, none⟩ = some (.pointer (some ⟨b, 0, none⟩)) := by rw [Lib.cell_of_heap hbk]; rfl
  have c1 : w1.cell? ⟨b, 1, none⟩ = some v := by rw [Lib.cell_of_heap hbk]; rfl
  have hbs := hb1.size
  go_wp2_with (at_builtin; refine wpList_append_own _ rfl _ _ 76 rfl B 5 i0 (.int .u8 0) 1 1 Tryd.underlying76 hi hz0 hz1 hz2 rfl (by decide) _ _ _ rfl (hown.alloc _) ⟨w1.heap.size, 0, none⟩ 1 1 [.int .u8 c] rfl rfl ?c1 ?c2 ?c3 ?c4 ?c5 ?_)
  case c1 => exact news_new _ [_] _ _ rfl
  case c2 => first | rfl | (intro u hu; simp at hu; subst hu; rfl)
  case c3 => unfold maxLen; simp; omega
  case c4 => simp; omega
  case c5 => simp; omega
  intro v' w2 hown' hgrow _
  have hlt : b < w1.heap.size := heap_lt hbk
  have hb2 : w2.heap[b]? = some (.cells (.pointer (some ⟨b, 0, none⟩) :: v :: tail).toArray T (0, 0)) := by
    rw [hgrow.block b (by simp; omega) (fun e => hne e.symm), Lib.alloc_old w1 _ b hlt]
    exact hbk
  have d0 : w2.cell? ⟨b, 0, none⟩ = some (.pointer (some ⟨b, 0, none⟩)) := by rw [Lib.cell_of_heap hb2]; rfl
  have d1 : w2.cell? ⟨b, 1, none⟩ = some v := by rw [Lib.cell_of_heap hb2]; rfl
  have f1 : w2.frozen? ⟨b, 1, none⟩ = false := Lib.frozen_of_heap hb2 1
  obtain ⟨g, cap, rfl⟩ : ∃ g cap, v' = .slice (some ⟨g, 0, none⟩) (l.length + 1) cap := by
    rcases hown'.2 with ⟨_, h0⟩ | ⟨g, cap, cur, hv, _⟩
    · omega
    · exact ⟨g, cap, hv⟩
  go_wp2
  go_ret
  refine ⟨rfl, ?_, ?_, ?_⟩
  · refine BldU.put hB hb2 rfl ?_ hlies.2 (by simp)
    have hc : ((UInt8.ofNat c.toNat).toNat : Int) = c := by
      simp [UInt8.toNat_ofNat']
      omega
    have e : Lib.byteCells [UInt8.ofNat c.toNat] = [.int .u8 c] := by rw [Lib.byteCells, List.map_cons, hc]; rfl
    rw [Lib.byteCells_append, List.length_append, e]
    exact hown'
  · exact ((hb1.alloc (by omega) _).grown hgrow (by simp; omega) (fun k hk => (hown.lt k hk).1)).setCell (p := ⟨b, 1, none⟩) hB _
  · exact ((ho1.alloc _).grown hgrow (own_kind (hown.alloc _))).setCell ⟨b, 1, none⟩ rfl _

theorem cells_byte : Tryd.prog.cellsOf 5 = 1 := by kernel_rfl

set_option maxHeartbeats 2000000 in
set_option maxRecDepth 100000 in
theorem bstring_any (T : TypeId) (tail : List Value) (B b : Nat) (l : List UInt8) (w : World) (h : Bld T tail B b l w) :
    Calls Tryd.prog 99 #[.pointer (some ⟨b, 0, none⟩)] w fun e w' => e = .returned (.string ⟨l.toArray⟩) ∧ Below B w w' := by
  obtain ⟨hB, p, v, hp, hbk, hown, hne, hnil⟩ := h
  clear hp
  by_cases h0 : l = []
  · subst h0
    obtain rfl := hnil rfl
    have hUS : ∀ (W : World) (q : Option Addr), (Builtin.unsafeString_ #[197, 3] 9 #[.pointer q, .int .i64 0]).run Tryd.prog W = .ok (.string .empty) W := fun W q => Lib.run_unsafeString_none W _ _ _ q
    have c1 : w.drew.cell? ⟨b, 1, none⟩ = some (.slice none 0 0) := by
      have : w.drew.heap[b]? = some (.cells (p :: .slice none 0 0 :: tail).toArray T (0, 0)) := hbk
      rw [Lib.cell_of_heap this]; rfl
    have hSD : (Builtin.unsafeSliceData_ #[76] 197 #[.slice none 0 0]).run Tryd.prog w.drew = .ok (.pointer none) w.drew := rfl
    clear hown hne hnil hbk
    go_enter Tryd.func99, Tryd.ntmps99
    go_wp2
    go_region
    all_goals (go_wp2; go_ret; exact ⟨rfl, Below.drew (Below.refl B w)⟩)
  · have hl0 : l.length ≠ 0 := by simpa using h0
    obtain ⟨g, cap, cur, rfl, hbg, hg, hnc, hcm, hcs, htake⟩ : ∃ g cap cur, v = .slice (some ⟨g, 0, none⟩) l.length cap ∧ B ≤ g ∧ w.heap[g]? = some (.cells cur 5 (0, 0)) ∧ l.length ≤ cap ∧ cap ≤ maxLen ∧ cur.size = cap * 1 ∧ cur.toList.take (l.length * 1) = Lib.byteCells l := by
      rcases hown.2 with ⟨_, hz⟩ | ⟨g, cap, cur, hv, r⟩
      · exact absurd hz hl0
      · exact ⟨g, cap, cur, hv, r⟩
    have c1 : w.drew.cell? ⟨b, 1, none⟩ = some (.slice (some ⟨g, 0, none⟩) l.length cap) := by
      have : w.drew.heap[b]? = some (.cells (p :: .slice (some ⟨g, 0, none⟩) l.length cap :: tail).toArray T (0, 0)) := hbk
      rw [Lib.cell_of_heap this]; rfl
    have hSD : (Builtin.unsafeSliceData_ #[76] 197 #[.slice (some ⟨g, 0, none⟩) l.length cap]).run Tryd.prog w.drew = .ok (.pointer (some ⟨g, 0, none⟩)) w.drew :=
      Lib.run_unsafeSliceData_row _ _ _ _ _ _ (by omega)
    have hUS : (Builtin.unsafeString_ #[197, 3] 9 #[.pointer (some ⟨g, 0, none⟩), .int .i64 l.length]).run Tryd.prog w.drew = .ok (.string ⟨l.toArray⟩) (w.drew.freeze ⟨g, 0, none⟩ l.length) := by
      refine Lib.run_unsafeString_row w.drew 197 3 9 5 Tryd.underlying197 cells_byte g cur.size (by have hg' : w.drew.heap[g]? = some (.cells cur 5 (0, 0)) := hg; simp [World.shape?, hg']) l h0 (by omega) (by unfold maxLen at hcm; omega) ?_
      intro j x hx
      exact hown.cells (g := g) rfl j (.int .u8 x.toNat) (by simp [Lib.byteCells, hx])
    clear hown hne hnil hbk hg hnc hcm hcs htake
    go_enter Tryd.func99, Tryd.ntmps99
    go_wp2
    go_region
    all_goals (go_wp2; go_ret; exact ⟨rfl, Lib.below_freeze (Below.drew (Below.refl B w)) (p := ⟨g, 0, none⟩) hbg _⟩)
end Go.Proofs.YthighbbikpnpgaaDoor

/-! ShE -/
namespace Go.Proofs.YthighbbikpnpgaaDoor
open Go.RowKit Go.Proofs.YthighbbikpnpgaaDoor.PSh Go.Proofs.YthighbbikpnpgaaDoorW.PrintWords

abbrev PT : TypeId := 178
theorem pt_lies : Lies PT 1 := ⟨by kernel_rfl, by decide⟩

/-- The printer in block b holds the bytes l. -/
def Prn (p : Bool) (B b : Nat) (l : List UInt8) (w : World) : Prop := Bld PT [.bool p] B b l w
theorem Prn.people {p : Bool} {B b : Nat} {l : List UInt8} {w : World} (h : Prn p B b l w) : w.cell? ⟨b, 2, none⟩ = some (.bool p) := by
  obtain ⟨_, q, v, _, hb, _⟩ := h
  rw [Lib.cell_of_heap hb]
  rfl
theorem Prn.below {p : Bool} {B b : Nat} {l : List UInt8} {w w' : World} (h : Prn p B b l w) (hb : Below w.heap.size w w') : Prn p B b l w' := Bld.below h hb
theorem Prn.le {p : Bool} {B b : Nat} {l : List UInt8} {w : World} (h : Prn p B b l w) : B ≤ b ∧ b < w.heap.size := ⟨h.1, Bld.lt h⟩

def PrnTo (p : Bool) (B b : Nat) (l : List UInt8) (w : World) (e : Ending) (w' : World) : Prop := e = .returned (.tuple #[]) ∧ Prn p B b l w' ∧ Below B w w'

theorem ws_any (p : Bool) (B b : Nat) (l : List UInt8) (s : ByteArray) (w : World) (h : Prn p B b l w) (hlen : l.length + s.size ≤ 140737488355328) :
    Calls Tryd.prog 115 #[.pointer (some ⟨b, 0, none⟩), .string s] w fun e w' => e = .returned (.tuple #[.int .i64 s.size, .nilIface]) ∧ Prn p B b (l ++ s.data.toList) w' ∧ Below B w w' ∧ Oth b w w' :=
  (writeString_any PT [.bool p] B b l s w h pt_lies hlen (by have := h.le; omega)).mono fun _ _ ⟨h1, h2, h3, h4⟩ => ⟨h1, h2.bld, h3, h4⟩
theorem wb_any (p : Bool) (B b : Nat) (l : List UInt8) (c : Int) (w : World) (h : Prn p B b l w) (hlen : l.length + 1 ≤ 140737488355328) (h0 : 0 ≤ c) (h255 : c < 256) :
    Calls Tryd.prog 109 #[.pointer (some ⟨b, 0, none⟩), .int .u8 c] w fun e w' => e = .returned .nilIface ∧ Prn p B b (l ++ [UInt8.ofNat c.toNat]) w' ∧ Below B w w' ∧ Oth b w w' :=
  (writeByte_any PT [.bool p] B b l c w h pt_lies hlen (by have := h.le; omega) h0 h255).mono fun _ _ ⟨h1, h2, h3, h4⟩ => ⟨h1, h2.bld, h3, h4⟩

set_option maxRecDepth 16000 in
theorem str_people (B b : Nat) (l : List UInt8) (s : ByteArray) (w : World) (h : Prn true B b l w) (hlen : l.length + s.size ≤ 140737488355328) :
    Calls Tryd.prog 116 #[.pointer (some ⟨b, 0, none⟩), .string s] w (PrnTo true B b (l ++ s.data.toList) w) := by
  have c2 := h.people
  have cW := Lib.hid (ws_any true B b l s w h hlen)
  clear h hlen
  go_enter Tryd.func116, Tryd.ntmps116
  go_wp2_with fail
  refine cW.out.mono ?_
  rintro e w' ⟨rfl, hp, hb, _⟩
  have HP := Lib.hid hp
  clear hp
  go_wp2_with fail
  go_end0
  exact ⟨rfl, HP.out, hb⟩

/-- The bytes of s lie in block X, which nobody else writes. -/
structure BytesAt (w : World) (X : Nat) (s : ByteArray) : Prop where
  blk : ∃ cs fr, w.heap[X]? = some (.cells cs 5 fr) ∧ fr ≠ (0, 0)
  at_ : ∀ j (h : j < s.data.toList.length), w.cell? ⟨X, j, none⟩ = some (.int .u8 (s.data.toList[j].toNat : Int))
theorem BytesAt.oth {w w' : World} {X b : Nat} {s : ByteArray} (h : BytesAt w X s) (ho : Oth b w w') (hX : X ≠ b) : BytesAt w' X s := by
  obtain ⟨⟨cs, fr, hb, hf⟩, ha⟩ := h
  have e : w'.heap[X]? = w.heap[X]? := by
    rw [hb]
    exact ho X _ hb hX (fun c e => hf (by cases e; rfl))
  exact ⟨⟨cs, fr, e.trans hb, hf⟩, fun j hj => by rw [World.cell?_of_block (a := ⟨X, j, none⟩) e]; exact ha j hj⟩
theorem bytes_new (w : World) (s : ByteArray) : BytesAt (Lib.bytesWorld w 5 s) w.heap.size s :=
  ⟨⟨_, _, Lib.bytesWorld_at_new w 5 s, by simp⟩, fun j hj => bytes_at w s j hj⟩
end Go.Proofs.YthighbbikpnpgaaDoor

/-! ShF -/
namespace Go.Proofs.YthighbbikpnpgaaDoor
open Go.RowKit Go.Proofs.YthighbbikpnpgaaDoor.PSh Go.Proofs.YthighbbikpnpgaaDoorW.PrintWords

theorem esc_take {E : List UInt8} {k : Nat} (h : k < E.length) : (E.take (k + 1)).flatMap escL = (E.take k).flatMap escL ++ escL E[k] := by
  rw [List.take_succ_eq_append_getElem h, List.flatMap_append]
  simp

theorem u8nb {c : UInt8} {n : Nat} (h : ¬ c = UInt8.ofNat n) : ((c.toNat : Int) == (n : Int)) = false := by
  rw [beq_eq_false_iff_ne]
  intro e
  apply h
  have : c.toNat = n := by omega
  rw [← this]; simp

set_option maxRecDepth 100000 in
set_option maxHeartbeats 4000000 in
theorem str_write (B b : Nat) (l : List UInt8) (s : ByteArray) (w : World) (h : Prn false B b l w) (hs : s.data.toList.length ≤ 1000) (hlen : l.length ≤ 100000000000000) :
    Calls Tryd.prog 116 #[.pointer (some ⟨b, 0, none⟩), .string s] w (PrnTo false B b (l ++ strL s.data.toList) w) := by
  have c2 := h.people
  have cW := Lib.hid (wb_any false B b l 34 w h (by omega) (by decide) (by decide))
  have hcv := fun (w : World) (s : ByteArray) => Lib.run_convert_string_bytes w 9 76 5 s Tryd.underlying9 Tryd.underlying76 Tryd.underlying5
  have HBb := Lib.hid h.le
  clear h
  go_enter Tryd.func116, Tryd.ntmps116
  go_wp2_with fail
  refine cW.out.mono ?_
  rintro e w1 ⟨rfl, hp1, hb1, _⟩
  have HP1 := Lib.hid hp1
  clear hp1 cW c2
  go_wp2_with fail
  clear hcv
  have hby := Lib.hid (bytes_new w1 s)
  have hbl : Below w1.heap.size w1 (Lib.bytesWorld w1 5 s) := below_bytes 5 s
  have HP2 := Lib.hid (HP1.out.below hbl)
  have hB2 : Below B w (Lib.bytesWorld w1 5 s) := hb1.trans (hbl.mono (by have := HP1.out.le; omega))
  have HBL := Lib.hid hB2
  have hXb := Lib.hid (show w1.heap.size ≠ b by have := HP1.out.le; omega)
  generalize w1.heap.size = X at hby hXb ⊢
  generalize Lib.bytesWorld w1 5 s = w2 at hby HP2 HBL ⊢
  clear hbl hB2
  have e2 : s.size = s.data.toList.length := by simp
  generalize hE : s.data.toList = E at e2 hs
  have HE := Lib.hid hE
  clear hE
  have hEl : E.length ≤ s.size ∧ s.size ≤ E.length := by omega
  clear e2
  go_loopw [22] (fun i wr => ∃ k : Nat, k ≤ E.length ∧ i = .int .i64 k ∧ Hid (Prn false B b (l ++ 34 :: (E.take k).flatMap escL) wr) ∧ Hid (BytesAt wr X s) ∧ Hid (Below B w wr)) (fun i _ => E.length - (intOf i).toNat)
  case atStart => exact ⟨0, by omega, rfl, HP2, hby, HBL⟩
  case round =>
    obtain ⟨k, hk, rfl, HP, HY, HB⟩ := hrel
    obtain ⟨hE1, hE2⟩ := hEl
    have hlk : (l ++ 34 :: (E.take k).flatMap escL).length ≤ 100000000010000 := by
      have := esc_len (E.take k)
      have h2 : (E.take k).length ≤ E.length := List.length_take_le' _ _
      rw [List.length_append, List.length_cons]
      omega
    by_cases hlt : k < E.length
    · have hck : wr.cell? ⟨X, k, none⟩ = some (.int .u8 ((E[k]'hlt).toNat : Int)) := by
        have h1 := HY.out.at_ k (by rw [HE.out]; omega)
        have h2 : s.data.toList[k]'(by rw [HE.out]; omega) = E[k]'hlt := by congr 1
        rw [h1, h2]
      have HT := Lib.hid (esc_take hlt)
      have HLT := Lib.hid hlt
      have hx256 : (E[k]'hlt).toNat < 256 := (E[k]'hlt).toNat_lt
      generalize E[k] = c at hck HT hx256
      by_cases h1 : c = 10
      · subst h1
        have HC := Lib.hid (ws_any false B b _ ⟨#[92, 110]⟩ wr HP.out (by show _ + 2 ≤ _; omega))
        clear hlk
        go_wp2_with fail
        refine HC.out.mono ?_
        rintro e w3 ⟨rfl, hp3, hb3, ho3⟩
        have HP3 := Lib.hid (show Prn false B b (l ++ 34 :: (E.take (k + 1)).flatMap escL) w3 by rw [HT.out]; simpa [escL] using hp3)
        have HY3 := Lib.hid (HY.out.oth ho3 hXb.out)
        have HB3 := Lib.hid (HB.out.trans hb3)
        clear hp3 ho3 hb3 hck
        go_wp2_with fail
        go_roundw
        case rel => exact ⟨k + 1, HLT.out, by go_num, HP3, HY3, HB3⟩
        case measure => have := HLT.out; simp [intOf]; omega
      · have b1 := u8nb (n := 10) h1
        by_cases h2 : c = 9
        · subst h2
          have HC := Lib.hid (ws_any false B b _ ⟨#[92, 116]⟩ wr HP.out (by show _ + 2 ≤ _; omega))
          clear hlk b1
          go_wp2_with fail
          refine HC.out.mono ?_
          rintro e w3 ⟨rfl, hp3, hb3, ho3⟩
          have HP3 := Lib.hid (show Prn false B b (l ++ 34 :: (E.take (k + 1)).flatMap escL) w3 by rw [HT.out]; simpa [escL] using hp3)
          have HY3 := Lib.hid (HY.out.oth ho3 hXb.out)
          have HB3 := Lib.hid (HB.out.trans hb3)
          clear hp3 ho3 hb3 hck
          go_wp2_with fail
          go_roundw
          case rel => exact ⟨k + 1, HLT.out, by go_num, HP3, HY3, HB3⟩
          case measure => have := HLT.out; simp [intOf]; omega
        · have b2 := u8nb (n := 9) h2
          by_cases h34 : c = 34 ∨ c = 92
          · have HC := Lib.hid (wb_any false B b _ 92 wr HP.out (by omega) (by decide) (by decide))
            have hesc := Lib.hid (show escL c = [92, c] by rw [escL, if_neg h1, if_neg h2, if_pos h34])
            have HC2 := Lib.hid (fun (w3 : World) (hp : Prn false B b (l ++ 34 :: (E.take k).flatMap escL ++ [UInt8.ofNat (92 : Int).toNat]) w3) => wb_any false B b _ (c.toNat : Int) w3 hp (by rw [List.length_append]; simp only [List.length_cons, List.length_nil]; omega) (by omega) (by omega))
            have hcc : ((c.toNat : Int) == 34) = true ∨ (((c.toNat : Int) == 34) = false ∧ ((c.toNat : Int) == 92) = true) := by
              rcases h34 with rfl | rfl
              · exact .inl rfl
              · exact .inr ⟨rfl, rfl⟩
            clear hlk h34 h1 h2
            rcases hcc with t1 | ⟨t1, t2⟩
            all_goals
              go_wp2_with fail
              refine HC.out.mono ?_
              rintro e w3 ⟨rfl, hp3, hb3, ho3⟩
              have HC3 := Lib.hid (HC2.out w3 hp3)
              have HY3 := Lib.hid (HY.out.oth ho3 hXb.out)
              have HB3 := Lib.hid (HB.out.trans hb3)
              clear hp3 ho3 hb3 hck
              go_wp2_with fail
              refine HC3.out.mono ?_
              rintro e w4 ⟨rfl, hp4, hb4, ho4⟩
              have HP4 := Lib.hid (show Prn false B b (l ++ 34 :: (E.take (k + 1)).flatMap escL) w4 by rw [HT.out, hesc.out]; simpa using hp4)
              have HY4 := Lib.hid (HY3.out.oth ho4 hXb.out)
              have HB4 := Lib.hid (HB3.out.trans hb4)
              clear hp4 ho4 hb4
              go_wp2_with fail
              go_roundw
              case rel => exact ⟨k + 1, HLT.out, by go_num, HP4, HY4, HB4⟩
              case measure => have := HLT.out; simp [intOf]; omega
          · have b3 := u8nb (n := 34) (fun e => h34 (.inl e))
            have b4 := u8nb (n := 92) (fun e => h34 (.inr e))
            have hesc := Lib.hid (show escL c = [c] by rw [escL, if_neg h1, if_neg h2, if_neg h34])
            have HC := Lib.hid (wb_any false B b _ (c.toNat : Int) wr HP.out (by omega) (by omega) (by omega))
            clear hlk h34 h1 h2
            go_wp2_with fail
            refine HC.out.mono ?_
            rintro e w3 ⟨rfl, hp3, hb3, ho3⟩
            have HP3 := Lib.hid (show Prn false B b (l ++ 34 :: (E.take (k + 1)).flatMap escL) w3 by rw [HT.out, hesc.out]; simpa using hp3)
            have HY3 := Lib.hid (HY.out.oth ho3 hXb.out)
            have HB3 := Lib.hid (HB.out.trans hb3)
            clear hp3 ho3 hb3 hck
            go_wp2_with fail
            go_roundw
            case rel => exact ⟨k + 1, HLT.out, by go_num, HP3, HY3, HB3⟩
            case measure => have := HLT.out; simp [intOf]; omega
    · obtain rfl : k = E.length := by omega
      have HC := Lib.hid (wb_any false B b _ 34 wr HP.out (by omega) (by decide) (by decide))
      clear hlk
      go_wp2_with fail
      refine HC.out.mono ?_
      rintro e w3 ⟨rfl, hp3, hb3, ho3⟩
      have HP3 := Lib.hid (show Prn false B b (l ++ strL E) w3 by simpa [strL] using hp3)
      have HB3 := Lib.hid (HB.out.trans hb3)
      clear hp3 ho3 hb3
      go_wp2_with fail
      go_end0
      exact ⟨rfl, by rw [HE.out]; exact HP3.out, HB3.out⟩
end Go.Proofs.YthighbbikpnpgaaDoor

/-! ShG -/
namespace Go.Proofs.YthighbbikpnpgaaDoor
open Go.RowKit Go.Proofs.YthighbbikpnpgaaDoor.PSh Go.Proofs.YthighbbikpnpgaaDoorW.PrintWords

theorem wb_wrap (p : Bool) (B b : Nat) (l : List UInt8) (n : Int) (w : World) (h : Prn p B b l w) (hlen : l.length + 1 ≤ 140737488355328) (h0 : 0 ≤ n) (h1 : n ≤ 255) :
    Calls Tryd.prog 109 #[.pointer (some ⟨b, 0, none⟩), .int .u8 (IntKind.u8.wrap n)] w fun e w' => e = .returned .nilIface ∧ Prn p B b (l ++ [UInt8.ofNat n.toNat]) w' ∧ Below B w w' ∧ Oth b w w' := by
  rw [IntWalk.u8_in n ⟨h0, h1⟩]
  exact wb_any p B b l n w h hlen h0 (by omega)
theorem low {B : Nat} {w w1 w2 : World} (h : Below w.heap.size w w1) (hB : B ≤ w.heap.size) (k : Below B w1 w2) : Below B w w2 := (h.mono hB).trans k
theorem lowd {B : Nat} {w w2 : World} (k : Below B w.drew w2) : Below B w w2 := (Below.drew (Below.refl B w)).trans k

set_option maxRecDepth 100000 in
set_option maxHeartbeats 2000000 in
theorem dat_1 (p : Bool) (B b : Nat) (l : List UInt8) (n : Int) (t : ByteArray) (L : List Dat) (q : Addr) (A : Option Addr) (c : Nat) (w : World) (hD : DatAt w q ⟨1, n, t, L⟩ A c) (h : Prn p B b l w) (h0 : -9223372036854775808 ≤ n) (h1 : n ≤ 9223372036854775807) (hlen : l.length ≤ 100000000000000) (htab : Tab w) (hqB : q.block < B) :
    Calls Tryd.prog 98 #[.pointer (some ⟨b, 0, none⟩), .pointer (some q)] w (PrnTo p B b (l ++ Lib.itoa n) w) := by
  have c0 : w.cell? q = some (.int .i64 1) := hD.c0
  have c1 : w.cell? ⟨q.block, q.off + 1, none⟩ = some (.int .i64 n) := hD.c1
  have hl1 := World.block_lt_of_cell? w _ c1
  have cT := Lib.hid (fun (w' : World) (hb : Below w.heap.size w w') => text_any n w' h0 h1 (tab_below htab hb))
  have cW := Lib.hid (fun (w' : World) (hb : Below w.heap.size w w') => ws_any p B b l ⟨(Lib.itoa n).toArray⟩ w' (h.below hb) (by have := Lib.itoa_length_le n h0 h1; show _ + (Lib.itoa n).toArray.size ≤ _; simp; omega))
  have HB := Lib.hid h.le
  clear hD h htab h0 h1
  go_enter Tryd.func98, Tryd.ntmps98
  go_wp2_with fail
  go_region_held3 (fun w' => w'.cell? ⟨q.block, q.off + 1, none⟩ = some (.int .i64 n))
    (first | assumption | exact (hb2.cell (p := ⟨q.block, q.off + 1, none⟩) hqB).trans (by assumption) | go_keep | exact (hbT.cell (p := ⟨q.block, q.off + 1, none⟩) hl1).trans c1 | exact (hbT.cell (p := ⟨q.block, q.off + 1, none⟩) (by simpa using hl1)).trans c1)
    (first
      | (go_at_call 63; refine (cT.out _ (by first | exact Below.refl _ _ | exact Below.drew (Below.refl _ _))).mono ?_; rintro e w1 ⟨rfl, hbT⟩)
      | (go_at_call 115; refine (cW.out _ (by first | exact hbT | exact below_trans (Below.drew (Below.refl _ _)) hbT)).mono ?_; rintro e w2 ⟨rfl, hp2, hb2, _⟩))
  all_goals go_wp2
  all_goals go_end0
  all_goals exact ⟨rfl, hp2, low (below_trans (Below.drew (Below.refl _ _)) hbT) (by have := HB.out; omega) hb2⟩

set_option maxRecDepth 100000 in
set_option maxHeartbeats 2000000 in
theorem dat_20 (p : Bool) (B b : Nat) (l : List UInt8) (t : ByteArray) (L : List Dat) (q : Addr) (A : Option Addr) (c : Nat) (w : World) (hD : DatAt w q ⟨2, 0, t, L⟩ A c) (h : Prn p B b l w) (hlen : l.length ≤ 100000000000000) (hqB : q.block < B) :
    Calls Tryd.prog 98 #[.pointer (some ⟨b, 0, none⟩), .pointer (some q)] w (PrnTo p B b (l ++ [35, 102]) w) := by
  have c0 : w.cell? q = some (.int .i64 2) := hD.c0
  have c1 : w.cell? ⟨q.block, q.off + 1, none⟩ = some (.int .i64 0) := hD.c1
  have cW := Lib.hid (wb_any p B b l 35 w h (by omega) (by decide) (by decide))
  have cW2 := Lib.hid (fun (w' : World) (h' : Prn p B b (l ++ [UInt8.ofNat (35 : Int).toNat]) w') => wb_any p B b _ 102 w' h' (by simp; omega) (by decide) (by decide))
  clear hD h
  go_enter Tryd.func98, Tryd.ntmps98
  go_wp2_with fail
  refine cW.out.mono ?_
  rintro e w1 ⟨rfl, hp1, hb1, _⟩
  have HP1 := Lib.hid hp1
  have d1 := (hb1.cell (p := ⟨q.block, q.off + 1, none⟩) hqB).trans c1
  clear c0 c1 hp1
  go_wp2_with fail
  go_region_held3 (fun w' => w'.cell? ⟨q.block, q.off + 1, none⟩ = some (.int .i64 0))
    (first | assumption | exact (hb2.cell (p := ⟨q.block, q.off + 1, none⟩) hqB).trans (by assumption) | go_keep)
    ((go_at_call 109; refine (cW2.out _ (by first | exact HP1.out | exact HP1.out.below (Below.drew (Below.refl _ _)))).mono ?_; rintro e w2 ⟨rfl, hp2, hb2, _⟩))
  all_goals go_wp2
  all_goals go_end0
  all_goals exact ⟨rfl, by simpa using hp2, hb1.trans (lowd hb2)⟩

set_option maxRecDepth 100000 in
set_option maxHeartbeats 2000000 in
theorem dat_21 (p : Bool) (B b : Nat) (l : List UInt8) (t : ByteArray) (L : List Dat) (q : Addr) (A : Option Addr) (c : Nat) (w : World) (hD : DatAt w q ⟨2, 1, t, L⟩ A c) (h : Prn p B b l w) (hlen : l.length ≤ 100000000000000) (hqB : q.block < B) :
    Calls Tryd.prog 98 #[.pointer (some ⟨b, 0, none⟩), .pointer (some q)] w (PrnTo p B b (l ++ [35, 116]) w) := by
  have c0 : w.cell? q = some (.int .i64 2) := hD.c0
  have c1 : w.cell? ⟨q.block, q.off + 1, none⟩ = some (.int .i64 1) := hD.c1
  have cW := Lib.hid (wb_any p B b l 35 w h (by omega) (by decide) (by decide))
  have cW2 := Lib.hid (fun (w' : World) (h' : Prn p B b (l ++ [UInt8.ofNat (35 : Int).toNat]) w') => wb_any p B b _ 116 w' h' (by simp; omega) (by decide) (by decide))
  clear hD h
  go_enter Tryd.func98, Tryd.ntmps98
  go_wp2_with fail
  refine cW.out.mono ?_
  rintro e w1 ⟨rfl, hp1, hb1, _⟩
  have HP1 := Lib.hid hp1
  have d1 := (hb1.cell (p := ⟨q.block, q.off + 1, none⟩) hqB).trans c1
  clear c0 c1 hp1
  go_wp2_with fail
  go_region_held3 (fun w' => w'.cell? ⟨q.block, q.off + 1, none⟩ = some (.int .i64 1))
    (first | assumption | exact (hb2.cell (p := ⟨q.block, q.off + 1, none⟩) hqB).trans (by assumption) | go_keep)
    ((go_at_call 109; refine (cW2.out _ (by first | exact HP1.out | exact HP1.out.below (Below.drew (Below.refl _ _)))).mono ?_; rintro e w2 ⟨rfl, hp2, hb2, _⟩))
  all_goals go_wp2
  all_goals go_end0
  all_goals exact ⟨rfl, by simpa using hp2, hb1.trans (lowd hb2)⟩

set_option maxRecDepth 100000 in
set_option maxHeartbeats 2000000 in
theorem dat_3p (p : Bool) (B b : Nat) (l : List UInt8) (n : Int) (t : ByteArray) (L : List Dat) (q : Addr) (A : Option Addr) (c : Nat) (w : World) (hD : DatAt w q ⟨3, n, t, L⟩ A c) (h : Prn p B b l w) (hlen : l.length ≤ 100000000000000) (hqB : q.block < B) (hp : p = true) (h0 : 0 ≤ n) (h1 : n ≤ 255) :
    Calls Tryd.prog 98 #[.pointer (some ⟨b, 0, none⟩), .pointer (some q)] w (PrnTo p B b (l ++ [UInt8.ofNat n.toNat]) w) := by
  have c0 : w.cell? q = some (.int .i64 3) := hD.c0
  have c1 : w.cell? ⟨q.block, q.off + 1, none⟩ = some (.int .i64 n) := hD.c1
  have c2 : w.cell? ⟨q.block, q.off + 2, none⟩ = some (.string t) := hD.c2
  have HB := Lib.hid h.le
  have c3 := h.people
  have cW := Lib.hid (fun (w' : World) (h' : Prn p B b l w') => wb_wrap p B b l n w' h' (by omega) h0 h1)
  have HP := Lib.hid h
  subst hp
  clear hD h c2
  go_enter Tryd.func98, Tryd.ntmps98
  go_wp2_with fail
  go_region_held3 (fun w' => w'.cell? ⟨q.block, q.off + 1, none⟩ = some (.int .i64 n))
    (first | assumption | exact (hb2.cell (p := ⟨q.block, q.off + 1, none⟩) hqB).trans (by assumption) | go_keep)
    ((go_at_call 109; refine (cW.out _ (by first | exact HP.out | exact HP.out.below (Below.drew (Below.refl _ _)))).mono ?_; rintro e w2 ⟨rfl, hp2, hb2, _⟩))
  all_goals go_wp2
  all_goals go_end0
  all_goals exact ⟨rfl, hp2, lowd hb2⟩

set_option maxRecDepth 100000 in
set_option maxHeartbeats 2000000 in
theorem dat_3 (p : Bool) (B b : Nat) (l : List UInt8) (n : Int) (t : ByteArray) (L : List Dat) (q : Addr) (A : Option Addr) (c : Nat) (w : World) (hD : DatAt w q ⟨3, n, t, L⟩ A c) (h : Prn p B b l w) (hlen : l.length ≤ 100000000000000) (hqB : q.block < B) (hp : p = false) :
    Calls Tryd.prog 98 #[.pointer (some ⟨b, 0, none⟩), .pointer (some q)] w (PrnTo p B b (l ++ charL n) w) := by
  have c0 : w.cell? q = some (.int .i64 3) := hD.c0
  have c1 : w.cell? ⟨q.block, q.off + 1, none⟩ = some (.int .i64 n) := hD.c1
  have c2 : w.cell? ⟨q.block, q.off + 2, none⟩ = some (.string t) := hD.c2
  have HB := Lib.hid h.le
  have c3 := h.people
  have hl1 := World.block_lt_of_cell? w _ c1
  have cT := Lib.hid (fun (w' : World) => show_Char.calls n _ w' (showchar_f n))
  have cW := Lib.hid (fun (w' : World) (hb : Below w.heap.size w w') => ws_any p B b l ⟨(charL n).toArray⟩ w' (h.below hb) (by have := charL_len n; show _ + (charL n).toArray.size ≤ _; simp; omega))
  subst hp
  clear hD h c2
  go_enter Tryd.func98, Tryd.ntmps98
  go_wp2_with fail
  go_region_held3 (fun w' => w'.cell? ⟨q.block, q.off + 1, none⟩ = some (.int .i64 n))
    (first | assumption | exact (hb2.cell (p := ⟨q.block, q.off + 1, none⟩) hqB).trans (by assumption) | exact (hbT.cell (p := ⟨q.block, q.off + 1, none⟩) hl1).trans c1 | go_keep)
    (first
      | (go_at_call 48; refine (cT.out _).mono ?_; rintro e w1 ⟨rfl, hbT⟩)
      | (go_at_call 115; refine (cW.out _ (by first | exact hbT | exact below_trans (Below.drew (Below.refl _ _)) hbT)).mono ?_; rintro e w2 ⟨rfl, hp2, hb2, _⟩))
  all_goals go_wp2
  all_goals go_end0
  all_goals exact ⟨rfl, hp2, low (below_trans (Below.drew (Below.refl _ _)) hbT) (by have := HB.out; omega) hb2⟩

set_option maxRecDepth 100000 in
set_option maxHeartbeats 2000000 in
theorem dat_4 (p : Bool) (B b : Nat) (l : List UInt8) (n : Int) (t : ByteArray) (L : List Dat) (q : Addr) (A : Option Addr) (c : Nat) (w : World) (hD : DatAt w q ⟨4, n, t, L⟩ A c) (h : Prn p B b l w) (hlen : l.length ≤ 100000000000000) (ht : t.size ≤ 500) :
    Calls Tryd.prog 98 #[.pointer (some ⟨b, 0, none⟩), .pointer (some q)] w (PrnTo p B b (l ++ (if p = true then t.data.toList else strL t.data.toList)) w) := by
  have c0 : w.cell? q = some (.int .i64 4) := hD.c0
  have c1 : w.cell? ⟨q.block, q.off + 1, none⟩ = some (.int .i64 n) := hD.c1
  have c2 : w.cell? ⟨q.block, q.off + 2, none⟩ = some (.string t) := hD.c2
  have HB := Lib.hid h.le
  have hs : t.data.toList.length ≤ 500 := by simpa using ht
  have cS : Hid (Calls Tryd.prog 116 #[.pointer (some ⟨b, 0, none⟩), .string t] w (PrnTo p B b (l ++ (if p = true then t.data.toList else strL t.data.toList)) w)) := by
    cases p
    · exact str_write B b l t w h (by omega) hlen
    · exact str_people B b l t w h (by omega)
  generalize (if p = true then t.data.toList else strL t.data.toList) = R at cS ⊢
  clear hD h c1 hs ht
  go_enter Tryd.func98, Tryd.ntmps98
  go_wp2_with fail
  refine cS.out.mono ?_
  rintro e w2 ⟨rfl, hp2, hb2⟩
  have HP2 := Lib.hid hp2
  clear hp2 cS
  go_wp2_with fail
  go_end0
  exact ⟨rfl, HP2.out, hb2⟩

set_option maxRecDepth 100000 in
set_option maxHeartbeats 2000000 in
theorem dat_5 (p : Bool) (B b : Nat) (l : List UInt8) (n : Int) (t : ByteArray) (L : List Dat) (q : Addr) (A : Option Addr) (c : Nat) (w : World) (hD : DatAt w q ⟨5, n, t, L⟩ A c) (h : Prn p B b l w) (hlen : l.length ≤ 100000000000000) (hqB : q.block < B) (ht : t.size ≤ 500) :
    Calls Tryd.prog 98 #[.pointer (some ⟨b, 0, none⟩), .pointer (some q)] w (PrnTo p B b (l ++ t.data.toList) w) := by
  have c0 : w.cell? q = some (.int .i64 5) := hD.c0
  have c1 : w.cell? ⟨q.block, q.off + 1, none⟩ = some (.int .i64 n) := hD.c1
  have c2 : w.cell? ⟨q.block, q.off + 2, none⟩ = some (.string t) := hD.c2
  have HB := Lib.hid h.le
  have cW := Lib.hid (fun (w' : World) (h' : Prn p B b l w') => ws_any p B b l t w' h' (by omega))
  have HP := Lib.hid h
  clear hD h c1 ht
  go_enter Tryd.func98, Tryd.ntmps98
  go_wp2_with fail
  go_region_held3 (fun w' => w'.cell? ⟨q.block, q.off + 2, none⟩ = some (.string t))
    (first | assumption | exact (hb2.cell (p := ⟨q.block, q.off + 2, none⟩) hqB).trans (by assumption) | go_keep)
    ((go_at_call 115; refine (cW.out _ (by first | exact HP.out | exact HP.out.below (Below.drew (Below.refl _ _)))).mono ?_; rintro e w2 ⟨rfl, hp2, hb2, _⟩))
  all_goals go_wp2
  all_goals go_end0
  all_goals exact ⟨rfl, hp2, lowd hb2⟩
end Go.Proofs.YthighbbikpnpgaaDoor

/-! ShC -/
namespace Go.Proofs.YthighbbikpnpgaaDoor
open Go.RowKit Go.Proofs.YthighbbikpnpgaaDoor.PSh Go.Proofs.YthighbbikpnpgaaDoorW.PrintWords

def StrTo (l : List UInt8) (w : World) (e : Ending) (w' : World) : Prop := e = .returned (.string ⟨l.toArray⟩) ∧ Below w.heap.size w w'
theorem ret_str {a b : ByteArray} (h : a = b) : Ending.returned (.string a) = .returned (.string b) := by rw [h]
theorem ba_of {s : ByteArray} {l : List UInt8} (h : s.data.toList = l) : s = ⟨l.toArray⟩ := by
  apply ByteArray.ext
  rw [← h]

theorem box_cells (w : World) (a b c d : Value) (t : TypeId) (w' : World) (hb : Below (w.alloc (.cells #[a, b, c, d] t)).heap.size (w.alloc (.cells #[a, b, c, d] t)) w') :
    w'.cell? ⟨w.heap.size, 0, none⟩ = some a ∧ w'.cell? ⟨w.heap.size, 1, none⟩ = some b ∧ w'.cell? ⟨w.heap.size, 2, none⟩ = some c ∧ w'.cell? ⟨w.heap.size, 3, none⟩ = some d := by
  have hm : w'.heap[w.heap.size]? = some (.cells #[a, b, c, d] t (0, 0)) := heap_below (heap_alloc_new w _) hb (by simp)
  exact (cells_at4 hm).1

set_option maxRecDepth 100000 in
set_option maxHeartbeats 2000000 in
theorem reft_1 (n : Int) (h0 : -9223372036854775808 ≤ n) (h1 : n ≤ 9223372036854775807) (t : ByteArray) (v : Value) (p : Bool) (w : World) :
    Calls Tryd.prog 47 #[.agg #[.int .i64 1, .int .i64 n, .string t, v], .bool p] w (StrTo (Lib.itoa n) w) := by
  have hb1 : Below w.heap.size w (w.alloc (.cells #[.int .i64 1, .int .i64 n, .string t, v] 84)) := (Below.refl _ _).alloc (Nat.le_refl _) _
  have cT := Lib.hid (fun w => reftext_any n w h0 h1)
  clear h0 h1
  go_enter Tryd.func47, Tryd.ntmps47
  go_wp2_with fail
  refine (cT.out _).mono ?_
  rintro e w2 ⟨rfl, hb2⟩
  go_wp2_with fail
  go_ret
  exact ⟨rfl, below_trans hb1 hb2⟩

set_option maxRecDepth 100000 in
set_option maxHeartbeats 2000000 in
theorem reft_2 (n : Int) (t : ByteArray) (v : Value) (p : Bool) (w : World) :
    Calls Tryd.prog 47 #[.agg #[.int .i64 2, .int .i64 n, .string t, v], .bool p] w (StrTo (if n = 1 then [35, 116] else [35, 102]) w) := by
  have hb1 : Below w.heap.size w (w.alloc (.cells #[.int .i64 2, .int .i64 n, .string t, v] 84)) := (Below.refl _ _).alloc (Nat.le_refl _) _
  by_cases h : n = 1
  · rw [if_pos h]
    subst h
    go_enter Tryd.func47, Tryd.ntmps47
    go_wp2_with fail
    go_ret
    exact ⟨rfl, hb1⟩
  · rw [if_neg h]
    have h' : (n == 1) = false := by simpa using h
    clear h
    go_enter Tryd.func47, Tryd.ntmps47
    go_wp2_with fail
    go_ret
    exact ⟨rfl, hb1⟩

set_option maxRecDepth 100000 in
set_option maxHeartbeats 2000000 in
theorem reft_3 (n : Int) (h0 : 0 ≤ n) (h1 : n ≤ 255) (t : ByteArray) (v : Value) (p : Bool) (w : World) :
    Calls Tryd.prog 47 #[.agg #[.int .i64 3, .int .i64 n, .string t, v], .bool p] w (StrTo (if p = true then [UInt8.ofNat n.toNat] else charL n) w) := by
  have hb1 : Below w.heap.size w (w.alloc (.cells #[.int .i64 3, .int .i64 n, .string t, v] 84)) := (Below.refl _ _).alloc (Nat.le_refl _) _
  have cC := Lib.hid (fun w => spindleref09_Char.calls 1 n _ w (refchar_f n 1 (Nat.le_refl _)))
  have hone := one_string (w.alloc (.cells #[.int .i64 3, .int .i64 n, .string t, v] 84)) n h0 (by omega)
  simp only [World.size_alloc] at hone
  cases p
  · rw [if_neg (by decide)]
    clear hone
    go_enter Tryd.func47, Tryd.ntmps47
    go_wp2_with fail
    refine (cC.out _).mono ?_
    rintro e w2 ⟨rfl, hb2⟩
    go_wp2_with fail
    go_ret
    exact ⟨rfl, below_trans hb1 hb2⟩
  · rw [if_pos rfl]
    go_enter Tryd.func47, Tryd.ntmps47
    go_wp2_with fail
    go_ret
    exact ⟨rfl, hb1.alloc (by simp) _⟩

set_option maxRecDepth 100000 in
set_option maxHeartbeats 2000000 in
theorem reft_4 (n : Int) (t : ByteArray) (ht : t.size ≤ 500) (v : Value) (p : Bool) (w : World) :
    Calls Tryd.prog 47 #[.agg #[.int .i64 4, .int .i64 n, .string t, v], .bool p] w (StrTo (if p = true then t.data.toList else strL t.data.toList) w) := by
  have hb1 : Below w.heap.size w (w.alloc (.cells #[.int .i64 4, .int .i64 n, .string t, v] 84)) := (Below.refl _ _).alloc (Nat.le_refl _) _
  have hl : t.data.toList.length ≤ 500 := by simpa using ht
  have cC := Lib.hid (fun w => spindleref09_str.calls 501 t _ w (refstr_f t (by omega) 501 (by omega)))
  clear hl ht
  cases p
  · rw [if_neg (by decide)]
    go_enter Tryd.func47, Tryd.ntmps47
    go_wp2_with fail
    refine (cC.out _).mono ?_
    rintro e w2 ⟨rfl, hb2⟩
    go_wp2_with fail
    go_ret
    exact ⟨rfl, below_trans hb1 hb2⟩
  · rw [if_pos rfl]
    go_enter Tryd.func47, Tryd.ntmps47
    go_wp2_with fail
    go_ret
    exact ⟨ret_str (ba_of rfl), hb1⟩

set_option maxRecDepth 100000 in
set_option maxHeartbeats 2000000 in
theorem reft_5 (n : Int) (t : ByteArray) (v : Value) (p : Bool) (w : World) :
    Calls Tryd.prog 47 #[.agg #[.int .i64 5, .int .i64 n, .string t, v], .bool p] w (StrTo t.data.toList w) := by
  have hb1 : Below w.heap.size w (w.alloc (.cells #[.int .i64 5, .int .i64 n, .string t, v] 84)) := (Below.refl _ _).alloc (Nat.le_refl _) _
  go_enter Tryd.func47, Tryd.ntmps47
  go_wp2_with fail
  go_ret
  exact ⟨ret_str (ba_of rfl), hb1⟩
end Go.Proofs.YthighbbikpnpgaaDoor
