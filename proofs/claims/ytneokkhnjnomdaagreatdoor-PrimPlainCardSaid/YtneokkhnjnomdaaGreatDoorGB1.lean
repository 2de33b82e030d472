/-
  Words on memory that all walks of this seat use: what is owned, and the shape of the world, are kept where nothing below is written.
  What layer 2 computes, in plain words: no program in sight.
  errors.Is, at kinds of api's and at nil.
  Walks of fix's sums, products and divisions.
  Walks: sums and differences, of fix and of the reference.
  Walks: products and divisions of fix.
  Walks: the divisions of fix.
  Walks: the reference's product and divisions.
  Walks: the reference's Mul and Modulo; says.
  What a text is as a number: in plain words; and by fix's loop.
  Walks of fix.Parse.
  Walks of the reference's Parse.
  Walks: a number's text, by fix and by the reference.
  Walk: a number's text by the reference.
  Plain: a number's text is read as the number; two numbers' texts differ; no blank stands in one.
  Layer 7's names: when a text may be a symbol's name, in plain words; and by lex and by the reference.
  Walks: lex.Symbol and the reference's Symbol.
  lex.Symbol whole; the reference's digits and Symbol.
  The reference's Symbol.
  The reference's Symbol, in the printer's form: by its contract (LxD).
-/
import Derived.Test.YtneokkhnjnomdaaGreatDoorProg
import Derived.WalkKit
import Derived.KernelRfl
import Derived.Lib.Hide
import Derived.ChangeAgain
import Derived.Deep.Draws
import Derived.LaidEql
import Derived.Stop.Asserts
import Derived.RowKitTokens
import Derived.Lib.Strings
import Derived.Lib.ConvBytes
import Derived.Deep.DeepCutAuto
import Derived.Deep.CutBlock
import Derived.Test.YtneokkhnjnomdaaGreatDoorShelf
import Derived.Lib.AppendIntMem
import Derived.Lib.ItoaLen
import Derived.Laws.IdiomStrings
import Derived.Lib.Bytealg
import Derived.Lib.IndexLaws
import Derived.Below
import Derived.Deep.AppendLies
import Derived.Maps.AppendAt
import Derived.OwnWalk
import Derived.Laws.BytesArg
import Derived.Laws.MakeOwn
import Derived.Laws.OwnMore
import Derived.Deep.OwnRows
import Derived.Tactics
import Derived.Laws.Slices
import Derived.RowKit3
import Derived.Deep.LoopGhost
import Derived.Deep.QuietTactic
import Derived.BigQuiet
import Derived.WideLaws
import Derived.Deep.RegionHeld3
import Derived.Laws.Rows
import Derived.Lib.AppendStr
import Derived.ArgAppend
import Derived.Laws.IdiomCopy
import Derived.OrdersHeld
import Derived.Laws.BitsLemmas
import Derived.RowKit
import Derived.Test.YtneokkhnjnomdaaGreatDoorWWords
import Derived.Test.YtneokkhnjnomdaaGreatDoorWLast
import Derived.Test.YtneokkhnjnomdaaGreatDoorWTab
import Derived.Test.YtneokkhnjnomdaaGreatDoorWFour
import Derived.Test.YtneokkhnjnomdaaGreatDoorWQPut
import Derived.Test.YtneokkhnjnomdaaGreatDoorWApart
import Derived.Test.YtneokkhnjnomdaaGreatDoorWArr
import Derived.Test.YtneokkhnjnomdaaGreatDoorWZeros
import Derived.Test.YtneokkhnjnomdaaGreatDoorWFoot
import Derived.Test.YtneokkhnjnomdaaGreatDoorWKept
import Derived.Test.YtneokkhnjnomdaaGreatDoorWShare
import Derived.Test.YtneokkhnjnomdaaGreatDoorWN
import Derived.Test.YtneokkhnjnomdaaGreatDoorWFootNe
import Derived.Test.YtneokkhnjnomdaaGreatDoorWAt
import Derived.Test.YtneokkhnjnomdaaGreatDoorWEqStruct
import Derived.Test.YtneokkhnjnomdaaGreatDoorWRepsOne
import Derived.Test.YtneokkhnjnomdaaGreatDoorWInv
import Derived.Test.YtneokkhnjnomdaaGreatDoorWInvWords
import Derived.Test.YtneokkhnjnomdaaGreatDoorWGuard
import Derived.Test.YtneokkhnjnomdaaGreatDoorWNEv
import Derived.Test.YtneokkhnjnomdaaGreatDoorWMore

/-! W -/
namespace Go.Proofs.YtneokkhnjnomdaaGreatDoor
open Go.RowKit

theorem below_trans {w w1 w2 : World} (h : Below w.heap.size w w1) (k : Below w1.heap.size w1 w2) : Below w.heap.size w w2 :=
  h.trans (k.mono h.size)

theorem below_drewN {w w1 : World} (h : Below w.heap.size w w1) (n : Nat) : Below w.heap.size w (w1.drewN n) :=
  h.trans ⟨rfl, rfl, rfl, Nat.le_refl _, fun _ _ => rfl⟩

theorem add_zero_off (b j : Nat) : (⟨b, 0, none⟩ : Addr).add j = ⟨b, j, none⟩ := by
  unfold Addr.add; split <;> simp_all

/-- The cells of the newest block. -/
theorem news_new (w : World) (cs : List Value) (t : TypeId) (b : Nat) (hb : b = w.heap.size) : ∀ j u, cs[j]? = some u → (w.alloc (.cells cs.toArray t)).cell? ((⟨b, 0, none⟩ : Addr).add j) = some u := by
  subst hb
  intro j u h
  rw [add_zero_off, cell_of_row (w.alloc (.cells cs.toArray t)) w.heap.size j cs.toArray t (0, 0) (heap_alloc_new w _)]
  simpa using h

/-- A block of four cells, known whole: each of its cells, and that none is frozen. -/
theorem cells_at4 {w : World} {b : Nat} {a0 a1 a2 a3 : Value} {t : TypeId} (h : w.heap[b]? = some (.cells #[a0, a1, a2, a3] t (0, 0))) :
    (w.cell? ⟨b, 0, none⟩ = some a0 ∧ w.cell? ⟨b, 1, none⟩ = some a1 ∧ w.cell? ⟨b, 2, none⟩ = some a2 ∧ w.cell? ⟨b, 3, none⟩ = some a3) ∧
    (w.frozen? ⟨b, 0, none⟩ = false ∧ w.frozen? ⟨b, 1, none⟩ = false ∧ w.frozen? ⟨b, 2, none⟩ = false ∧ w.frozen? ⟨b, 3, none⟩ = false) := by
  refine ⟨⟨?_, ?_, ?_, ?_⟩, ?_, ?_, ?_, ?_⟩
  all_goals first | (rw [cell_of_row w b _ _ t (0, 0) h]; rfl) | simp [World.frozen?, h]

theorem heap_below {w w' : World} {B b : Nat} {o : Obj} (h : w.heap[b]? = some o) (hb : Below B w w') (hB : b < B) : w'.heap[b]? = some o := (hb.block b hB).trans h
theorem heap_lt {w : World} {b : Nat} {o : Obj} (h : w.heap[b]? = some o) : b < w.heap.size := (Array.getElem?_eq_some_iff.1 h).1
end Go.Proofs.YtneokkhnjnomdaaGreatDoor

/-! FL -/
namespace Go.Proofs.YtneokkhnjnomdaaGreatDoor
open Go.RowKit

/-- May it be a number? -/
def Num (n : Int) : Bool := decide (-1152921504606846976 ≤ n) && decide (n ≤ 1152921504606846975)
theorem num_iff {n : Int} : Num n = true ↔ -1152921504606846976 ≤ n ∧ n ≤ 1152921504606846975 := by simp [Num]

/-- A number and a kind of error, 0 if there is none. -/
def fitL (n : Int) : Int × Int := if Num n = true then (n, 0) else (0, 11)
def addL (a b : Int) : Int × Int := if (Num a && Num b) = true then fitL (a + b) else (0, 2)
def subL (a b : Int) : Int × Int := if (Num a && Num b) = true then fitL (a - b) else (0, 2)
def mulL (a b : Int) : Int × Int := if (Num a && Num b) = true then fitL (a * b) else (0, 2)
/-- What stands in the divisions' place where nothing is refused. -/
def divWith (f : Int × Int) (a b : Int) : Int × Int := if (Num a && Num b) = true then (if (b == 0) = true then (0, 12) else f) else (0, 2)
def modOf (a b : Int) : Int := if a.tmod b ≠ 0 ∧ ((a.tmod b < 0) ≠ (b < 0)) then a.tmod b + b else a.tmod b
def quoL (a b : Int) : Int × Int := divWith (fitL (a.tdiv b)) a b
def remL (a b : Int) : Int × Int := divWith (a.tmod b, 0) a b
def modL (a b : Int) : Int × Int := divWith (modOf a b, 0) a b

theorem tmod_bound {a b : Int} (ha : Num a = true) (hb : Num b = true) (h0 : b ≠ 0) : Num (a.tmod b) = true ∧ Num (modOf a b) = true := by
  rw [num_iff] at *
  have h1 : (a.tmod b).natAbs < b.natAbs := by
    rw [Int.natAbs_tmod]
    exact Nat.mod_lt _ (by omega)
  have h2 : (a.tmod b).natAbs ≤ a.natAbs := by
    rw [Int.natAbs_tmod]
    exact Nat.mod_le _ _
  generalize hr : a.tmod b = r at h1 h2
  have hb' : b = (b.natAbs : Int) ∨ b = -(b.natAbs : Int) := Int.natAbs_eq b
  have ha' : a = (a.natAbs : Int) ∨ a = -(a.natAbs : Int) := Int.natAbs_eq a
  refine ⟨by omega, ?_⟩
  unfold modOf
  rw [hr, num_iff]
  split
  · rename_i h
    obtain ⟨h3, h4⟩ := h
    by_cases hr0 : r < 0
    · by_cases hb0 : b < 0
      · exact absurd (propext ⟨fun _ => hb0, fun _ => hr0⟩) h4
      · omega
    · by_cases hb0 : b < 0
      · omega
      · exact absurd (propext ⟨fun h => absurd h hr0, fun h => absurd h hb0⟩) h4
  · omega

theorem tdiv_bound {a b : Int} (ha : Num a = true) : -1152921504606846976 ≤ a.tdiv b ∧ a.tdiv b ≤ 1152921504606846976 := by
  rw [num_iff] at ha
  have h2 : (a.tdiv b).natAbs ≤ a.natAbs := by
    rw [Int.natAbs_tdiv]
    exact Nat.div_le_self _ _
  omega

/-- The product's own check. -/
theorem mul_check {a b : Int} (ha : Num a = true) (h0 : a ≠ 0) : (Num (a * b) = true → wrap64 (a * b) = a * b ∧ (a * b).tdiv a = b) ∧ (Num (a * b) = false → (wrap64 (a * b)).tdiv a ≠ b ∨ Num (wrap64 (a * b)) = false) := by
  refine ⟨fun h => ?_, fun h => ?_⟩
  · rw [num_iff] at h
    refine ⟨?_, Int.mul_tdiv_cancel_left _ h0⟩
    generalize a * b = p at h
    unfold wrap64
    omega
  · by_cases h1 : (wrap64 (a * b)).tdiv a = b
    · right
      have h2 := Int.tmod_add_mul_tdiv (wrap64 (a * b)) a
      rw [h1] at h2
      have h3 : ((wrap64 (a * b)).tmod a).natAbs < a.natAbs := by
        rw [Int.natAbs_tmod]
        exact Nat.mod_lt _ (by omega)
      rw [num_iff] at ha
      have h4 : wrap64 (a * b) = a * b := by
        generalize (wrap64 (a * b)).tmod a = r at h2 h3
        generalize a * b = p at h2
        unfold wrap64 at h2 ⊢
        omega
      rw [h4]
      exact h
    · exact .inl h1


end Go.Proofs.YtneokkhnjnomdaaGreatDoor

/-! Is -/
namespace Go
section
variable {P : Program} (w : World)
theorem run_equalIn_kinds (d : Nat) {ti tn : TypeId} {ms : Array (String × TypeId)} {i : TypeInfo} {k : IntKind} (a b : Int)
    (hi : P.underlying ti = some (.interface ms)) (hn : P.underlying tn = some (.int k)) (hinfo : P.info? tn = some i) (hcomp : i.comparable = true) :
    (Op.equalIn (d + 2) ti (.iface tn (.int k a)) (.iface tn (.int k b))).run P w = .ok (a == b) w := by
  simp [Op.equalIn, run_underlying hi, run_underlying hn, typeInfo, hinfo, hcomp]

/-- Two interface values of one integer type are equal as the numbers are. -/
theorem run_eql_kinds {ti tn : TypeId} {ms : Array (String × TypeId)} {i : TypeInfo} {k : IntKind} (a b : Int)
    (hi : P.underlying ti = some (.interface ms)) (hn : P.underlying tn = some (.int k)) (hinfo : P.info? tn = some i) (hcomp : i.comparable = true) :
    (binOp .eql ti (.iface tn (.int k a)) (.iface tn (.int k b))).run P w = .ok (.bool (a == b)) w := by
  simp only [binOp]
  simp [Op.equal, Op.maxDepth, run_equalIn_kinds w 9998 a b hi hn hinfo hcomp]
end
end Go
namespace Go.Proofs.YtneokkhnjnomdaaGreatDoor
open Go.RowKit Go.Stop Go.Extern

/-- A kind as an error. -/
abbrev kindV (k : Int) : Value := .iface 45 (.int .i64 k)

theorem is_typeOf (v : Value) (w : World) : (Extern.ReflectliteType.typeOf #[.iface 45 v]).run Tryz.prog w = .ok (.iface 99 (.agg #[.pointer (some ⟨8, 45, none⟩)])) w := by kernel_rfl
theorem is_comparable (w : World) : (callFunc 134 #[.agg #[.pointer (some ⟨8, 45, none⟩)]]).run Tryz.prog w = .ok (Next.value (.bool true)) w := by
  have h32 := @run_callFunc_extern Tryz.prog 134 _ (Extern.ReflectliteType.method fun t => do Extern.Rtype.noPackHeld "Comparable" t; pure (.bool (← typeInfo t).comparable)) Tryz.func134 (by kernel_rfl) (by kernel_rfl) (by kernel_rfl) (by kernel_rfl)
  have hc : ((Extern.ReflectliteType.method fun t => do Extern.Rtype.noPackHeld "Comparable" t; pure (.bool (← typeInfo t).comparable)) #[.agg #[.pointer (some ⟨8, 45, none⟩)]]).run Tryz.prog w = .ok (.bool true) w := by kernel_rfl
  rw [h32, hc]
  rfl
theorem is_method (v : Value) (w : World) : (Go.method 287 99 v "Comparable").run Tryz.prog w = .ok (134, v) w := by kernel_rfl
theorem is_comp : (Tryz.prog.info? 45).map (·.comparable) = some true := by kernel_rfl

theorem no_is (v : Value) (xT : TypeId) (w : World) : (Instr.typeAssert (.iface 45 v) xT 101 true).run Tryz.prog w = .ok (.tuple #[.nilIface, .bool false]) w := run_typeAssert_lacksB Tryz.underlying101 (by kernel_rfl) (by kernel_rfl) v xT w
theorem no_unwrap (v : Value) (xT : TypeId) (w : World) : (Instr.typeAssert (.iface 45 v) xT 104 true).run Tryz.prog w = .ok (.tuple #[.nilIface, .bool false]) w := run_typeAssert_lacksB Tryz.underlying104 (by kernel_rfl) (by kernel_rfl) v xT w
theorem no_unwraps (v : Value) (xT : TypeId) (w : World) : (Instr.typeAssert (.iface 45 v) xT 106 true).run Tryz.prog w = .ok (.tuple #[.nilIface, .bool false]) w := run_typeAssert_lacksB Tryz.underlying106 (by kernel_rfl) (by kernel_rfl) v xT w

/-- errors.Is(a, b), both kinds. -/
theorem is_kind (a b : Int) (w : World) :
    Calls Tryz.prog 18 #[kindV a, kindV b] w fun e w' => e = .returned (.bool (a == b)) ∧ w' = w := by
  obtain ⟨i, hi, hcmp⟩ := Option.map_eq_some_iff.1 is_comp
  have h8 := @run_callFunc_extern Tryz.prog 47 _ Extern.ReflectliteType.typeOf Tryz.func47 (by kernel_rfl) (by kernel_rfl) (by kernel_rfl) (by kernel_rfl)
  have tT := is_typeOf
  have cT := is_comparable
  have mR := is_method
  have nE := no_is
  have uE := no_unwrap
  have vE := no_unwraps
  have heq := run_eql_kinds (P := Tryz.prog) w a b Tryz.underlying30 Tryz.underlying45 hi hcmp
  cases hab : (a == b)
  all_goals
    rw [hab] at heq
    go_enter Tryz.func18, Tryz.ntmps18
    go_wp2
    refine wp_loop_rounds 1 ?_
    rw [rounds_succ]
    go_wp2
    go_ret
    exact ⟨rfl, rfl⟩

end Go.Proofs.YtneokkhnjnomdaaGreatDoor

/-! FA -/
namespace Go.Proofs.YtneokkhnjnomdaaGreatDoor
open Go.RowKit

/-- An error: nil, or a kind. -/
def errV (k : Int) : Value := if (k == 0) = true then .nilIface else kindV k
/-- A number and an error, as fix hands them back. -/
def resV (r : Int × Int) : Value := .tuple #[.int .i64 r.1, errV r.2]

theorem whole_any (n : Int) (w : World) : Calls Tryz.prog 81 #[.int .i64 n] w fun e w' => e = .returned (.bool (Num n)) ∧ w' = w := by
  by_cases h1 : n ≤ 1152921504606846975
  · by_cases h2 : -1152921504606846976 ≤ n
    all_goals
      have H : Hid (Num n = _) := (by simp only [Hid, Num, h1, h2]; rfl)
      go_enter Tryz.func81, Tryz.ntmps81
      go_wp2
      go_ret
      exact ⟨by rw [H.out]; simp, rfl⟩
  · have H : Hid (Num n = _) := (by simp only [Hid, Num, h1]; rfl)
    go_enter Tryz.func81, Tryz.ntmps81
    go_wp2
    go_ret
    exact ⟨by rw [H.out]; simp, rfl⟩

theorem fit_any (n : Int) (w : World) : Calls Tryz.prog 80 #[.int .i64 n] w fun e w' => e = .returned (resV (fitL n)) ∧ w' = w := by
  have H : Hid (fitL n = if Num n = true then (n, 0) else (0, 11)) := rfl
  generalize hN : Num n = b at H
  have HN := Lib.hid hN
  clear hN
  go_enter Tryz.func80, Tryz.ntmps80
  go_wp2_with fail
  refine (whole_any _ _).mono ?_
  rintro e w' ⟨rfl, rfl⟩
  rw [HN.out]
  cases b
  all_goals
    go_wp2_with fail
    go_ret2
    exact ⟨by rw [H.out]; rfl, rfl⟩

theorem both_any (a b : Int) (w : World) : Calls Tryz.prog 79 #[.int .i64 a, .int .i64 b] w fun e w' => e = .returned (if (Num a && Num b) = true then .nilIface else kindV 2) ∧ w' = w := by
  obtain ⟨v, hv⟩ : ∃ v, v = (if (Num a && Num b) = true then Value.nilIface else kindV 2) := ⟨_, rfl⟩
  rw [← hv]
  generalize hA : Num a = x at hv
  generalize hB : Num b = y at hv
  have HA := Lib.hid hA
  have HB := Lib.hid hB
  have HV := Lib.hid hv
  clear hA hB hv
  go_enter Tryz.func79, Tryz.ntmps79
  go_wp2_with fail
  refine (whole_any _ _).mono ?_
  rintro e w' ⟨rfl, rfl⟩
  rw [HA.out]
  cases x
  · go_wp2_with fail
    go_ret
    exact ⟨by rw [HV.out]; rfl, rfl⟩
  · go_wp2_with fail
    refine (whole_any _ _).mono ?_
    rintro e w' ⟨rfl, rfl⟩
    rw [HB.out]
    cases y
    all_goals
      go_wp2_with fail
      go_ret
      exact ⟨by rw [HV.out]; rfl, rfl⟩
end Go.Proofs.YtneokkhnjnomdaaGreatDoor

/-! FB -/
namespace Go.Proofs.YtneokkhnjnomdaaGreatDoor
open Go.RowKit

/-- A number and a kind's number, as the reference hands them back. -/
def refV (r : Int × Int) : Value := .tuple #[.int .i64 r.1, .int .i64 r.2]

theorem refnum_any (n : Int) (w : World) : Calls Tryz.prog 72 #[.int .i64 n] w fun e w' => e = .returned (.bool (Num n)) ∧ w' = w := by
  by_cases h1 : n ≤ 1152921504606846975
  · have h3 : n < 1152921504606846976 := by omega
    by_cases h2 : -1152921504606846976 ≤ n
    all_goals
      have H : Hid (Num n = _) := (by simp only [Hid, Num, h1, h2]; rfl)
      go_enter Tryz.func72, Tryz.ntmps72
      go_wp2
      go_ret
      exact ⟨by rw [H.out]; simp, rfl⟩
  · have h3 : ¬ n < 1152921504606846976 := by omega
    have h2 : -1152921504606846976 ≤ n := by omega
    have H : Hid (Num n = _) := (by simp only [Hid, Num, h1, h2]; rfl)
    go_enter Tryz.func72, Tryz.ntmps72
    go_wp2
    go_ret
    exact ⟨by rw [H.out]; simp, rfl⟩

theorem add_any (a b : Int) (w : World) : Calls Tryz.prog 57 #[.int .i64 a, .int .i64 b] w fun e w' => e = .returned (resV (addL a b)) ∧ w' = w := by
  have HC := Lib.hid (both_any a b)
  have H : Hid (addL a b = if (Num a && Num b) = true then fitL (a + b) else (0, 2)) := rfl
  generalize hp : (Num a && Num b) = p at HC H
  cases p
  · clear hp
    go_enter Tryz.func57, Tryz.ntmps57
    go_wp2_with fail
    refine (HC.out _).mono ?_
    rintro e w' ⟨rfl, rfl⟩
    go_wp2_with fail
    go_ret2
    exact ⟨by rw [H.out]; rfl, rfl⟩
  · rw [Bool.and_eq_true, num_iff, num_iff] at hp
    obtain ⟨⟨a1, a2⟩, b1, b2⟩ := hp
    go_enter Tryz.func57, Tryz.ntmps57
    go_wp2_with fail
    refine (HC.out _).mono ?_
    rintro e w' ⟨rfl, rfl⟩
    go_wp2_with fail
    refine (fit_any _ _).mono ?_
    rintro e w' ⟨rfl, rfl⟩
    have H2 : Hid (addL a b = fitL (a + b)) := H.out
    generalize fitL (a + b) = r at H2
    obtain ⟨n, k⟩ := r
    rw [resV]
    go_wp2_with fail
    go_ret2
    exact ⟨by rw [H2.out]; rfl, rfl⟩

theorem refadd_any (a b : Int) (w : World) : Calls Tryz.prog 38 #[.int .i64 a, .int .i64 b] w fun e w' => e = .returned (refV (addL a b)) ∧ w' = w := by
  have HC := Lib.hid refnum_any
  have H : Hid (addL a b = if (Num a && Num b) = true then (if Num (a + b) = true then (a + b, 0) else (0, 11)) else (0, 2)) := rfl
  cases ha : Num a
  · have HA := Lib.hid ha
    rw [ha] at H
    clear ha
    go_enter Tryz.func38, Tryz.ntmps38
    go_wp2_with fail
    refine (HC.out _ _).mono ?_
    rintro e w' ⟨rfl, rfl⟩
    rw [HA.out]
    go_wp2_with fail
    go_ret2
    exact ⟨by rw [H.out]; rfl, rfl⟩
  · have HA := Lib.hid ha
    cases hb : Num b
    · have HB := Lib.hid hb
      rw [ha, hb] at H
      clear ha hb
      go_enter Tryz.func38, Tryz.ntmps38
      go_wp2_with fail
      refine (HC.out _ _).mono ?_
      rintro e w' ⟨rfl, rfl⟩
      rw [HA.out]
      go_wp2_with fail
      refine (HC.out _ _).mono ?_
      rintro e w' ⟨rfl, rfl⟩
      rw [HB.out]
      go_wp2_with fail
      go_ret2
      exact ⟨by rw [H.out]; rfl, rfl⟩
    · have HB := Lib.hid hb
      rw [ha, hb] at H
      generalize hs : Num (a + b) = s at H
      have HS := Lib.hid hs
      clear hs
      rw [num_iff] at ha hb
      obtain ⟨a1, a2⟩ := ha
      obtain ⟨b1, b2⟩ := hb
      go_enter Tryz.func38, Tryz.ntmps38
      go_wp2_with fail
      refine (HC.out _ _).mono ?_
      rintro e w' ⟨rfl, rfl⟩
      rw [HA.out]
      go_wp2_with fail
      refine (HC.out _ _).mono ?_
      rintro e w' ⟨rfl, rfl⟩
      rw [HB.out]
      go_wp2_with fail
      refine (HC.out _ _).mono ?_
      rintro e w' ⟨rfl, rfl⟩
      rw [HS.out]
      cases s
      all_goals
        go_wp2_with fail
        go_ret2
        exact ⟨by rw [H.out]; rfl, rfl⟩

theorem sub_any (a b : Int) (w : World) : Calls Tryz.prog 58 #[.int .i64 a, .int .i64 b] w fun e w' => e = .returned (resV (subL a b)) ∧ w' = w := by
  have HC := Lib.hid (both_any a b)
  have H : Hid (subL a b = if (Num a && Num b) = true then fitL (a - b) else (0, 2)) := rfl
  generalize hp : (Num a && Num b) = p at HC H
  cases p
  · clear hp
    go_enter Tryz.func58, Tryz.ntmps58
    go_wp2_with fail
    refine (HC.out _).mono ?_
    rintro e w' ⟨rfl, rfl⟩
    go_wp2_with fail
    go_ret2
    exact ⟨by rw [H.out]; rfl, rfl⟩
  · rw [Bool.and_eq_true, num_iff, num_iff] at hp
    obtain ⟨⟨a1, a2⟩, b1, b2⟩ := hp
    go_enter Tryz.func58, Tryz.ntmps58
    go_wp2_with fail
    refine (HC.out _).mono ?_
    rintro e w' ⟨rfl, rfl⟩
    go_wp2_with fail
    refine (fit_any _ _).mono ?_
    rintro e w' ⟨rfl, rfl⟩
    have H2 : Hid (subL a b = fitL (a - b)) := H.out
    generalize fitL (a - b) = r at H2
    obtain ⟨n, k⟩ := r
    rw [resV]
    go_wp2_with fail
    go_ret2
    exact ⟨by rw [H2.out]; rfl, rfl⟩

theorem refsub_any (a b : Int) (w : World) : Calls Tryz.prog 39 #[.int .i64 a, .int .i64 b] w fun e w' => e = .returned (refV (subL a b)) ∧ w' = w := by
  have HC := Lib.hid refnum_any
  have H : Hid (subL a b = if (Num a && Num b) = true then (if Num (a - b) = true then (a - b, 0) else (0, 11)) else (0, 2)) := rfl
  cases ha : Num a
  · have HA := Lib.hid ha
    rw [ha] at H
    clear ha
    go_enter Tryz.func39, Tryz.ntmps39
    go_wp2_with fail
    refine (HC.out _ _).mono ?_
    rintro e w' ⟨rfl, rfl⟩
    rw [HA.out]
    go_wp2_with fail
    go_ret2
    exact ⟨by rw [H.out]; rfl, rfl⟩
  · have HA := Lib.hid ha
    cases hb : Num b
    · have HB := Lib.hid hb
      rw [ha, hb] at H
      clear ha hb
      go_enter Tryz.func39, Tryz.ntmps39
      go_wp2_with fail
      refine (HC.out _ _).mono ?_
      rintro e w' ⟨rfl, rfl⟩
      rw [HA.out]
      go_wp2_with fail
      refine (HC.out _ _).mono ?_
      rintro e w' ⟨rfl, rfl⟩
      rw [HB.out]
      go_wp2_with fail
      go_ret2
      exact ⟨by rw [H.out]; rfl, rfl⟩
    · have HB := Lib.hid hb
      rw [ha, hb] at H
      generalize hs : Num (a - b) = s at H
      have HS := Lib.hid hs
      clear hs
      rw [num_iff] at ha hb
      obtain ⟨a1, a2⟩ := ha
      obtain ⟨b1, b2⟩ := hb
      go_enter Tryz.func39, Tryz.ntmps39
      go_wp2_with fail
      refine (HC.out _ _).mono ?_
      rintro e w' ⟨rfl, rfl⟩
      rw [HA.out]
      go_wp2_with fail
      refine (HC.out _ _).mono ?_
      rintro e w' ⟨rfl, rfl⟩
      rw [HB.out]
      go_wp2_with fail
      refine (HC.out _ _).mono ?_
      rintro e w' ⟨rfl, rfl⟩
      rw [HS.out]
      cases s
      all_goals
        go_wp2_with fail
        go_ret2
        exact ⟨by rw [H.out]; rfl, rfl⟩
end Go.Proofs.YtneokkhnjnomdaaGreatDoor

/-! FC -/
namespace Go.Proofs.YtneokkhnjnomdaaGreatDoor
open Go.RowKit

theorem wrap64_in (x : Int) : -9223372036854775808 ≤ wrap64 x ∧ wrap64 x ≤ 9223372036854775807 := by unfold wrap64; omega

theorem mul_check' {a b : Int} (ha : Num a = true) (hb : Num b = true) (h0 : a ≠ 0) : (Num (a * b) = true → wrap64 (a * b) = a * b ∧ wrap64 ((wrap64 (a * b)).tdiv a) = b) ∧ (Num (a * b) = false → wrap64 ((wrap64 (a * b)).tdiv a) ≠ b ∨ Num (wrap64 (a * b)) = false) := by
  obtain ⟨hy, hn⟩ := mul_check (b := b) ha h0
  obtain ⟨n1, n2⟩ := wrap64_in (a * b)
  rw [num_iff] at hb
  refine ⟨fun h => ?_, fun h => ?_⟩
  · obtain ⟨e1, e2⟩ := hy h
    rw [e1, e2]
    refine ⟨rfl, ?_⟩
    unfold wrap64
    omega
  · rcases hn h with h1 | h1
    · left
      have hd : ((wrap64 (a * b)).tdiv a).natAbs ≤ (wrap64 (a * b)).natAbs := by
        rw [Int.natAbs_tdiv]
        exact Nat.div_le_self _ _
      generalize (wrap64 (a * b)).tdiv a = d at *
      generalize wrap64 (a * b) = n at *
      unfold wrap64
      omega
    · exact .inr h1

theorem mul_any (a b : Int) (w : World) : Calls Tryz.prog 59 #[.int .i64 a, .int .i64 b] w fun e w' => e = .returned (resV (mulL a b)) ∧ w' = w := by
  have HC := Lib.hid (both_any a b)
  have H : Hid (mulL a b = if (Num a && Num b) = true then fitL (a * b) else (0, 2)) := rfl
  generalize hp : (Num a && Num b) = p at HC H
  cases p
  · clear hp
    go_enter Tryz.func59, Tryz.ntmps59
    go_wp2_with fail
    refine (HC.out _).mono ?_
    rintro e w' ⟨rfl, rfl⟩
    go_wp2_with fail
    go_ret2
    exact ⟨by rw [H.out]; rfl, rfl⟩
  · rw [Bool.and_eq_true] at hp
    obtain ⟨hA, hB⟩ := hp
    by_cases h0 : a = 0
    · subst h0
      have e : (0 : Int) * b = 0 := Int.zero_mul b
      go_enter Tryz.func59, Tryz.ntmps59
      go_wp2_with fail
      refine (HC.out _).mono ?_
      rintro e w' ⟨rfl, rfl⟩
      have HM := Lib.hid (show mulL 0 b = (0, 0) by rw [H.out, e]; rfl)
      go_wp2_with fail
      go_ret2
      exact ⟨by rw [HM.out]; rfl, rfl⟩
    · obtain ⟨hy, hn⟩ := mul_check' hA hB h0
      generalize hp : Num (a * b) = q at hy hn
      have H2 : Hid (mulL a b = if q = true then (a * b, 0) else (0, 11)) := by rw [Hid, H.out, if_pos rfl, fitL, hp]
      rw [num_iff] at hA hB
      obtain ⟨a1, a2⟩ := hA
      obtain ⟨b1, b2⟩ := hB
      obtain ⟨n, hm⟩ : ∃ n, wrap64 (a * b) = n := ⟨_, rfl⟩
      rw [hm] at hy hn
      obtain ⟨d, hd⟩ : ∃ d, wrap64 (n.tdiv a) = d := ⟨_, rfl⟩
      rw [hd] at hy hn
      have e0 : (a == 0) = false := by simpa using h0
      cases q
      · have hn' := Lib.hid (hn rfl)
        clear hp hy hn
        by_cases hdb : d = b
        · have hN : Num n = false := by
            rcases hn'.out with h | h
            · exact absurd hdb h
            · exact h
          have HN := Lib.hid hN
          clear hN
          subst hdb
          go_enter Tryz.func59, Tryz.ntmps59
          go_wp2_with fail
          refine (HC.out _).mono ?_
          rintro e w' ⟨rfl, rfl⟩
          go_wp2_with fail
          refine (whole_any _ _).mono ?_
          rintro e w' ⟨rfl, rfl⟩
          rw [HN.out]
          go_wp2_with fail
          go_ret2
          exact ⟨by rw [H2.out]; rfl, rfl⟩
        · have edb : (d == b) = false := by simpa using hdb
          have ndb : (d != b) = true := by simpa using hdb
          have na0 : (a != 0) = true := by simpa using h0
          have HDB := Lib.hid hdb
          clear hdb hn'
          go_enter Tryz.func59, Tryz.ntmps59
          go_wp2_with fail
          refine (HC.out _).mono ?_
          rintro e w' ⟨rfl, rfl⟩
          go_wp2_with fail
          go_ret2
          exact ⟨by rw [H2.out]; rfl, rfl⟩
      · obtain ⟨e1, e2⟩ := hy rfl
        subst e2
        have HN := Lib.hid hp
        have HE := Lib.hid e1
        clear hp hy hn e1
        go_enter Tryz.func59, Tryz.ntmps59
        go_wp2_with fail
        refine (HC.out _).mono ?_
        rintro e w' ⟨rfl, rfl⟩
        go_wp2_with fail
        refine (whole_any _ _).mono ?_
        rintro e w' ⟨rfl, rfl⟩
        rw [HE.out, HN.out]
        go_wp2_with fail
        go_ret2
        exact ⟨by rw [H2.out]; rfl, rfl⟩
end Go.Proofs.YtneokkhnjnomdaaGreatDoor

/-! FD -/
namespace Go.Proofs.YtneokkhnjnomdaaGreatDoor
open Go.RowKit

/-- What divide comes to: 0: the quotient, 1: the remainder, 2: the modulo. -/
def divL (how a b : Int) : Int × Int := if (how == 2) = true then modL a b else if (how == 1) = true then remL a b else quoL a b

theorem divide_any (how a b : Int) (w : World) (hh : how = 0 ∨ how = 1 ∨ how = 2) : Calls Tryz.prog 82 #[.int .i64 how, .int .i64 a, .int .i64 b] w fun e w' => e = .returned (resV (divL how a b)) ∧ w' = w := by
  have HC := Lib.hid (both_any a b)
  have H : Hid (divL how a b = if (Num a && Num b) = true then (if (b == 0) = true then (0, 12) else (if (how == 2) = true then (modOf a b, 0) else if (how == 1) = true then (a.tmod b, 0) else fitL (a.tdiv b))) else (0, 2)) := by
    simp only [Hid, divL, modL, remL, quoL, divWith]
    rcases hh with rfl | rfl | rfl <;> simp
  generalize hp : (Num a && Num b) = p at HC H
  cases p
  · clear hp
    go_enter Tryz.func82, Tryz.ntmps82
    go_wp2_with fail
    refine (HC.out _).mono ?_
    rintro e w' ⟨rfl, rfl⟩
    go_wp2_with fail
    go_ret2
    exact ⟨by rw [H.out]; rfl, rfl⟩
  · rw [Bool.and_eq_true] at hp
    obtain ⟨hA, hB⟩ := hp
    by_cases h0 : b = 0
    · subst h0
      clear hA hB
      go_enter Tryz.func82, Tryz.ntmps82
      go_wp2_with fail
      refine (HC.out _).mono ?_
      rintro e w' ⟨rfl, rfl⟩
      go_wp2_with fail
      go_ret2
      exact ⟨by rw [H.out]; rfl, rfl⟩
    · have e0 : (b == 0) = false := by simpa using h0
      have HM := Lib.hid (show modOf a b = if a.tmod b ≠ 0 ∧ ((a.tmod b < 0) ≠ (b < 0)) then a.tmod b + b else a.tmod b from rfl)
      obtain ⟨t1, t2⟩ := tmod_bound hA hB h0
      obtain ⟨q1, q2⟩ := tdiv_bound (b := b) hA
      rw [num_iff] at t1 t2 hA hB
      obtain ⟨r1, r2⟩ := t1
      obtain ⟨m1, m2⟩ := t2
      obtain ⟨a1, a2⟩ := hA
      obtain ⟨b1, b2⟩ := hB
      obtain ⟨r, hr⟩ : ∃ r, a.tmod b = r := ⟨_, rfl⟩
      obtain ⟨d, hd⟩ : ∃ d, a.tdiv b = d := ⟨_, rfl⟩
      rw [hr] at r1 r2 HM H
      rw [hd] at q1 q2 H
      rcases hh with rfl | rfl | rfl
      · have H2 : Hid (divL 0 a b = fitL d) := by rw [Hid, H.out, if_pos rfl, e0]; rfl
        go_enter Tryz.func82, Tryz.ntmps82
        go_wp2_with fail
        refine (HC.out _).mono ?_
        rintro e w' ⟨rfl, rfl⟩
        go_wp2_with fail
        refine (fit_any _ _).mono ?_
        rintro e w' ⟨rfl, rfl⟩
        generalize fitL d = x at H2
        obtain ⟨n, k⟩ := x
        rw [resV]
        go_wp2_with fail
        go_ret2
        exact ⟨by rw [H2.out]; rfl, rfl⟩
      · have H2 : Hid (divL 1 a b = (r, 0)) := by rw [Hid, H.out, if_pos rfl, e0]; rfl
        go_enter Tryz.func82, Tryz.ntmps82
        go_wp2_with fail
        refine (HC.out _).mono ?_
        rintro e w' ⟨rfl, rfl⟩
        go_wp2_with fail
        go_ret2
        exact ⟨by rw [H2.out]; rfl, rfl⟩
      · have H2 : Hid (divL 2 a b = (modOf a b, 0)) := by rw [Hid, H.out, if_pos rfl, e0]; rfl
        by_cases hr0 : r = 0
        · have H3 := Lib.hid (show modOf a b = r by rw [HM.out, if_neg (by simp [hr0])])
          subst hr0
          clear r1 r2 m1 m2
          go_enter Tryz.func82, Tryz.ntmps82
          go_wp2_with fail
          refine (HC.out _).mono ?_
          rintro e w' ⟨rfl, rfl⟩
          go_wp2_with fail
          go_ret2
          exact ⟨by rw [H2.out, H3.out]; rfl, rfl⟩
        · by_cases hrn : r < 0 <;> by_cases hbn : b < 0
          · have H3 := Lib.hid (show modOf a b = r by rw [HM.out, if_neg (by simp [hrn, hbn])])
            have er := eq_true hrn
            have eb := eq_true hbn
            have dr : decide (r < 0) = true := by simpa using hrn
            have db : decide (b < 0) = true := by simpa using hbn
            clear hrn hbn m1 m2
            go_enter Tryz.func82, Tryz.ntmps82
            go_wp2_with fail
            refine (HC.out _).mono ?_
            rintro e w' ⟨rfl, rfl⟩
            go_wp2_with fail
            go_ret2
            exact ⟨by rw [H2.out, H3.out]; rfl, rfl⟩
          · have H3 := Lib.hid (show modOf a b = r + b by rw [HM.out, if_pos (by simp [hr0, hrn, hbn])])
            have dr : decide (r < 0) = true := by simpa using hrn
            have db : decide (b < 0) = false := by simpa using hbn
            clear m1 m2
            go_enter Tryz.func82, Tryz.ntmps82
            go_wp2_with fail
            refine (HC.out _).mono ?_
            rintro e w' ⟨rfl, rfl⟩
            go_wp2_with fail
            go_ret2
            exact ⟨by rw [H2.out, H3.out]; rfl, rfl⟩
          · have H3 := Lib.hid (show modOf a b = r + b by rw [HM.out, if_pos (by simp [hr0, hrn, hbn])])
            have dr : decide (r < 0) = false := by simpa using hrn
            have db : decide (b < 0) = true := by simpa using hbn
            clear m1 m2
            go_enter Tryz.func82, Tryz.ntmps82
            go_wp2_with fail
            refine (HC.out _).mono ?_
            rintro e w' ⟨rfl, rfl⟩
            go_wp2_with fail
            go_ret2
            exact ⟨by rw [H2.out, H3.out]; rfl, rfl⟩
          · have H3 := Lib.hid (show modOf a b = r by rw [HM.out, if_neg (by simp [hrn, hbn])])
            have dr : decide (r < 0) = false := by simpa using hrn
            have db : decide (b < 0) = false := by simpa using hbn
            clear m1 m2
            go_enter Tryz.func82, Tryz.ntmps82
            go_wp2_with fail
            refine (HC.out _).mono ?_
            rintro e w' ⟨rfl, rfl⟩
            go_wp2_with fail
            go_ret2
            exact ⟨by rw [H2.out, H3.out]; rfl, rfl⟩

theorem quotient_any (a b : Int) (w : World) : Calls Tryz.prog 60 #[.int .i64 a, .int .i64 b] w fun e w' => e = .returned (resV (quoL a b)) ∧ w' = w := by
  have H := Lib.hid (show divL 0 a b = quoL a b from rfl)
  go_enter Tryz.func60, Tryz.ntmps60
  go_wp2_with fail
  refine (divide_any _ _ _ _ (by decide)).mono ?_
  rintro e w' ⟨rfl, rfl⟩
  rw [H.out]
  generalize hx : quoL a b = x
  have HX := Lib.hid hx
  clear hx H
  obtain ⟨n, k⟩ := x
  rw [resV]
  go_wp2_with fail
  go_ret2
  exact ⟨by rw [HX.out]; rfl, rfl⟩

theorem remainder_any (a b : Int) (w : World) : Calls Tryz.prog 61 #[.int .i64 a, .int .i64 b] w fun e w' => e = .returned (resV (remL a b)) ∧ w' = w := by
  have H := Lib.hid (show divL 1 a b = remL a b from rfl)
  go_enter Tryz.func61, Tryz.ntmps61
  go_wp2_with fail
  refine (divide_any _ _ _ _ (by decide)).mono ?_
  rintro e w' ⟨rfl, rfl⟩
  rw [H.out]
  generalize hx : remL a b = x
  have HX := Lib.hid hx
  clear hx H
  obtain ⟨n, k⟩ := x
  rw [resV]
  go_wp2_with fail
  go_ret2
  exact ⟨by rw [HX.out]; rfl, rfl⟩

theorem modulo_any (a b : Int) (w : World) : Calls Tryz.prog 62 #[.int .i64 a, .int .i64 b] w fun e w' => e = .returned (resV (modL a b)) ∧ w' = w := by
  have H := Lib.hid (show divL 2 a b = modL a b from rfl)
  go_enter Tryz.func62, Tryz.ntmps62
  go_wp2_with fail
  refine (divide_any _ _ _ _ (by decide)).mono ?_
  rintro e w' ⟨rfl, rfl⟩
  rw [H.out]
  generalize hx : modL a b = x
  have HX := Lib.hid hx
  clear hx H
  obtain ⟨n, k⟩ := x
  rw [resV]
  go_wp2_with fail
  go_ret2
  exact ⟨by rw [HX.out]; rfl, rfl⟩
end Go.Proofs.YtneokkhnjnomdaaGreatDoor

/-! FE -/
namespace Go.Proofs.YtneokkhnjnomdaaGreatDoor
open Go.RowKit

theorem u64w (n : Int) : IntKind.u64.wrap n = n % 18446744073709551616 := rfl

/-- The reference's product: a number, and whether it may be. -/
def prodL (a b : Int) : Int × Bool := if Num (a * b) = true then (a * b, true) else (0, false)

theorem product_any (a b : Int) (w : World) (hA : Num a = true) (hB : Num b = true) : Calls Tryz.prog 73 #[.int .i64 a, .int .i64 b] w fun e w' => e = .returned (.tuple #[.int .i64 (prodL a b).1, .bool (prodL a b).2]) ∧ w' = w := by
  rw [num_iff] at hA hB
  obtain ⟨a1, a2⟩ := hA
  obtain ⟨b1, b2⟩ := hB
  by_cases ha0 : a = 0
  · subst ha0
    have H := Lib.hid (show prodL 0 b = (0, true) by simp [prodL, Num])
    go_enter Tryz.func73, Tryz.ntmps73
    go_wp2_with fail
    go_ret2
    exact ⟨by rw [H.out]; rfl, rfl⟩
  · by_cases hb0 : b = 0
    · subst hb0
      have H := Lib.hid (show prodL a 0 = (0, true) by simp [prodL, Num])
      have ea : (a == 0) = false := by simpa using ha0
      go_enter Tryz.func73, Tryz.ntmps73
      go_wp2_with fail
      go_ret2
      exact ⟨by rw [H.out]; rfl, rfl⟩
    · have ea : (a == 0) = false := by simpa using ha0
      have eb : (b == 0) = false := by simpa using hb0
      by_cases han : a < 0 <;> by_cases hbn : b < 0
      · obtain ⟨x, hx⟩ : ∃ x, x = (-a) := ⟨_, rfl⟩
        obtain ⟨y, hy⟩ : ∃ y, y = (-b) := ⟨_, rfl⟩
        have hp : x * y = a * b := by rw [hx, hy]; exact Int.neg_mul_neg a b
        have x0 : 0 < x := by omega
        have y0 : 0 < y := by omega
        have x1 : x ≤ 1152921504606846976 := by omega
        have y1 : y ≤ 1152921504606846976 := by omega
        have wa : IntKind.u64.wrap (-IntKind.u64.wrap a) = x := by rw [u64w, u64w]; omega
        have wb : IntKind.u64.wrap (-IntKind.u64.wrap b) = y := by rw [u64w, u64w]; omega
        have p0 : 0 < x * y := Int.mul_pos x0 y0
        by_cases hc : x * y ≤ 1152921504606846975
        · have hq : x ≤ 1152921504606846975 / y := (Int.le_ediv_iff_mul_le y0).2 hc
          have hN : Num (a * b) = true := by rw [num_iff]; omega
          have H := Lib.hid (show prodL a b = (a * b, true) by simp [prodL, hN])
          have HP := Lib.hid hp
          have dxa : decide (a < 0) = true := by simpa using han
          have dyb : decide (b < 0) = true := by simpa using hbn
          clear hN hp hx hy 
          go_enter Tryz.func73, Tryz.ntmps73
          go_wp2_with fail
          go_ret2
          exact ⟨by rw [H.out]; simp only [HP.out]; rfl, rfl⟩
        · have hq : 1152921504606846975 / y < x := by
            have := mt (Int.le_ediv_iff_mul_le (a := x) (b := 1152921504606846975) y0).1 hc
            omega
          have hN : Num (a * b) = false := by
            rw [← Bool.not_eq_true, num_iff]
            omega
          have H := Lib.hid (show prodL a b = (0, false) by simp [prodL, hN])
          have dxa : decide (a < 0) = true := by simpa using han
          have dyb : decide (b < 0) = true := by simpa using hbn
          clear hN hp hc hx hy 
          go_enter Tryz.func73, Tryz.ntmps73
          go_wp2_with fail
          go_ret2
          exact ⟨by rw [H.out]; rfl, rfl⟩
      · obtain ⟨x, hx⟩ : ∃ x, x = (-a) := ⟨_, rfl⟩
        obtain ⟨y, hy⟩ : ∃ y, y = b := ⟨_, rfl⟩
        have hp : x * y = -(a * b) := by rw [hx, hy]; exact Int.neg_mul a b
        have x0 : 0 < x := by omega
        have y0 : 0 < y := by omega
        have x1 : x ≤ 1152921504606846976 := by omega
        have y1 : y ≤ 1152921504606846976 := by omega
        have wa : IntKind.u64.wrap (-IntKind.u64.wrap a) = x := by rw [u64w, u64w]; omega
        obtain rfl : y = b := hy
        have p0 : 0 < x * y := Int.mul_pos x0 y0
        by_cases hc : x * y ≤ 1152921504606846976
        · have hq : x ≤ 1152921504606846976 / y := (Int.le_ediv_iff_mul_le y0).2 hc
          have hN : Num (a * y) = true := by rw [num_iff]; omega
          have H := Lib.hid (show prodL a y = (a * y, true) by simp [prodL, hN])
          have HW := Lib.hid (show wrap64 (IntKind.u64.wrap (a * y)) = a * y by rw [u64w]; unfold wrap64; omega)
          have HP := Lib.hid hp
          have dxa : decide (a < 0) = true := by simpa using han
          have dyb : decide (y < 0) = false := by simpa using hbn
          clear hN hp hx 
          go_enter Tryz.func73, Tryz.ntmps73
          go_wp2_with fail
          go_ret2
          exact ⟨by rw [H.out]; simp only [HP.out, Int.neg_neg, HW.out]; rfl, rfl⟩
        · have hq : 1152921504606846976 / y < x := by
            have := mt (Int.le_ediv_iff_mul_le (a := x) (b := 1152921504606846976) y0).1 hc
            omega
          have hN : Num (a * y) = false := by
            rw [← Bool.not_eq_true, num_iff]
            omega
          have H := Lib.hid (show prodL a y = (0, false) by simp [prodL, hN])
          have dxa : decide (a < 0) = true := by simpa using han
          have dyb : decide (y < 0) = false := by simpa using hbn
          clear hN hp hc hx 
          go_enter Tryz.func73, Tryz.ntmps73
          go_wp2_with fail
          go_ret2
          exact ⟨by rw [H.out]; rfl, rfl⟩
      · obtain ⟨x, hx⟩ : ∃ x, x = a := ⟨_, rfl⟩
        obtain ⟨y, hy⟩ : ∃ y, y = (-b) := ⟨_, rfl⟩
        have hp : x * y = -(a * b) := by rw [hx, hy]; exact Int.mul_neg a b
        have x0 : 0 < x := by omega
        have y0 : 0 < y := by omega
        have x1 : x ≤ 1152921504606846976 := by omega
        have y1 : y ≤ 1152921504606846976 := by omega
        obtain rfl : x = a := hx
        have wb : IntKind.u64.wrap (-IntKind.u64.wrap b) = y := by rw [u64w, u64w]; omega
        have p0 : 0 < x * y := Int.mul_pos x0 y0
        by_cases hc : x * y ≤ 1152921504606846976
        · have hq : x ≤ 1152921504606846976 / y := (Int.le_ediv_iff_mul_le y0).2 hc
          have hN : Num (x * b) = true := by rw [num_iff]; omega
          have H := Lib.hid (show prodL x b = (x * b, true) by simp [prodL, hN])
          have HW := Lib.hid (show wrap64 (IntKind.u64.wrap (x * b)) = x * b by rw [u64w]; unfold wrap64; omega)
          have HP := Lib.hid hp
          have dxa : decide (x < 0) = false := by simpa using han
          have dyb : decide (b < 0) = true := by simpa using hbn
          clear hN hp hy 
          go_enter Tryz.func73, Tryz.ntmps73
          go_wp2_with fail
          go_ret2
          exact ⟨by rw [H.out]; simp only [HP.out, Int.neg_neg, HW.out]; rfl, rfl⟩
        · have hq : 1152921504606846976 / y < x := by
            have := mt (Int.le_ediv_iff_mul_le (a := x) (b := 1152921504606846976) y0).1 hc
            omega
          have hN : Num (x * b) = false := by
            rw [← Bool.not_eq_true, num_iff]
            omega
          have H := Lib.hid (show prodL x b = (0, false) by simp [prodL, hN])
          have dxa : decide (x < 0) = false := by simpa using han
          have dyb : decide (b < 0) = true := by simpa using hbn
          clear hN hp hc hy 
          go_enter Tryz.func73, Tryz.ntmps73
          go_wp2_with fail
          go_ret2
          exact ⟨by rw [H.out]; rfl, rfl⟩
      · obtain ⟨x, hx⟩ : ∃ x, x = a := ⟨_, rfl⟩
        obtain ⟨y, hy⟩ : ∃ y, y = b := ⟨_, rfl⟩
        have hp : x * y = a * b := by rw [hx, hy]
        have x0 : 0 < x := by omega
        have y0 : 0 < y := by omega
        have x1 : x ≤ 1152921504606846976 := by omega
        have y1 : y ≤ 1152921504606846976 := by omega
        obtain rfl : x = a := hx
        obtain rfl : y = b := hy
        have p0 : 0 < x * y := Int.mul_pos x0 y0
        by_cases hc : x * y ≤ 1152921504606846975
        · have hq : x ≤ 1152921504606846975 / y := (Int.le_ediv_iff_mul_le y0).2 hc
          have hN : Num (x * y) = true := by rw [num_iff]; omega
          have H := Lib.hid (show prodL x y = (x * y, true) by simp [prodL, hN])
          have dxa : decide (x < 0) = false := by simpa using han
          have dyb : decide (y < 0) = false := by simpa using hbn
          clear hN hp 
          go_enter Tryz.func73, Tryz.ntmps73
          go_wp2_with fail
          go_ret2
          exact ⟨by rw [H.out]; rfl, rfl⟩
        · have hq : 1152921504606846975 / y < x := by
            have := mt (Int.le_ediv_iff_mul_le (a := x) (b := 1152921504606846975) y0).1 hc
            omega
          have hN : Num (x * y) = false := by
            rw [← Bool.not_eq_true, num_iff]
            omega
          have H := Lib.hid (show prodL x y = (0, false) by simp [prodL, hN])
          have dxa : decide (x < 0) = false := by simpa using han
          have dyb : decide (y < 0) = false := by simpa using hbn
          clear hN hp hc 
          go_enter Tryz.func73, Tryz.ntmps73
          go_wp2_with fail
          go_ret2
          exact ⟨by rw [H.out]; rfl, rfl⟩

theorem refquotient_any (a b : Int) (w : World) : Calls Tryz.prog 41 #[.int .i64 a, .int .i64 b] w fun e w' => e = .returned (refV (quoL a b)) ∧ w' = w := by
  cases ha : Num a
  · have HA := Lib.hid ha
    have H := Lib.hid (show quoL a b = (0, 2) by simp [quoL, divWith, ha])
    clear ha
    go_enter Tryz.func41, Tryz.ntmps41
    go_wp2_with fail
    refine (refnum_any _ _).mono ?_
    rintro e w' ⟨rfl, rfl⟩
    rw [HA.out]
    go_wp2_with fail
    go_ret2
    exact ⟨by rw [H.out]; rfl, rfl⟩
  · have HA := Lib.hid ha
    cases hb : Num b
    · have HB := Lib.hid hb
      have H := Lib.hid (show quoL a b = (0, 2) by simp [quoL, divWith, ha, hb])
      clear ha hb
      go_enter Tryz.func41, Tryz.ntmps41
      go_wp2_with fail
      refine (refnum_any _ _).mono ?_
      rintro e w' ⟨rfl, rfl⟩
      rw [HA.out]
      go_wp2_with fail
      refine (refnum_any _ _).mono ?_
      rintro e w' ⟨rfl, rfl⟩
      rw [HB.out]
      go_wp2_with fail
      go_ret2
      exact ⟨by rw [H.out]; rfl, rfl⟩
    · have HB := Lib.hid hb
      by_cases h0 : b = 0
      · subst h0
        have H := Lib.hid (show quoL a 0 = (0, 12) by simp [quoL, divWith, ha, hb])
        clear ha hb
        go_enter Tryz.func41, Tryz.ntmps41
        go_wp2_with fail
        refine (refnum_any _ _).mono ?_
        rintro e w' ⟨rfl, rfl⟩
        rw [HA.out]
        go_wp2_with fail
        refine (refnum_any _ _).mono ?_
        rintro e w' ⟨rfl, rfl⟩
        rw [HB.out]
        go_wp2_with fail
        go_ret2
        exact ⟨by rw [H.out]; rfl, rfl⟩
      · obtain ⟨q1, q2⟩ := tdiv_bound (b := b) ha
        have H := Lib.hid (show quoL a b = if Num (a.tdiv b) = true then (a.tdiv b, 0) else (0, 11) by simp [quoL, divWith, ha, hb, h0, fitL])
        rw [num_iff] at ha hb
        obtain ⟨a1, a2⟩ := ha
        obtain ⟨b1, b2⟩ := hb
        obtain ⟨d, hd⟩ : ∃ d, a.tdiv b = d := ⟨_, rfl⟩
        rw [hd] at q1 q2 H
        have e0 : (b == 0) = false := by simpa using h0
        cases hq : Num d
        all_goals
          have HQ := Lib.hid hq
          rw [hq] at H
          have H2 := Lib.hid H.out
          clear hq H
          go_enter Tryz.func41, Tryz.ntmps41
          go_wp2_with fail
          refine (refnum_any _ _).mono ?_
          rintro e w' ⟨rfl, rfl⟩
          rw [HA.out]
          go_wp2_with fail
          refine (refnum_any _ _).mono ?_
          rintro e w' ⟨rfl, rfl⟩
          rw [HB.out]
          go_wp2_with fail
          refine (refnum_any _ _).mono ?_
          rintro e w' ⟨rfl, rfl⟩
          rw [HQ.out]
          go_wp2_with fail
          go_ret2
          exact ⟨by rw [H2.out]; rfl, rfl⟩

theorem refremainder_any (a b : Int) (w : World) : Calls Tryz.prog 42 #[.int .i64 a, .int .i64 b] w fun e w' => e = .returned (refV (remL a b)) ∧ w' = w := by
  cases ha : Num a
  · have HA := Lib.hid ha
    have H := Lib.hid (show remL a b = (0, 2) by simp [remL, divWith, ha])
    clear ha
    go_enter Tryz.func42, Tryz.ntmps42
    go_wp2_with fail
    refine (refnum_any _ _).mono ?_
    rintro e w' ⟨rfl, rfl⟩
    rw [HA.out]
    go_wp2_with fail
    go_ret2
    exact ⟨by rw [H.out]; rfl, rfl⟩
  · have HA := Lib.hid ha
    cases hb : Num b
    · have HB := Lib.hid hb
      have H := Lib.hid (show remL a b = (0, 2) by simp [remL, divWith, ha, hb])
      clear ha hb
      go_enter Tryz.func42, Tryz.ntmps42
      go_wp2_with fail
      refine (refnum_any _ _).mono ?_
      rintro e w' ⟨rfl, rfl⟩
      rw [HA.out]
      go_wp2_with fail
      refine (refnum_any _ _).mono ?_
      rintro e w' ⟨rfl, rfl⟩
      rw [HB.out]
      go_wp2_with fail
      go_ret2
      exact ⟨by rw [H.out]; rfl, rfl⟩
    · have HB := Lib.hid hb
      by_cases h0 : b = 0
      · subst h0
        have H := Lib.hid (show remL a 0 = (0, 12) by simp [remL, divWith, ha, hb])
        clear ha hb
        go_enter Tryz.func42, Tryz.ntmps42
        go_wp2_with fail
        refine (refnum_any _ _).mono ?_
        rintro e w' ⟨rfl, rfl⟩
        rw [HA.out]
        go_wp2_with fail
        refine (refnum_any _ _).mono ?_
        rintro e w' ⟨rfl, rfl⟩
        rw [HB.out]
        go_wp2_with fail
        go_ret2
        exact ⟨by rw [H.out]; rfl, rfl⟩
      · obtain ⟨q1, q2⟩ := tdiv_bound (b := b) ha
        obtain ⟨t1, _⟩ := tmod_bound ha hb h0
        have H := Lib.hid (show remL a b = (a.tmod b, 0) by simp [remL, divWith, ha, hb, h0])
        rw [num_iff] at ha hb t1
        obtain ⟨a1, a2⟩ := ha
        obtain ⟨b1, b2⟩ := hb
        have hr := Int.tmod_add_mul_tdiv a b
        have HR := Lib.hid (show a - a.tdiv b * b = a.tmod b by rw [Int.mul_comm (a.tdiv b) b]; omega)
        have hr1 : a - a.tdiv b * b = a.tmod b := HR.out
        have r1 : -4611686018427387904 ≤ a.tdiv b * b := by omega
        have r2 : a.tdiv b * b ≤ 4611686018427387904 := by omega
        clear hr hr1
        have e0 : (b == 0) = false := by simpa using h0
        go_enter Tryz.func42, Tryz.ntmps42
        go_wp2_with fail
        refine (refnum_any _ _).mono ?_
        rintro e w' ⟨rfl, rfl⟩
        rw [HA.out]
        go_wp2_with fail
        refine (refnum_any _ _).mono ?_
        rintro e w' ⟨rfl, rfl⟩
        rw [HB.out]
        go_wp2_with fail
        go_ret2
        exact ⟨by rw [H.out, ← HR.out]; rfl, rfl⟩
end Go.Proofs.YtneokkhnjnomdaaGreatDoor

/-! FF -/
namespace Go.Proofs.YtneokkhnjnomdaaGreatDoor
open Go.RowKit

theorem refmul_any (a b : Int) (w : World) : Calls Tryz.prog 40 #[.int .i64 a, .int .i64 b] w fun e w' => e = .returned (refV (mulL a b)) ∧ w' = w := by
  cases ha : Num a
  · have HA := Lib.hid ha
    have H := Lib.hid (show mulL a b = (0, 2) by simp [mulL, ha])
    clear ha
    go_enter Tryz.func40, Tryz.ntmps40
    go_wp2_with fail
    refine (refnum_any _ _).mono ?_
    rintro e w' ⟨rfl, rfl⟩
    rw [HA.out]
    go_wp2_with fail
    go_ret2
    exact ⟨by rw [H.out]; rfl, rfl⟩
  · have HA := Lib.hid ha
    cases hb : Num b
    · have HB := Lib.hid hb
      have H := Lib.hid (show mulL a b = (0, 2) by simp [mulL, ha, hb])
      clear ha hb
      go_enter Tryz.func40, Tryz.ntmps40
      go_wp2_with fail
      refine (refnum_any _ _).mono ?_
      rintro e w' ⟨rfl, rfl⟩
      rw [HA.out]
      go_wp2_with fail
      refine (refnum_any _ _).mono ?_
      rintro e w' ⟨rfl, rfl⟩
      rw [HB.out]
      go_wp2_with fail
      go_ret2
      exact ⟨by rw [H.out]; rfl, rfl⟩
    · have HB := Lib.hid hb
      have H : Hid (mulL a b = if (prodL a b).2 = true then ((prodL a b).1, 0) else (0, 11)) := by
        simp only [Hid, mulL, ha, hb, prodL, fitL, Bool.and_self, if_true]
        by_cases hq : Num (a * b) = true
        · simp [hq]
        · simp [hq]
      generalize hp : prodL a b = p at H
      have HP := Lib.hid hp
      clear ha hb hp
      obtain ⟨n, ok⟩ := p
      go_enter Tryz.func40, Tryz.ntmps40
      go_wp2_with fail
      refine (refnum_any _ _).mono ?_
      rintro e w' ⟨rfl, rfl⟩
      rw [HA.out]
      go_wp2_with fail
      refine (refnum_any _ _).mono ?_
      rintro e w' ⟨rfl, rfl⟩
      rw [HB.out]
      go_wp2_with fail
      refine (product_any _ _ _ HA.out HB.out).mono ?_
      rintro e w' ⟨rfl, rfl⟩
      rw [HP.out]
      cases ok
      all_goals
        have H2 := Lib.hid H.out
        clear H
        go_wp2_with fail
        go_ret2
        exact ⟨by rw [H2.out]; rfl, rfl⟩

theorem refmodulo_any (a b : Int) (w : World) : Calls Tryz.prog 43 #[.int .i64 a, .int .i64 b] w fun e w' => e = .returned (refV (modL a b)) ∧ w' = w := by
  have HC := Lib.hid (fun w => refremainder_any a b w)
  by_cases hk : (remL a b).2 = 0
  · -- nothing is refused
    have hAB : Num a = true ∧ Num b = true ∧ b ≠ 0 := by
      unfold remL divWith at hk
      cases ha : Num a <;> cases hb : Num b <;> simp [ha, hb] at hk
      refine ⟨rfl, rfl, fun h0 => ?_⟩
      rw [if_pos h0] at hk
      exact absurd hk (by decide)
    obtain ⟨hA, hB, h0⟩ := hAB
    have HR := Lib.hid (show remL a b = (a.tmod b, 0) by simp [remL, divWith, hA, hB, h0])
    have H := Lib.hid (show modL a b = (modOf a b, 0) by simp [modL, divWith, hA, hB, h0])
    have HM := Lib.hid (show modOf a b = if a.tmod b ≠ 0 ∧ ((a.tmod b < 0) ≠ (b < 0)) then a.tmod b + b else a.tmod b from rfl)
    obtain ⟨t1, _⟩ := tmod_bound hA hB h0
    rw [num_iff] at t1 hA hB
    obtain ⟨r1, r2⟩ := t1
    obtain ⟨b1, b2⟩ := hB
    generalize a.tmod b = r at r1 r2 HM HR
    clear hk h0 hA
    by_cases hr0 : r = 0
    · have H3 := Lib.hid (show modOf a b = r by rw [HM.out, if_neg (by simp [hr0])])
      subst hr0
      clear r1 r2
      go_enter Tryz.func43, Tryz.ntmps43
      go_wp2_with fail
      refine (HC.out _).mono ?_
      rintro e w' ⟨rfl, rfl⟩
      rw [HR.out, refV]
      go_wp2_with fail
      go_ret2
      exact ⟨by rw [H.out, H3.out]; rfl, rfl⟩
    · by_cases hrn : r < 0 <;> by_cases hbn : b < 0
      · have H3 := Lib.hid (show modOf a b = r by rw [HM.out, if_neg (by simp [hrn, hbn])])
        have dr : decide (r < 0) = true := by simpa using hrn
        have db : decide (b < 0) = true := by simpa using hbn
        clear hrn hbn
        go_enter Tryz.func43, Tryz.ntmps43
        go_wp2_with fail
        refine (HC.out _).mono ?_
        rintro e w' ⟨rfl, rfl⟩
        rw [HR.out, refV]
        go_wp2_with fail
        go_ret2
        exact ⟨by rw [H.out, H3.out]; rfl, rfl⟩
      · have H3 := Lib.hid (show modOf a b = r + b by rw [HM.out, if_pos (by simp [hr0, hrn, hbn])])
        have dr : decide (r < 0) = true := by simpa using hrn
        have db : decide (b < 0) = false := by simpa using hbn
        go_enter Tryz.func43, Tryz.ntmps43
        go_wp2_with fail
        refine (HC.out _).mono ?_
        rintro e w' ⟨rfl, rfl⟩
        rw [HR.out, refV]
        go_wp2_with fail
        go_ret2
        exact ⟨by rw [H.out, H3.out]; rfl, rfl⟩
      · have H3 := Lib.hid (show modOf a b = r + b by rw [HM.out, if_pos (by simp [hr0, hrn, hbn])])
        have dr : decide (r < 0) = false := by simpa using hrn
        have db : decide (b < 0) = true := by simpa using hbn
        go_enter Tryz.func43, Tryz.ntmps43
        go_wp2_with fail
        refine (HC.out _).mono ?_
        rintro e w' ⟨rfl, rfl⟩
        rw [HR.out, refV]
        go_wp2_with fail
        go_ret2
        exact ⟨by rw [H.out, H3.out]; rfl, rfl⟩
      · have H3 := Lib.hid (show modOf a b = r by rw [HM.out, if_neg (by simp [hrn, hbn])])
        have dr : decide (r < 0) = false := by simpa using hrn
        have db : decide (b < 0) = false := by simpa using hbn
        go_enter Tryz.func43, Tryz.ntmps43
        go_wp2_with fail
        refine (HC.out _).mono ?_
        rintro e w' ⟨rfl, rfl⟩
        rw [HR.out, refV]
        go_wp2_with fail
        go_ret2
        exact ⟨by rw [H.out, H3.out]; rfl, rfl⟩
  · have H : Hid (modL a b = remL a b) := by
      unfold remL divWith at hk
      unfold modL remL divWith
      cases ha : Num a <;> cases hb : Num b <;> simp [ha, hb, Hid] at hk ⊢
      by_cases h0 : b = 0
      · simp [h0]
      · rw [if_neg h0] at hk
        exact absurd rfl hk
    have e0 : ((remL a b).2 == 0) = false := by simpa using hk
    generalize remL a b = x at H HC e0
    obtain ⟨n, k⟩ := x
    simp only at e0
    clear hk
    go_enter Tryz.func43, Tryz.ntmps43
    go_wp2_with fail
    refine (HC.out _).mono ?_
    rintro e w' ⟨rfl, rfl⟩
    rw [refV]
    go_wp2_with fail
    go_ret2
    exact ⟨by rw [H.out]; rfl, rfl⟩

end Go.Proofs.YtneokkhnjnomdaaGreatDoor

/-! FP -/
namespace Go.Proofs.YtneokkhnjnomdaaGreatDoor
open Go.RowKit

def digB (c : UInt8) : Bool := decide (48 ≤ c.toNat) && decide (c.toNat ≤ 57)
def digV (c : UInt8) : Int := (c.toNat : Int) - 48
/-- The number that digits say. -/
def valL (l : List UInt8) : Int := l.foldl (fun n c => 10 * n + digV c) 0

theorem valL_snoc (l : List UInt8) (c : UInt8) : valL (l ++ [c]) = 10 * valL l + digV c := by simp [valL]

theorem digB_iff {c : UInt8} : digB c = true ↔ 48 ≤ c.toNat ∧ c.toNat ≤ 57 := by simp [digB]

/-- The digits of a text behind its sign. -/
def bodyL (s : List UInt8) : List UInt8 := match s with | [] => [] | c :: r => if (c == 45 || c == 43) = true then r else c :: r
def negL (s : List UInt8) : Bool := match s with | [] => false | c :: _ => c == 45
def okL (l : List UInt8) : Bool := decide (1 ≤ l.length) && decide (l.length ≤ 30) && l.all digB

/-- What a text is as a number, or what it is refused with. -/
def parseL (s : List UInt8) : Int × Int :=
  if okL (bodyL s) = true then fitL (if negL s = true then -valL (bodyL s) else valL (bodyL s)) else (0, 6)

/-- fix's loop: too far, and the number so far. -/
def stF (l : List UInt8) : Bool × Int := l.foldl (fun x c => if (x.1 || decide (288230376151711743 < x.2)) = true then (true, x.2) else (false, 10 * x.2 + digV c)) (false, 0)
theorem stF_snoc (l : List UInt8) (c : UInt8) : stF (l ++ [c]) = if ((stF l).1 || decide (288230376151711743 < (stF l).2)) = true then (true, (stF l).2) else (false, 10 * (stF l).2 + digV c) := by simp [stF]

theorem snoc_ind {α : Type} {P : List α → Prop} (h0 : P []) (h1 : ∀ l c, P l → P (l ++ [c])) (l : List α) : P l := by
  rw [← List.reverse_reverse l]
  induction l.reverse with
  | nil => exact h0
  | cons c r ih => rw [List.reverse_cons]; exact h1 _ _ ih

theorem stF_inv : ∀ (l : List UInt8), l.all digB = true → (0 ≤ (stF l).2 ∧ (stF l).2 ≤ 2882303761517117439) ∧ ((stF l).1 = false → (stF l).2 = valL l) ∧ ((stF l).1 = true → 1152921504606846976 < valL l) := by
  refine snoc_ind ?_ ?_
  · intro _; exact ⟨⟨by decide, by decide⟩, fun _ => rfl, fun h => by simp [stF] at h⟩
  · intro l c ih h
    rw [List.all_append, Bool.and_eq_true] at h
    obtain ⟨h1, h2⟩ := h
    simp only [List.all_cons, List.all_nil, Bool.and_true] at h2
    rw [digB_iff] at h2
    obtain ⟨⟨i1, i2⟩, i3, i4⟩ := ih h1
    have hc : 0 ≤ digV c ∧ digV c ≤ 9 := by unfold digV; omega
    rw [stF_snoc, valL_snoc]
    cases hf : (stF l).1
    · have e := i3 hf
      by_cases hb : 288230376151711743 < (stF l).2
      · simp only [hb, decide_true, Bool.or_true, if_true]
        exact ⟨⟨i1, i2⟩, fun h => by simp at h, fun _ => by rw [e] at hb; omega⟩
      · simp only [hb, decide_false, Bool.or_false, Bool.false_eq_true, if_false]
        exact ⟨by omega, fun _ => by rw [e], fun h => by simp at h⟩
    · have e := i4 hf
      simp only [Bool.true_or, if_true]
      exact ⟨⟨i1, i2⟩, fun h => by simp at h, fun _ => by omega⟩

/-- The reference's loop: too far, and the number so far. -/
def stR (l : List UInt8) : Bool × Int := l.foldl (fun x c => if 115292150460684697 < x.2 then (true, digV c) else (x.1, x.2 * 10 + digV c)) (false, 0)
theorem stR_snoc (l : List UInt8) (c : UInt8) : stR (l ++ [c]) = if 115292150460684697 < (stR l).2 then (true, digV c) else ((stR l).1, (stR l).2 * 10 + digV c) := by
  rw [stR, List.foldl_append]
  rfl

theorem stR_inv : ∀ (l : List UInt8), l.all digB = true → (0 ≤ (stR l).2 ∧ (stR l).2 ≤ 1152921504606846979) ∧ ((stR l).1 = false → (stR l).2 = valL l) ∧ ((stR l).1 = true → 1152921504606846976 < valL l) := by
  refine snoc_ind ?_ ?_
  · intro _; exact ⟨⟨by decide, by decide⟩, fun _ => rfl, fun h => by simp [stR] at h⟩
  · intro l c ih h
    rw [List.all_append, Bool.and_eq_true] at h
    obtain ⟨h1, h2⟩ := h
    simp only [List.all_cons, List.all_nil, Bool.and_true] at h2
    rw [digB_iff] at h2
    obtain ⟨⟨i1, i2⟩, i3, i4⟩ := ih h1
    have hc : 0 ≤ digV c ∧ digV c ≤ 9 := by unfold digV; omega
    rw [stR_snoc, valL_snoc]
    by_cases hb : 115292150460684697 < (stR l).2
    · rw [if_pos hb]
      refine ⟨by simp only; omega, fun h => by simp at h, fun _ => ?_⟩
      cases hf : (stR l).1
      · have e := i3 hf
        omega
      · have e := i4 hf
        omega
    · rw [if_neg hb]
      refine ⟨by simp only; omega, fun h => ?_, fun h => ?_⟩
      · have e := i3 h
        simp only
        omega
      · have e := i4 h
        omega

theorem all_take {l : List UInt8} {p : UInt8 → Bool} (h : l.all p = true) (k : Nat) : (l.take k).all p = true := by
  rw [List.all_eq_true] at h ⊢
  exact fun x hx => h x (List.mem_of_mem_take hx)


theorem u8beq (c : UInt8) (n : Nat) (h : n < 256 := by decide) : ((c.toNat : Int) == (n : Int)) = (c == UInt8.ofNat n) := by
  rw [Bool.eq_iff_iff, beq_iff_eq, beq_iff_eq, ← UInt8.toNat_inj]
  simp [Nat.mod_eq_of_lt h]
  omega

theorem ba_zero (c : UInt8) (r : List UInt8) (h : 0 < (⟨⟨c :: r⟩⟩ : ByteArray).size) : (⟨⟨c :: r⟩⟩ : ByteArray)[0]'h = c := rfl

theorem below_bytes {W : World} (e : TypeId) (s : ByteArray) : Below W.heap.size W (Lib.bytesWorld W e s) :=
  ⟨rfl, rfl, rfl, by rw [Lib.bytesWorld_size]; omega, fun k hk => Lib.bytesWorld_at_old W e s k hk⟩

theorem bytes_cell (W : World) (e : TypeId) (d : List UInt8) (j : Nat) (hj : j < d.length) : (Lib.bytesWorld W e ⟨⟨d⟩⟩).cell? ⟨W.heap.size, j, none⟩ = some (.int .u8 d[j].toNat) := by
  rw [Lib.bytesWorld_cell W e ⟨⟨d⟩⟩ j hj]
  simp [List.getD, hj]

end Go.Proofs.YtneokkhnjnomdaaGreatDoor

/-! FQ -/
namespace Go.Proofs.YtneokkhnjnomdaaGreatDoor
open Go.RowKit

theorem parse_minus (r : List UInt8) (W : World) :
    Calls Tryz.prog 66 #[.string ⟨⟨45 :: r⟩⟩] W fun e w' => e = .returned (resV (parseL (45 :: r))) ∧ Below W.heap.size W w' := by
  have hcv := fun (w : World) (s : ByteArray) => Lib.run_convert_string_bytes w 9 115 5 s Tryz.underlying9 Tryz.underlying115 Tryz.underlying5
  have eb := ba_zero 45 r
  have hext : (⟨⟨45 :: r⟩⟩ : ByteArray).extract 1 (r.length + 1) = ⟨⟨r⟩⟩ := by
    rw [Lib.extract_eq]; simp
  have hBody : bodyL (45 :: r) = r := rfl
  have hNeg : negL (45 :: r) = true := rfl
  have hl : (r).length = (r).length := rfl
  by_cases hlen : 1 ≤ (r).length ∧ (r).length ≤ 30
  · obtain ⟨l1, l2⟩ := hlen
    have l1' : 1 ≤ ((r).length : Int) := by omega
    have l2' : ((r).length : Int) ≤ 30 := by omega
    obtain ⟨P, hP⟩ : ∃ P, parseL (45 :: r) = P := ⟨_, rfl⟩
    have HP := Lib.hid hP
    have HL : Hid (P = if (r).all digB = true then fitL (if true = true then -valL (r) else valL (r)) else (0, 6)) := by
      simp only [Hid]
      rw [← hP, parseL, okL, hBody, hNeg, decide_eq_true l1, decide_eq_true l2]
      rfl
    have hcells := Lib.hid (bytes_cell W 5 (r))
    have hbl := below_bytes (W := W) 5 ⟨⟨r⟩⟩
    try simp only [List.length_cons] at l1' l2'
    clear hBody hNeg hl hP
    go_enter Tryz.func66, Tryz.ntmps66
    go_wp2_with fail
    clear hcv
    generalize Lib.bytesWorld W 5 ⟨⟨r⟩⟩ = w1 at hcells hbl ⊢
    obtain ⟨E, hE⟩ : ∃ E, E = r := ⟨_, rfl⟩
    have HE := Lib.hid hE
    rw [← hE] at HL hcells l1 l2
    clear hE
    have hEl : (E.length : Int) = (r).length := by rw [HE.out]
    go_loop [5, 6, 36] (fun f n i => ∃ k : Nat, k ≤ E.length ∧ i = .int .i64 k ∧ f = .bool (stF (E.take k)).1 ∧ n = .int .i64 (stF (E.take k)).2 ∧ (E.take k).all digB = true) (fun _ _ i => E.length - (intOf i).toNat)
    case atStart => exact ⟨0, by omega, rfl, rfl, rfl, rfl⟩
    case round =>
      obtain ⟨k, hk, rfl, rfl, rfl, hall⟩ := hrel
      obtain ⟨⟨i1, i2⟩, i3, i4⟩ := stF_inv _ hall
      by_cases hlt : k < E.length
      · have hst := Lib.hid (stF_snoc (E.take k) E[k])
        have htk := Lib.hid (List.take_succ_eq_append_getElem hlt)
        have hck := hcells.out k hlt
        generalize E[k] = x at hst htk hck
        clear i3 i4
        generalize stF (E.take k) = st at hst i1 i2
        obtain ⟨far, n⟩ := st
        simp only at i1 i2
        by_cases hd : digB x = true
        · obtain ⟨d1, d2⟩ := digB_iff.1 hd
          have c1 : ((x.toNat : Int) < 48) = False := by simp; omega
          have c2 : (57 < (x.toNat : Int)) = False := by simp; omega
          have b1 : decide ((x.toNat : Int) < 48) = false := by simp; omega
          have b2 : decide (57 < (x.toNat : Int)) = false := by simp; omega
          have hall' : (E.take (k + 1)).all digB = true := by rw [htk.out, List.all_append, hall]; simp [hd]
          have HALL := Lib.hid hall'
          clear hall hall' hd
          cases far
          · by_cases hm : 288230376151711743 < n
            · have HST : Hid (stF (E.take (k + 1)) = (true, n)) := by rw [Hid, htk.out, hst.out]; simp [hm]
              clear hst htk
              go_wp2_with fail
              go_round
              case rel => exact ⟨k + 1, by omega, by go_num, by rw [HST.out], by rw [HST.out], HALL.out⟩
              case measure => simp [intOf]; omega
            · have HST : Hid (stF (E.take (k + 1)) = (false, 10 * n + digV x)) := by rw [Hid, htk.out, hst.out]; simp [hm]
              have hdv : digV x = (x.toNat : Int) - 48 := rfl
              have hm' : n ≤ 288230376151711743 := by omega
              rw [hdv] at HST
              clear hst htk hdv
              go_wp2_with fail
              go_round
              case rel => exact ⟨k + 1, by omega, by go_num, by rw [HST.out], by rw [HST.out], HALL.out⟩
              case measure => simp [intOf]; omega
          · have HST : Hid (stF (E.take (k + 1)) = (true, n)) := by rw [Hid, htk.out, hst.out]; simp
            clear hst htk
            go_wp2_with fail
            go_round
            case rel => exact ⟨k + 1, by omega, by go_num, by rw [HST.out], by rw [HST.out], HALL.out⟩
            case measure => simp [intOf]; omega
        · have hno : E.all digB = false := by
            rw [← Bool.not_eq_true]
            intro hh
            have := all_take hh (k + 1)
            rw [htk.out, List.all_append, Bool.and_eq_true] at this
            simp only [List.all_cons, List.all_nil, Bool.and_true] at this
            exact hd this.2
          have H6 := Lib.hid (show P = (0, 6) by rw [HL.out, hno]; rfl)
          have hx : x.toNat < 48 ∨ 57 < x.toNat := by
            rcases Nat.lt_or_ge x.toNat 48 with h | h
            · exact .inl h
            · rcases Nat.lt_or_ge 57 x.toNat with h' | h'
              · exact .inr h'
              · exact absurd (digB_iff.2 ⟨h, h'⟩) hd
          clear hst htk hno hd hall
          rcases hx with h | h
          · have b1 : decide ((x.toNat : Int) < 48) = true := by simp; omega
            go_wp2_with fail
            go_ret2
            exact ⟨by rw [HP.out, H6.out]; rfl, hbl⟩
          · have b1 : decide ((x.toNat : Int) < 48) = false := by simp; omega
            have b2 : decide (57 < (x.toNat : Int)) = true := by simp; omega
            go_wp2_with fail
            go_ret2
            exact ⟨by rw [HP.out, H6.out]; rfl, hbl⟩
      · obtain rfl : k = E.length := by omega
        have hge : ¬ (E.length : Int) < (r.length : Int) := by (try simp only [List.length_cons] at hEl); omega
        have hdk : decide ((E.length : Int) < (r.length : Int)) = false := decide_eq_false hge
        rw [List.take_length] at hall i1 i2 i3 i4
        rw [List.take_length]
        have HV : Hid (P = fitL (if true = true then -valL E else valL E)) := by
          rw [Hid, HL.out, hall]; rfl
        have hi3 := Lib.hid i3
        have hi4 := Lib.hid i4
        clear i3 i4 hall
        generalize stF E = st at hi3 hi4 i1 i2
        obtain ⟨far, n⟩ := st
        simp only at i1 i2
        cases far
        · have hn : valL E = n := (hi3.out rfl).symm
          rw [hn] at HV
          clear hn
          go_wp2_with fail
          refine (fit_any _ _).mono ?_
          rintro e w' ⟨rfl, rfl⟩
          have HV2 : Hid (P = fitL (-n)) := HV.out
          generalize fitL (-n) = x at HV2
          obtain ⟨m, e⟩ := x
          rw [resV]
          go_wp2_with fail
          go_ret2
          exact ⟨by rw [HP.out, HV2.out]; rfl, hbl⟩
        · have hn : 1152921504606846976 < valL E := hi4.out rfl
          have H11 := Lib.hid (show P = (0, 11) by
            rw [HV.out, fitL, if_neg]
            rw [num_iff]
            simp
            omega)
          clear hn
          go_wp2_with fail
          go_ret2
          exact ⟨by rw [HP.out, H11.out]; rfl, hbl⟩
  · have H := Lib.hid (show parseL (45 :: r) = (0, 6) by
      rw [parseL, hBody, if_neg]
      simp only [okL, Bool.and_eq_true, decide_eq_true_eq]
      exact fun h => hlen h.1)
    have hlen' : ((r).length : Int) < 1 ∨ 30 < ((r).length : Int) := by omega
    clear hlen hBody hNeg hl
    try simp only [List.length_cons] at hlen'
    rcases hlen' with h | h
    · go_enter Tryz.func66, Tryz.ntmps66
      go_wp2_with fail
      go_ret2
      exact ⟨by rw [H.out]; rfl, Below.refl _ _⟩
    · have h' : ¬ ((r).length : Int) < 1 := by simp; omega
      try simp only [List.length_cons] at h'
      go_enter Tryz.func66, Tryz.ntmps66
      go_wp2_with fail
      go_ret2
      exact ⟨by rw [H.out]; rfl, Below.refl _ _⟩

theorem parse_plus (r : List UInt8) (W : World) :
    Calls Tryz.prog 66 #[.string ⟨⟨43 :: r⟩⟩] W fun e w' => e = .returned (resV (parseL (43 :: r))) ∧ Below W.heap.size W w' := by
  have hcv := fun (w : World) (s : ByteArray) => Lib.run_convert_string_bytes w 9 115 5 s Tryz.underlying9 Tryz.underlying115 Tryz.underlying5
  have eb := ba_zero 43 r
  have hext : (⟨⟨43 :: r⟩⟩ : ByteArray).extract 1 (r.length + 1) = ⟨⟨r⟩⟩ := by
    rw [Lib.extract_eq]; simp
  have hBody : bodyL (43 :: r) = r := rfl
  have hNeg : negL (43 :: r) = false := rfl
  have hl : (r).length = (r).length := rfl
  by_cases hlen : 1 ≤ (r).length ∧ (r).length ≤ 30
  · obtain ⟨l1, l2⟩ := hlen
    have l1' : 1 ≤ ((r).length : Int) := by omega
    have l2' : ((r).length : Int) ≤ 30 := by omega
    obtain ⟨P, hP⟩ : ∃ P, parseL (43 :: r) = P := ⟨_, rfl⟩
    have HP := Lib.hid hP
    have HL : Hid (P = if (r).all digB = true then fitL (if false = true then -valL (r) else valL (r)) else (0, 6)) := by
      simp only [Hid]
      rw [← hP, parseL, okL, hBody, hNeg, decide_eq_true l1, decide_eq_true l2]
      rfl
    have hcells := Lib.hid (bytes_cell W 5 (r))
    have hbl := below_bytes (W := W) 5 ⟨⟨r⟩⟩
    try simp only [List.length_cons] at l1' l2'
    clear hBody hNeg hl hP
    go_enter Tryz.func66, Tryz.ntmps66
    go_wp2_with fail
    clear hcv
    generalize Lib.bytesWorld W 5 ⟨⟨r⟩⟩ = w1 at hcells hbl ⊢
    obtain ⟨E, hE⟩ : ∃ E, E = r := ⟨_, rfl⟩
    have HE := Lib.hid hE
    rw [← hE] at HL hcells l1 l2
    clear hE
    have hEl : (E.length : Int) = (r).length := by rw [HE.out]
    go_loop [5, 6, 36] (fun f n i => ∃ k : Nat, k ≤ E.length ∧ i = .int .i64 k ∧ f = .bool (stF (E.take k)).1 ∧ n = .int .i64 (stF (E.take k)).2 ∧ (E.take k).all digB = true) (fun _ _ i => E.length - (intOf i).toNat)
    case atStart => exact ⟨0, by omega, rfl, rfl, rfl, rfl⟩
    case round =>
      obtain ⟨k, hk, rfl, rfl, rfl, hall⟩ := hrel
      obtain ⟨⟨i1, i2⟩, i3, i4⟩ := stF_inv _ hall
      by_cases hlt : k < E.length
      · have hst := Lib.hid (stF_snoc (E.take k) E[k])
        have htk := Lib.hid (List.take_succ_eq_append_getElem hlt)
        have hck := hcells.out k hlt
        generalize E[k] = x at hst htk hck
        clear i3 i4
        generalize stF (E.take k) = st at hst i1 i2
        obtain ⟨far, n⟩ := st
        simp only at i1 i2
        by_cases hd : digB x = true
        · obtain ⟨d1, d2⟩ := digB_iff.1 hd
          have c1 : ((x.toNat : Int) < 48) = False := by simp; omega
          have c2 : (57 < (x.toNat : Int)) = False := by simp; omega
          have b1 : decide ((x.toNat : Int) < 48) = false := by simp; omega
          have b2 : decide (57 < (x.toNat : Int)) = false := by simp; omega
          have hall' : (E.take (k + 1)).all digB = true := by rw [htk.out, List.all_append, hall]; simp [hd]
          have HALL := Lib.hid hall'
          clear hall hall' hd
          cases far
          · by_cases hm : 288230376151711743 < n
            · have HST : Hid (stF (E.take (k + 1)) = (true, n)) := by rw [Hid, htk.out, hst.out]; simp [hm]
              clear hst htk
              go_wp2_with fail
              go_round
              case rel => exact ⟨k + 1, by omega, by go_num, by rw [HST.out], by rw [HST.out], HALL.out⟩
              case measure => simp [intOf]; omega
            · have HST : Hid (stF (E.take (k + 1)) = (false, 10 * n + digV x)) := by rw [Hid, htk.out, hst.out]; simp [hm]
              have hdv : digV x = (x.toNat : Int) - 48 := rfl
              have hm' : n ≤ 288230376151711743 := by omega
              rw [hdv] at HST
              clear hst htk hdv
              go_wp2_with fail
              go_round
              case rel => exact ⟨k + 1, by omega, by go_num, by rw [HST.out], by rw [HST.out], HALL.out⟩
              case measure => simp [intOf]; omega
          · have HST : Hid (stF (E.take (k + 1)) = (true, n)) := by rw [Hid, htk.out, hst.out]; simp
            clear hst htk
            go_wp2_with fail
            go_round
            case rel => exact ⟨k + 1, by omega, by go_num, by rw [HST.out], by rw [HST.out], HALL.out⟩
            case measure => simp [intOf]; omega
        · have hno : E.all digB = false := by
            rw [← Bool.not_eq_true]
            intro hh
            have := all_take hh (k + 1)
            rw [htk.out, List.all_append, Bool.and_eq_true] at this
            simp only [List.all_cons, List.all_nil, Bool.and_true] at this
            exact hd this.2
          have H6 := Lib.hid (show P = (0, 6) by rw [HL.out, hno]; rfl)
          have hx : x.toNat < 48 ∨ 57 < x.toNat := by
            rcases Nat.lt_or_ge x.toNat 48 with h | h
            · exact .inl h
            · rcases Nat.lt_or_ge 57 x.toNat with h' | h'
              · exact .inr h'
              · exact absurd (digB_iff.2 ⟨h, h'⟩) hd
          clear hst htk hno hd hall
          rcases hx with h | h
          · have b1 : decide ((x.toNat : Int) < 48) = true := by simp; omega
            go_wp2_with fail
            go_ret2
            exact ⟨by rw [HP.out, H6.out]; rfl, hbl⟩
          · have b1 : decide ((x.toNat : Int) < 48) = false := by simp; omega
            have b2 : decide (57 < (x.toNat : Int)) = true := by simp; omega
            go_wp2_with fail
            go_ret2
            exact ⟨by rw [HP.out, H6.out]; rfl, hbl⟩
      · obtain rfl : k = E.length := by omega
        have hge : ¬ (E.length : Int) < (r.length : Int) := by (try simp only [List.length_cons] at hEl); omega
        have hdk : decide ((E.length : Int) < (r.length : Int)) = false := decide_eq_false hge
        rw [List.take_length] at hall i1 i2 i3 i4
        rw [List.take_length]
        have HV : Hid (P = fitL (if false = true then -valL E else valL E)) := by
          rw [Hid, HL.out, hall]; rfl
        have hi3 := Lib.hid i3
        have hi4 := Lib.hid i4
        clear i3 i4 hall
        generalize stF E = st at hi3 hi4 i1 i2
        obtain ⟨far, n⟩ := st
        simp only at i1 i2
        cases far
        · have hn : valL E = n := (hi3.out rfl).symm
          rw [hn] at HV
          clear hn
          go_wp2_with fail
          refine (fit_any _ _).mono ?_
          rintro e w' ⟨rfl, rfl⟩
          have HV2 : Hid (P = fitL n) := HV.out
          generalize fitL n = x at HV2
          obtain ⟨m, e⟩ := x
          rw [resV]
          go_wp2_with fail
          go_ret2
          exact ⟨by rw [HP.out, HV2.out]; rfl, hbl⟩
        · have hn : 1152921504606846976 < valL E := hi4.out rfl
          have H11 := Lib.hid (show P = (0, 11) by
            rw [HV.out, fitL, if_neg]
            rw [num_iff]
            simp
            omega)
          clear hn
          go_wp2_with fail
          go_ret2
          exact ⟨by rw [HP.out, H11.out]; rfl, hbl⟩
  · have H := Lib.hid (show parseL (43 :: r) = (0, 6) by
      rw [parseL, hBody, if_neg]
      simp only [okL, Bool.and_eq_true, decide_eq_true_eq]
      exact fun h => hlen h.1)
    have hlen' : ((r).length : Int) < 1 ∨ 30 < ((r).length : Int) := by omega
    clear hlen hBody hNeg hl
    try simp only [List.length_cons] at hlen'
    rcases hlen' with h | h
    · go_enter Tryz.func66, Tryz.ntmps66
      go_wp2_with fail
      go_ret2
      exact ⟨by rw [H.out]; rfl, Below.refl _ _⟩
    · have h' : ¬ ((r).length : Int) < 1 := by simp; omega
      try simp only [List.length_cons] at h'
      go_enter Tryz.func66, Tryz.ntmps66
      go_wp2_with fail
      go_ret2
      exact ⟨by rw [H.out]; rfl, Below.refl _ _⟩

theorem parse_none (D : List UInt8) (c : UInt8) (eb : ∀ (h : 0 < (⟨⟨D⟩⟩ : ByteArray).size), (⟨⟨D⟩⟩ : ByteArray)[0]'h = c) (hBody : bodyL D = D) (hNeg : negL D = false) (hpos : 0 < D.length) (h45 : c ≠ 45) (h43 : c ≠ 43) (W : World) :
    Calls Tryz.prog 66 #[.string ⟨⟨D⟩⟩] W fun e w' => e = .returned (resV (parseL (D))) ∧ Below W.heap.size W w' := by
  have hcv := fun (w : World) (s : ByteArray) => Lib.run_convert_string_bytes w 9 115 5 s Tryz.underlying9 Tryz.underlying115 Tryz.underlying5
  have g45 : ((c.toNat : Int) == 45) = false := (u8beq c 45).trans (by simpa using h45)
  have g43 : ((c.toNat : Int) == 43) = false := (u8beq c 43).trans (by simpa using h43)
  have hem : D.isEmpty = false := by cases D <;> simp at hpos ⊢
  have hl : (D).length = (D).length := rfl
  by_cases hlen : 1 ≤ (D).length ∧ (D).length ≤ 30
  · obtain ⟨l1, l2⟩ := hlen
    have l1' : 1 ≤ ((D).length : Int) := by omega
    have l2' : ((D).length : Int) ≤ 30 := by omega
    obtain ⟨P, hP⟩ : ∃ P, parseL (D) = P := ⟨_, rfl⟩
    have HP := Lib.hid hP
    have HL : Hid (P = if (D).all digB = true then fitL (if false = true then -valL (D) else valL (D)) else (0, 6)) := by
      simp only [Hid]
      rw [← hP, parseL, okL, hBody, hNeg, decide_eq_true l1, decide_eq_true l2]
      rfl
    have hcells := Lib.hid (bytes_cell W 5 (D))
    have hbl := below_bytes (W := W) 5 ⟨⟨D⟩⟩
    try simp only [List.length_cons] at l1' l2'
    clear hBody hNeg hl hP
    go_enter Tryz.func66, Tryz.ntmps66
    go_wp2_with fail
    clear hcv
    generalize Lib.bytesWorld W 5 ⟨⟨D⟩⟩ = w1 at hcells hbl ⊢
    obtain ⟨E, hE⟩ : ∃ E, E = D := ⟨_, rfl⟩
    have HE := Lib.hid hE
    rw [← hE] at HL hcells l1 l2
    clear hE
    have hEl : (E.length : Int) = (D).length := by rw [HE.out]
    go_loop [5, 6, 36] (fun f n i => ∃ k : Nat, k ≤ E.length ∧ i = .int .i64 k ∧ f = .bool (stF (E.take k)).1 ∧ n = .int .i64 (stF (E.take k)).2 ∧ (E.take k).all digB = true) (fun _ _ i => E.length - (intOf i).toNat)
    case atStart => exact ⟨0, by omega, rfl, rfl, rfl, rfl⟩
    case round =>
      obtain ⟨k, hk, rfl, rfl, rfl, hall⟩ := hrel
      obtain ⟨⟨i1, i2⟩, i3, i4⟩ := stF_inv _ hall
      by_cases hlt : k < E.length
      · have hst := Lib.hid (stF_snoc (E.take k) E[k])
        have htk := Lib.hid (List.take_succ_eq_append_getElem hlt)
        have hck := hcells.out k hlt
        generalize E[k] = x at hst htk hck
        clear i3 i4
        generalize stF (E.take k) = st at hst i1 i2
        obtain ⟨far, n⟩ := st
        simp only at i1 i2
        by_cases hd : digB x = true
        · obtain ⟨d1, d2⟩ := digB_iff.1 hd
          have c1 : ((x.toNat : Int) < 48) = False := by simp; omega
          have c2 : (57 < (x.toNat : Int)) = False := by simp; omega
          have b1 : decide ((x.toNat : Int) < 48) = false := by simp; omega
          have b2 : decide (57 < (x.toNat : Int)) = false := by simp; omega
          have hall' : (E.take (k + 1)).all digB = true := by rw [htk.out, List.all_append, hall]; simp [hd]
          have HALL := Lib.hid hall'
          clear hall hall' hd
          cases far
          · by_cases hm : 288230376151711743 < n
            · have HST : Hid (stF (E.take (k + 1)) = (true, n)) := by rw [Hid, htk.out, hst.out]; simp [hm]
              clear hst htk
              go_wp2_with fail
              go_round
              case rel => exact ⟨k + 1, by omega, by go_num, by rw [HST.out], by rw [HST.out], HALL.out⟩
              case measure => simp [intOf]; omega
            · have HST : Hid (stF (E.take (k + 1)) = (false, 10 * n + digV x)) := by rw [Hid, htk.out, hst.out]; simp [hm]
              have hdv : digV x = (x.toNat : Int) - 48 := rfl
              have hm' : n ≤ 288230376151711743 := by omega
              rw [hdv] at HST
              clear hst htk hdv
              go_wp2_with fail
              go_round
              case rel => exact ⟨k + 1, by omega, by go_num, by rw [HST.out], by rw [HST.out], HALL.out⟩
              case measure => simp [intOf]; omega
          · have HST : Hid (stF (E.take (k + 1)) = (true, n)) := by rw [Hid, htk.out, hst.out]; simp
            clear hst htk
            go_wp2_with fail
            go_round
            case rel => exact ⟨k + 1, by omega, by go_num, by rw [HST.out], by rw [HST.out], HALL.out⟩
            case measure => simp [intOf]; omega
        · have hno : E.all digB = false := by
            rw [← Bool.not_eq_true]
            intro hh
            have := all_take hh (k + 1)
            rw [htk.out, List.all_append, Bool.and_eq_true] at this
            simp only [List.all_cons, List.all_nil, Bool.and_true] at this
            exact hd this.2
          have H6 := Lib.hid (show P = (0, 6) by rw [HL.out, hno]; rfl)
          have hx : x.toNat < 48 ∨ 57 < x.toNat := by
            rcases Nat.lt_or_ge x.toNat 48 with h | h
            · exact .inl h
            · rcases Nat.lt_or_ge 57 x.toNat with h' | h'
              · exact .inr h'
              · exact absurd (digB_iff.2 ⟨h, h'⟩) hd
          clear hst htk hno hd hall
          rcases hx with h | h
          · have b1 : decide ((x.toNat : Int) < 48) = true := by simp; omega
            go_wp2_with fail
            go_ret2
            exact ⟨by rw [HP.out, H6.out]; rfl, hbl⟩
          · have b1 : decide ((x.toNat : Int) < 48) = false := by simp; omega
            have b2 : decide (57 < (x.toNat : Int)) = true := by simp; omega
            go_wp2_with fail
            go_ret2
            exact ⟨by rw [HP.out, H6.out]; rfl, hbl⟩
      · obtain rfl : k = E.length := by omega
        have hge : ¬ (E.length : Int) < (D.length : Int) := by (try simp only [List.length_cons] at hEl); omega
        have hdk : decide ((E.length : Int) < (D.length : Int)) = false := decide_eq_false hge
        rw [List.take_length] at hall i1 i2 i3 i4
        rw [List.take_length]
        have HV : Hid (P = fitL (if false = true then -valL E else valL E)) := by
          rw [Hid, HL.out, hall]; rfl
        have hi3 := Lib.hid i3
        have hi4 := Lib.hid i4
        clear i3 i4 hall
        generalize stF E = st at hi3 hi4 i1 i2
        obtain ⟨far, n⟩ := st
        simp only at i1 i2
        cases far
        · have hn : valL E = n := (hi3.out rfl).symm
          rw [hn] at HV
          clear hn
          go_wp2_with fail
          refine (fit_any _ _).mono ?_
          rintro e w' ⟨rfl, rfl⟩
          have HV2 : Hid (P = fitL n) := HV.out
          generalize fitL n = x at HV2
          obtain ⟨m, e⟩ := x
          rw [resV]
          go_wp2_with fail
          go_ret2
          exact ⟨by rw [HP.out, HV2.out]; rfl, hbl⟩
        · have hn : 1152921504606846976 < valL E := hi4.out rfl
          have H11 := Lib.hid (show P = (0, 11) by
            rw [HV.out, fitL, if_neg]
            rw [num_iff]
            simp
            omega)
          clear hn
          go_wp2_with fail
          go_ret2
          exact ⟨by rw [HP.out, H11.out]; rfl, hbl⟩
  · have H := Lib.hid (show parseL (D) = (0, 6) by
      rw [parseL, hBody, if_neg]
      simp only [okL, Bool.and_eq_true, decide_eq_true_eq]
      exact fun h => hlen h.1)
    have hlen' : ((D).length : Int) < 1 ∨ 30 < ((D).length : Int) := by omega
    clear hlen hBody hNeg hl
    try simp only [List.length_cons] at hlen'
    rcases hlen' with h | h
    · go_enter Tryz.func66, Tryz.ntmps66
      go_wp2_with fail
      go_ret2
      exact ⟨by rw [H.out]; rfl, Below.refl _ _⟩
    · have h' : ¬ ((D).length : Int) < 1 := by simp; omega
      try simp only [List.length_cons] at h'
      go_enter Tryz.func66, Tryz.ntmps66
      go_wp2_with fail
      go_ret2
      exact ⟨by rw [H.out]; rfl, Below.refl _ _⟩

theorem parse_any (s : ByteArray) (w : World) :
    Calls Tryz.prog 66 #[.string s] w fun e w' => e = .returned (resV (parseL s.data.toList)) ∧ Below w.heap.size w w' := by
  obtain ⟨⟨l⟩⟩ := s
  rw [show (ByteArray.mk ⟨l⟩).data.toList = l from rfl]
  rcases l with _ | ⟨c, r⟩
  · have H := Lib.hid (show parseL [] = (0, 6) from rfl)
    go_enter Tryz.func66, Tryz.ntmps66
    go_wp2_with fail
    go_ret2
    exact ⟨by rw [H.out]; rfl, Below.refl _ _⟩
  · by_cases h45 : c = 45
    · subst h45
      exact parse_minus r w
    · by_cases h43 : c = 43
      · subst h43
        exact parse_plus r w
      · exact parse_none (c :: r) c (ba_zero c r) (by simp [bodyL, h45, h43]) (by simp [negL, h45]) (by simp) h45 h43 w
end Go.Proofs.YtneokkhnjnomdaaGreatDoor

/-! FR -/
namespace Go.Proofs.YtneokkhnjnomdaaGreatDoor
open Go.RowKit

theorem refparse_minus (r : List UInt8) (W : World) :
    Calls Tryz.prog 75 #[.string ⟨⟨45 :: r⟩⟩] W fun e w' => e = .returned (refV (parseL (45 :: r))) ∧ Below W.heap.size W w' := by
  have eb := ba_zero 45 r
  have hext : (⟨⟨45 :: r⟩⟩ : ByteArray).extract 1 (r.length + 1) = ⟨⟨r⟩⟩ := by
    rw [Lib.extract_eq]; simp
  have hBody : bodyL (45 :: r) = r := rfl
  have hNeg : negL (45 :: r) = true := rfl
  have hl : (r).length = (r).length := rfl
  by_cases hlen : 1 ≤ (r).length ∧ (r).length ≤ 30
  · obtain ⟨l1, l2⟩ := hlen
    have l1' : 1 ≤ ((r).length : Int) := by omega
    have l2' : ((r).length : Int) ≤ 30 := by omega
    obtain ⟨P, hP⟩ : ∃ P, parseL (45 :: r) = P := ⟨_, rfl⟩
    have HP := Lib.hid hP
    have HL : Hid (P = if (r).all digB = true then fitL (if true = true then -valL (r) else valL (r)) else (0, 6)) := by
      simp only [Hid]
      rw [← hP, parseL, okL, hBody, hNeg, decide_eq_true l1, decide_eq_true l2]
      rfl
    try simp only [List.length_cons] at l1' l2'
    clear hBody hNeg hl hP
    go_enter Tryz.func75, Tryz.ntmps75
    go_wp2_with fail
    go_loop [5, 6, 7] (fun n f i => ∃ k : Nat, k ≤ (r).length ∧ i = .int .i64 k ∧ f = .bool (stR ((r).take k)).1 ∧ n = .int .i64 (stR ((r).take k)).2 ∧ ((r).take k).all digB = true) (fun _ _ i => (r).length - (intOf i).toNat)
    case atStart => exact ⟨0, by omega, rfl, rfl, rfl, rfl⟩
    case round =>
      obtain ⟨k, hk, rfl, rfl, rfl, hall⟩ := hrel
      obtain ⟨⟨i1, i2⟩, i3, i4⟩ := stR_inv _ hall
      by_cases hlt : k < (r).length
      · have hst := Lib.hid (stR_snoc ((r).take k) (r)[k])
        have htk := Lib.hid (List.take_succ_eq_append_getElem hlt)
        obtain ⟨x, hx0⟩ : ∃ x, (r)[k] = x := ⟨_, rfl⟩
        have hbx : ∀ h : k < (⟨⟨r⟩⟩ : ByteArray).size, (⟨⟨r⟩⟩ : ByteArray)[k]'h = x := fun _ => hx0
        rw [hx0] at hst htk
        clear hx0
        clear i3 i4
        generalize stR ((r).take k) = st at hst i1 i2
        obtain ⟨far, n⟩ := st
        simp only at i1 i2
        by_cases hd : digB x = true
        · obtain ⟨d1, d2⟩ := digB_iff.1 hd
          have c1 : ((x.toNat : Int) < 48) = False := by simp; omega
          have c2 : (57 < (x.toNat : Int)) = False := by simp; omega
          have b1 : decide ((x.toNat : Int) < 48) = false := by simp; omega
          have b2 : decide (57 < (x.toNat : Int)) = false := by simp; omega
          have hall' : ((r).take (k + 1)).all digB = true := by rw [htk.out, List.all_append, hall]; simp [hd]
          have HALL := Lib.hid hall'
          have hdv : digV x = (x.toNat : Int) - 48 := rfl
          clear hall hall' hd
          by_cases hm : 115292150460684697 < n
          · have HST : Hid (stR ((r).take (k + 1)) = (true, digV x)) := by rw [Hid, htk.out, hst.out]; simp [hm]
            rw [hdv] at HST
            clear hst htk hdv
            go_wp2_with fail
            go_round
            case rel => exact ⟨k + 1, by omega, by go_num, by rw [HST.out], by rw [HST.out], HALL.out⟩
            case measure => simp [intOf]; omega
          · have HST : Hid (stR ((r).take (k + 1)) = (far, n * 10 + digV x)) := by rw [Hid, htk.out, hst.out]; simp [hm]
            have hm' : n ≤ 115292150460684697 := by omega
            rw [hdv] at HST
            clear hst htk hdv
            go_wp2_with fail
            go_round
            case rel => exact ⟨k + 1, by omega, by go_num, by rw [HST.out], by rw [HST.out], HALL.out⟩
            case measure => simp [intOf]; omega
        · have hno : (r).all digB = false := by
            rw [← Bool.not_eq_true]
            intro hh
            have := all_take hh (k + 1)
            rw [htk.out, List.all_append, Bool.and_eq_true] at this
            simp only [List.all_cons, List.all_nil, Bool.and_true] at this
            exact hd this.2
          have H6 := Lib.hid (show P = (0, 6) by rw [HL.out, hno]; rfl)
          have hx : x.toNat < 48 ∨ 57 < x.toNat := by
            rcases Nat.lt_or_ge x.toNat 48 with h | h
            · exact .inl h
            · rcases Nat.lt_or_ge 57 x.toNat with h' | h'
              · exact .inr h'
              · exact absurd (digB_iff.2 ⟨h, h'⟩) hd
          clear hst htk hno hd hall
          rcases hx with h | h
          · have b1 : decide ((x.toNat : Int) < 48) = true := by simp; omega
            go_wp2_with fail
            go_ret2
            exact ⟨by rw [HP.out, H6.out]; rfl, Below.refl _ _⟩
          · have b1 : decide ((x.toNat : Int) < 48) = false := by simp; omega
            have b2 : decide (57 < (x.toNat : Int)) = true := by simp; omega
            go_wp2_with fail
            go_ret2
            exact ⟨by rw [HP.out, H6.out]; rfl, Below.refl _ _⟩
      · obtain rfl : k = (r).length := by omega
        rw [List.take_length] at hall i1 i2 i3 i4
        rw [List.take_length]
        have HV : Hid (P = fitL (if true = true then -valL (r) else valL (r))) := by
          rw [Hid, HL.out, hall]; rfl
        have hi3 := Lib.hid i3
        have hi4 := Lib.hid i4
        clear i3 i4 hall
        generalize stR (r) = st at hi3 hi4 i1 i2
        obtain ⟨far, n⟩ := st
        simp only at i1 i2
        cases far
        · have hn : valL (r) = n := (hi3.out rfl).symm
          rw [hn] at HV
          have HV2 : Hid (P = if Num (-n) = true then ((-n), 0) else (0, 11)) := HV.out
          clear hn
          go_wp2_with fail
          refine (refnum_any _ _).mono ?_
          rintro e w' ⟨rfl, rfl⟩
          generalize Num (-n) = q at HV2
          cases q
          all_goals
            have HV3 := Lib.hid HV2.out
            clear HV2
            go_wp2_with fail
            go_ret2
            exact ⟨by rw [HP.out, HV3.out]; rfl, Below.refl _ _⟩
        · have hn : 1152921504606846976 < valL (r) := hi4.out rfl
          have H11 := Lib.hid (show P = (0, 11) by
            rw [HV.out, fitL, if_neg]
            rw [num_iff]
            simp
            omega)
          clear hn
          go_wp2_with fail
          go_ret2
          exact ⟨by rw [HP.out, H11.out]; rfl, Below.refl _ _⟩
  · have H := Lib.hid (show parseL (45 :: r) = (0, 6) by
      rw [parseL, hBody, if_neg]
      simp only [okL, Bool.and_eq_true, decide_eq_true_eq]
      exact fun h => hlen h.1)
    have hlen' : ((r).length : Int) < 1 ∨ 30 < ((r).length : Int) := by omega
    clear hlen hBody hNeg hl
    try simp only [List.length_cons] at hlen'
    rcases hlen' with h | h
    · go_enter Tryz.func75, Tryz.ntmps75
      go_wp2_with fail
      go_ret2
      exact ⟨by rw [H.out]; rfl, Below.refl _ _⟩
    · have h' : ¬ ((r).length : Int) < 1 := by simp; omega
      try simp only [List.length_cons] at h'
      go_enter Tryz.func75, Tryz.ntmps75
      go_wp2_with fail
      go_ret2
      exact ⟨by rw [H.out]; rfl, Below.refl _ _⟩

theorem refparse_plus (r : List UInt8) (W : World) :
    Calls Tryz.prog 75 #[.string ⟨⟨43 :: r⟩⟩] W fun e w' => e = .returned (refV (parseL (43 :: r))) ∧ Below W.heap.size W w' := by
  have eb := ba_zero 43 r
  have hext : (⟨⟨43 :: r⟩⟩ : ByteArray).extract 1 (r.length + 1) = ⟨⟨r⟩⟩ := by
    rw [Lib.extract_eq]; simp
  have hBody : bodyL (43 :: r) = r := rfl
  have hNeg : negL (43 :: r) = false := rfl
  have hl : (r).length = (r).length := rfl
  by_cases hlen : 1 ≤ (r).length ∧ (r).length ≤ 30
  · obtain ⟨l1, l2⟩ := hlen
    have l1' : 1 ≤ ((r).length : Int) := by omega
    have l2' : ((r).length : Int) ≤ 30 := by omega
    obtain ⟨P, hP⟩ : ∃ P, parseL (43 :: r) = P := ⟨_, rfl⟩
    have HP := Lib.hid hP
    have HL : Hid (P = if (r).all digB = true then fitL (if false = true then -valL (r) else valL (r)) else (0, 6)) := by
      simp only [Hid]
      rw [← hP, parseL, okL, hBody, hNeg, decide_eq_true l1, decide_eq_true l2]
      rfl
    try simp only [List.length_cons] at l1' l2'
    clear hBody hNeg hl hP
    go_enter Tryz.func75, Tryz.ntmps75
    go_wp2_with fail
    go_loop [5, 6, 7] (fun n f i => ∃ k : Nat, k ≤ (r).length ∧ i = .int .i64 k ∧ f = .bool (stR ((r).take k)).1 ∧ n = .int .i64 (stR ((r).take k)).2 ∧ ((r).take k).all digB = true) (fun _ _ i => (r).length - (intOf i).toNat)
    case atStart => exact ⟨0, by omega, rfl, rfl, rfl, rfl⟩
    case round =>
      obtain ⟨k, hk, rfl, rfl, rfl, hall⟩ := hrel
      obtain ⟨⟨i1, i2⟩, i3, i4⟩ := stR_inv _ hall
      by_cases hlt : k < (r).length
      · have hst := Lib.hid (stR_snoc ((r).take k) (r)[k])
        have htk := Lib.hid (List.take_succ_eq_append_getElem hlt)
        obtain ⟨x, hx0⟩ : ∃ x, (r)[k] = x := ⟨_, rfl⟩
        have hbx : ∀ h : k < (⟨⟨r⟩⟩ : ByteArray).size, (⟨⟨r⟩⟩ : ByteArray)[k]'h = x := fun _ => hx0
        rw [hx0] at hst htk
        clear hx0
        clear i3 i4
        generalize stR ((r).take k) = st at hst i1 i2
        obtain ⟨far, n⟩ := st
        simp only at i1 i2
        by_cases hd : digB x = true
        · obtain ⟨d1, d2⟩ := digB_iff.1 hd
          have c1 : ((x.toNat : Int) < 48) = False := by simp; omega
          have c2 : (57 < (x.toNat : Int)) = False := by simp; omega
          have b1 : decide ((x.toNat : Int) < 48) = false := by simp; omega
          have b2 : decide (57 < (x.toNat : Int)) = false := by simp; omega
          have hall' : ((r).take (k + 1)).all digB = true := by rw [htk.out, List.all_append, hall]; simp [hd]
          have HALL := Lib.hid hall'
          have hdv : digV x = (x.toNat : Int) - 48 := rfl
          clear hall hall' hd
          by_cases hm : 115292150460684697 < n
          · have HST : Hid (stR ((r).take (k + 1)) = (true, digV x)) := by rw [Hid, htk.out, hst.out]; simp [hm]
            rw [hdv] at HST
            clear hst htk hdv
            go_wp2_with fail
            go_round
            case rel => exact ⟨k + 1, by omega, by go_num, by rw [HST.out], by rw [HST.out], HALL.out⟩
            case measure => simp [intOf]; omega
          · have HST : Hid (stR ((r).take (k + 1)) = (far, n * 10 + digV x)) := by rw [Hid, htk.out, hst.out]; simp [hm]
            have hm' : n ≤ 115292150460684697 := by omega
            rw [hdv] at HST
            clear hst htk hdv
            go_wp2_with fail
            go_round
            case rel => exact ⟨k + 1, by omega, by go_num, by rw [HST.out], by rw [HST.out], HALL.out⟩
            case measure => simp [intOf]; omega
        · have hno : (r).all digB = false := by
            rw [← Bool.not_eq_true]
            intro hh
            have := all_take hh (k + 1)
            rw [htk.out, List.all_append, Bool.and_eq_true] at this
            simp only [List.all_cons, List.all_nil, Bool.and_true] at this
            exact hd this.2
          have H6 := Lib.hid (show P = (0, 6) by rw [HL.out, hno]; rfl)
          have hx : x.toNat < 48 ∨ 57 < x.toNat := by
            rcases Nat.lt_or_ge x.toNat 48 with h | h
            · exact .inl h
            · rcases Nat.lt_or_ge 57 x.toNat with h' | h'
              · exact .inr h'
              · exact absurd (digB_iff.2 ⟨h, h'⟩) hd
          clear hst htk hno hd hall
          rcases hx with h | h
          · have b1 : decide ((x.toNat : Int) < 48) = true := by simp; omega
            go_wp2_with fail
            go_ret2
            exact ⟨by rw [HP.out, H6.out]; rfl, Below.refl _ _⟩
          · have b1 : decide ((x.toNat : Int) < 48) = false := by simp; omega
            have b2 : decide (57 < (x.toNat : Int)) = true := by simp; omega
            go_wp2_with fail
            go_ret2
            exact ⟨by rw [HP.out, H6.out]; rfl, Below.refl _ _⟩
      · obtain rfl : k = (r).length := by omega
        rw [List.take_length] at hall i1 i2 i3 i4
        rw [List.take_length]
        have HV : Hid (P = fitL (if false = true then -valL (r) else valL (r))) := by
          rw [Hid, HL.out, hall]; rfl
        have hi3 := Lib.hid i3
        have hi4 := Lib.hid i4
        clear i3 i4 hall
        generalize stR (r) = st at hi3 hi4 i1 i2
        obtain ⟨far, n⟩ := st
        simp only at i1 i2
        cases far
        · have hn : valL (r) = n := (hi3.out rfl).symm
          rw [hn] at HV
          have HV2 : Hid (P = if Num n = true then (n, 0) else (0, 11)) := HV.out
          clear hn
          go_wp2_with fail
          refine (refnum_any _ _).mono ?_
          rintro e w' ⟨rfl, rfl⟩
          generalize Num n = q at HV2
          cases q
          all_goals
            have HV3 := Lib.hid HV2.out
            clear HV2
            go_wp2_with fail
            go_ret2
            exact ⟨by rw [HP.out, HV3.out]; rfl, Below.refl _ _⟩
        · have hn : 1152921504606846976 < valL (r) := hi4.out rfl
          have H11 := Lib.hid (show P = (0, 11) by
            rw [HV.out, fitL, if_neg]
            rw [num_iff]
            simp
            omega)
          clear hn
          go_wp2_with fail
          go_ret2
          exact ⟨by rw [HP.out, H11.out]; rfl, Below.refl _ _⟩
  · have H := Lib.hid (show parseL (43 :: r) = (0, 6) by
      rw [parseL, hBody, if_neg]
      simp only [okL, Bool.and_eq_true, decide_eq_true_eq]
      exact fun h => hlen h.1)
    have hlen' : ((r).length : Int) < 1 ∨ 30 < ((r).length : Int) := by omega
    clear hlen hBody hNeg hl
    try simp only [List.length_cons] at hlen'
    rcases hlen' with h | h
    · go_enter Tryz.func75, Tryz.ntmps75
      go_wp2_with fail
      go_ret2
      exact ⟨by rw [H.out]; rfl, Below.refl _ _⟩
    · have h' : ¬ ((r).length : Int) < 1 := by simp; omega
      try simp only [List.length_cons] at h'
      go_enter Tryz.func75, Tryz.ntmps75
      go_wp2_with fail
      go_ret2
      exact ⟨by rw [H.out]; rfl, Below.refl _ _⟩

theorem refparse_none (D : List UInt8) (c : UInt8) (eb : ∀ (h : 0 < (⟨⟨D⟩⟩ : ByteArray).size), (⟨⟨D⟩⟩ : ByteArray)[0]'h = c) (hBody : bodyL D = D) (hNeg : negL D = false) (hpos : 0 < D.length) (h45 : c ≠ 45) (h43 : c ≠ 43) (W : World) :
    Calls Tryz.prog 75 #[.string ⟨⟨D⟩⟩] W fun e w' => e = .returned (refV (parseL (D))) ∧ Below W.heap.size W w' := by
  have g45 : ((c.toNat : Int) == 45) = false := (u8beq c 45).trans (by simpa using h45)
  have g43 : ((c.toNat : Int) == 43) = false := (u8beq c 43).trans (by simpa using h43)
  have hem : D.isEmpty = false := by cases D <;> simp at hpos ⊢
  have hl : (D).length = (D).length := rfl
  by_cases hlen : 1 ≤ (D).length ∧ (D).length ≤ 30
  · obtain ⟨l1, l2⟩ := hlen
    have l1' : 1 ≤ ((D).length : Int) := by omega
    have l2' : ((D).length : Int) ≤ 30 := by omega
    obtain ⟨P, hP⟩ : ∃ P, parseL (D) = P := ⟨_, rfl⟩
    have HP := Lib.hid hP
    have HL : Hid (P = if (D).all digB = true then fitL (if false = true then -valL (D) else valL (D)) else (0, 6)) := by
      simp only [Hid]
      rw [← hP, parseL, okL, hBody, hNeg, decide_eq_true l1, decide_eq_true l2]
      rfl
    try simp only [List.length_cons] at l1' l2'
    clear hBody hNeg hl hP
    go_enter Tryz.func75, Tryz.ntmps75
    go_wp2_with fail
    go_loop [5, 6, 7] (fun n f i => ∃ k : Nat, k ≤ (D).length ∧ i = .int .i64 k ∧ f = .bool (stR ((D).take k)).1 ∧ n = .int .i64 (stR ((D).take k)).2 ∧ ((D).take k).all digB = true) (fun _ _ i => (D).length - (intOf i).toNat)
    case atStart => exact ⟨0, by omega, rfl, rfl, rfl, rfl⟩
    case round =>
      obtain ⟨k, hk, rfl, rfl, rfl, hall⟩ := hrel
      obtain ⟨⟨i1, i2⟩, i3, i4⟩ := stR_inv _ hall
      by_cases hlt : k < (D).length
      · have hst := Lib.hid (stR_snoc ((D).take k) (D)[k])
        have htk := Lib.hid (List.take_succ_eq_append_getElem hlt)
        obtain ⟨x, hx0⟩ : ∃ x, (D)[k] = x := ⟨_, rfl⟩
        have hbx : ∀ h : k < (⟨⟨D⟩⟩ : ByteArray).size, (⟨⟨D⟩⟩ : ByteArray)[k]'h = x := fun _ => hx0
        rw [hx0] at hst htk
        clear hx0
        clear i3 i4
        generalize stR ((D).take k) = st at hst i1 i2
        obtain ⟨far, n⟩ := st
        simp only at i1 i2
        by_cases hd : digB x = true
        · obtain ⟨d1, d2⟩ := digB_iff.1 hd
          have c1 : ((x.toNat : Int) < 48) = False := by simp; omega
          have c2 : (57 < (x.toNat : Int)) = False := by simp; omega
          have b1 : decide ((x.toNat : Int) < 48) = false := by simp; omega
          have b2 : decide (57 < (x.toNat : Int)) = false := by simp; omega
          have hall' : ((D).take (k + 1)).all digB = true := by rw [htk.out, List.all_append, hall]; simp [hd]
          have HALL := Lib.hid hall'
          have hdv : digV x = (x.toNat : Int) - 48 := rfl
          clear hall hall' hd
          by_cases hm : 115292150460684697 < n
          · have HST : Hid (stR ((D).take (k + 1)) = (true, digV x)) := by rw [Hid, htk.out, hst.out]; simp [hm]
            rw [hdv] at HST
            clear hst htk hdv
            go_wp2_with fail
            go_round
            case rel => exact ⟨k + 1, by omega, by go_num, by rw [HST.out], by rw [HST.out], HALL.out⟩
            case measure => simp [intOf]; omega
          · have HST : Hid (stR ((D).take (k + 1)) = (far, n * 10 + digV x)) := by rw [Hid, htk.out, hst.out]; simp [hm]
            have hm' : n ≤ 115292150460684697 := by omega
            rw [hdv] at HST
            clear hst htk hdv
            go_wp2_with fail
            go_round
            case rel => exact ⟨k + 1, by omega, by go_num, by rw [HST.out], by rw [HST.out], HALL.out⟩
            case measure => simp [intOf]; omega
        · have hno : (D).all digB = false := by
            rw [← Bool.not_eq_true]
            intro hh
            have := all_take hh (k + 1)
            rw [htk.out, List.all_append, Bool.and_eq_true] at this
            simp only [List.all_cons, List.all_nil, Bool.and_true] at this
            exact hd this.2
          have H6 := Lib.hid (show P = (0, 6) by rw [HL.out, hno]; rfl)
          have hx : x.toNat < 48 ∨ 57 < x.toNat := by
            rcases Nat.lt_or_ge x.toNat 48 with h | h
            · exact .inl h
            · rcases Nat.lt_or_ge 57 x.toNat with h' | h'
              · exact .inr h'
              · exact absurd (digB_iff.2 ⟨h, h'⟩) hd
          clear hst htk hno hd hall
          rcases hx with h | h
          · have b1 : decide ((x.toNat : Int) < 48) = true := by simp; omega
            go_wp2_with fail
            go_ret2
            exact ⟨by rw [HP.out, H6.out]; rfl, Below.refl _ _⟩
          · have b1 : decide ((x.toNat : Int) < 48) = false := by simp; omega
            have b2 : decide (57 < (x.toNat : Int)) = true := by simp; omega
            go_wp2_with fail
            go_ret2
            exact ⟨by rw [HP.out, H6.out]; rfl, Below.refl _ _⟩
      · obtain rfl : k = (D).length := by omega
        rw [List.take_length] at hall i1 i2 i3 i4
        rw [List.take_length]
        have HV : Hid (P = fitL (if false = true then -valL (D) else valL (D))) := by
          rw [Hid, HL.out, hall]; rfl
        have hi3 := Lib.hid i3
        have hi4 := Lib.hid i4
        clear i3 i4 hall
        generalize stR (D) = st at hi3 hi4 i1 i2
        obtain ⟨far, n⟩ := st
        simp only at i1 i2
        cases far
        · have hn : valL (D) = n := (hi3.out rfl).symm
          rw [hn] at HV
          have HV2 : Hid (P = if Num n = true then (n, 0) else (0, 11)) := HV.out
          clear hn
          go_wp2_with fail
          refine (refnum_any _ _).mono ?_
          rintro e w' ⟨rfl, rfl⟩
          generalize Num n = q at HV2
          cases q
          all_goals
            have HV3 := Lib.hid HV2.out
            clear HV2
            go_wp2_with fail
            go_ret2
            exact ⟨by rw [HP.out, HV3.out]; rfl, Below.refl _ _⟩
        · have hn : 1152921504606846976 < valL (D) := hi4.out rfl
          have H11 := Lib.hid (show P = (0, 11) by
            rw [HV.out, fitL, if_neg]
            rw [num_iff]
            simp
            omega)
          clear hn
          go_wp2_with fail
          go_ret2
          exact ⟨by rw [HP.out, H11.out]; rfl, Below.refl _ _⟩
  · have H := Lib.hid (show parseL (D) = (0, 6) by
      rw [parseL, hBody, if_neg]
      simp only [okL, Bool.and_eq_true, decide_eq_true_eq]
      exact fun h => hlen h.1)
    have hlen' : ((D).length : Int) < 1 ∨ 30 < ((D).length : Int) := by omega
    clear hlen hBody hNeg hl
    try simp only [List.length_cons] at hlen'
    rcases hlen' with h | h
    · go_enter Tryz.func75, Tryz.ntmps75
      go_wp2_with fail
      go_ret2
      exact ⟨by rw [H.out]; rfl, Below.refl _ _⟩
    · have h' : ¬ ((D).length : Int) < 1 := by simp; omega
      try simp only [List.length_cons] at h'
      go_enter Tryz.func75, Tryz.ntmps75
      go_wp2_with fail
      go_ret2
      exact ⟨by rw [H.out]; rfl, Below.refl _ _⟩

theorem refparse_any (s : ByteArray) (w : World) :
    Calls Tryz.prog 75 #[.string s] w fun e w' => e = .returned (refV (parseL s.data.toList)) ∧ Below w.heap.size w w' := by
  obtain ⟨⟨l⟩⟩ := s
  rw [show (ByteArray.mk ⟨l⟩).data.toList = l from rfl]
  rcases l with _ | ⟨c, r⟩
  · have H := Lib.hid (show parseL [] = (0, 6) from rfl)
    go_enter Tryz.func75, Tryz.ntmps75
    go_wp2_with fail
    go_ret2
    exact ⟨by rw [H.out]; rfl, Below.refl _ _⟩
  · by_cases h45 : c = 45
    · subst h45
      exact refparse_minus r w
    · by_cases h43 : c = 43
      · subst h43
        exact refparse_plus r w
      · exact refparse_none (c :: r) c (ba_zero c r) (by simp [bodyL, h45, h43]) (by simp [negL, h45]) (by simp) h45 h43 w
end Go.Proofs.YtneokkhnjnomdaaGreatDoor

/-! FT -/
namespace Go.Proofs.YtneokkhnjnomdaaGreatDoor
open Go.RowKit

/-- The table that strconv reads is as it was laid. -/
def Tab (w : World) : Prop := Lib.TabIs Tryz.prog w "internal/strconv.uint64pow10" .u64 Lib.pow10Tab

theorem tab_below {w w' : World} (h : Tab w) (hb : Below w.heap.size w w') : Tab w' := by
  unfold Tab Lib.TabIs World.var? at *
  cases hg : Tryz.prog.globalNamed "internal/strconv.uint64pow10" with
  | none => simp [hg] at h
  | some g =>
    simp only [hg, Option.bind_some] at h ⊢
    have hlt : g < w.heap.size := by
      rcases Nat.lt_or_ge g w.heap.size with h' | h'
      · exact h'
      · simp [Array.getElem?_eq_none h'] at h
    rw [hb.block g hlt]
    exact h

theorem text_any (n : Int) (w : World) (h0 : -9223372036854775808 ≤ n) (h1 : n ≤ 9223372036854775807) (htab : Tab w) :
    Calls Tryz.prog 65 #[.int .i64 n] w fun e w' => e = .returned (.string ⟨(Lib.itoa n).toArray⟩) ∧ Below w.heap.size w w' := by
  go_enter Tryz.func65, Tryz.ntmps65
  go_wp2_with fail
  refine (Tryz.strconv_Itoa n h0 h1 _ htab).mono ?_
  rintro e w' ⟨rfl, k, os, rfl⟩
  have hb := Lib.below_grow w.heap.size w (Nat.le_refl _) k os
  go_wp2_with fail
  go_ret
  exact ⟨rfl, hb⟩
end Go.Proofs.YtneokkhnjnomdaaGreatDoor

/-! FU -/
namespace Go.Proofs.YtneokkhnjnomdaaGreatDoor
open Go.RowKit

theorem dec_small {u : Nat} (h : u < 10) : Lib.decDigits u = [UInt8.ofNat (48 + u)] := by rw [Lib.decDigits, dif_pos h]
theorem dec_big {u : Nat} (h : ¬ u < 10) : Lib.decDigits u = Lib.decDigits (u / 10) ++ [UInt8.ofNat (48 + u % 10)] := by rw [Lib.decDigits, dif_neg h]

/-- A string of one byte, out of the newest block. -/
theorem one_string (w : World) (c : Int) (h0 : 0 ≤ c) (h1 : c < 256) :
    (convert 115 9 (.slice (some ⟨w.heap.size, 0, none⟩) 1 1)).run Tryz.prog (w.alloc (.cells #[.int .u8 c] 5)) = .ok (.string ⟨#[UInt8.ofNat c.toNat]⟩) (w.alloc (.cells #[.int .u8 c] 5)) := by
  have hc : ((UInt8.ofNat c.toNat).toNat : Int) = c := by
    simp [UInt8.toNat_ofNat']
    omega
  refine run_convert_bytes_back (w.alloc (.cells #[.int .u8 c] 5)) 115 9 5 ⟨w.heap.size, 0, none⟩ 1 [UInt8.ofNat c.toNat] Tryz.underlying115 Tryz.underlying5 Tryz.underlying9 ?_
  intro j hj
  obtain rfl : j = 0 := by simpa using hj
  rw [news_new w [.int .u8 c] 5 w.heap.size rfl 0 (.int .u8 c) rfl]
  simp only [List.getElem_cons_zero, hc]

theorem mk_cons (c : UInt8) (t : List UInt8) : (⟨#[c]⟩ : ByteArray) ++ ⟨t.toArray⟩ = ⟨(c :: t).toArray⟩ := by
  apply ByteArray.ext
  rw [ByteArray.data_append]
  simp

set_option maxRecDepth 16000 in
theorem reftext_any (n : Int) (w : World) (h0 : -9223372036854775808 ≤ n) (h1 : n ≤ 9223372036854775807) :
    Calls Tryz.prog 74 #[.int .i64 n] w fun e w' => e = .returned (.string ⟨(Lib.itoa n).toArray⟩) ∧ Below w.heap.size w w' := by
  obtain ⟨W, rfl⟩ : ∃ W : World, W = w := ⟨w, rfl⟩
  have hlen := Lib.itoa_length_le n h0 h1
  have HI : Hid (Lib.itoa n = if n < 0 then 45 :: Lib.decDigits n.natAbs else Lib.decDigits n.toNat) := rfl
  by_cases hn : n < 0
  · obtain ⟨u, hu⟩ : ∃ u : Nat, u = n.natAbs := ⟨_, rfl⟩
    have wn : IntKind.u64.wrap (-IntKind.u64.wrap n) = (u : Int) := by rw [u64w, u64w]; omega
    have hd : (Lib.decDigits u).length ≤ 20 := by
      have := HI.out
      rw [if_pos hn, ← hu] at this
      rw [this] at hlen
      simp at hlen
      omega
    have HI2 : Hid (Lib.itoa n = 45 :: Lib.decDigits u) := by rw [Hid, HI.out, if_pos hn, ← hu]
    have hu' : u ≤ 9223372036854775808 := by omega
    clear hu
    go_enter Tryz.func74, Tryz.ntmps74
    go_wp2_with fail
    go_loopw [3, 4] (fun x s wr => ∃ (y : Nat) (t : List UInt8), x = .int .u64 y ∧ s = .string ⟨t.toArray⟩ ∧ y ≤ 9223372036854775808 ∧ Below W.heap.size W wr ∧ Hid (Lib.decDigits u = Lib.decDigits y ++ t)) (fun x _ _ => (intOf x).toNat)
    case atStart => exact ⟨u, [], rfl, rfl, by omega, Below.refl _ _, by simp [Hid]⟩
    case round =>
      obtain ⟨y, t, rfl, rfl, hy, hb, H⟩ := hrel
      have ht : t.length ≤ 21 := by
        have := congrArg List.length H.out
        rw [List.length_append] at this
        omega
      have hcs := one_string wr (48 + (y : Int) % 10) (by omega) (by omega)
      have hcn : (48 + (y : Int) % 10).toNat = 48 + y % 10 := by omega
      rw [hcn] at hcs
      have hbs := hb.size
      have HAP : Hid (({ data := #[48 + UInt8.ofNat (y % 10)] } : ByteArray) ++ { data := t.toArray } = ⟨(UInt8.ofNat (48 + y % 10) :: t).toArray⟩) := by
        rw [Hid, ← mk_cons, UInt8.ofNat_add]; rfl
      by_cases hy10 : y < 10
      · have HD := Lib.hid (show Lib.decDigits u = UInt8.ofNat (48 + y % 10) :: t by rw [H.out, dec_small hy10, Nat.mod_eq_of_lt hy10]; rfl)
        have hq : (y : Int) / 10 = 0 := by omega
        go_wp2_with fail
        go_ret
        exact ⟨by rw [HI2.out, HD.out, ← mk_cons 45 (_ :: _), ← HAP.out]; rfl, hb.alloc hbs _⟩
      · have HD : Hid (Lib.decDigits u = Lib.decDigits (y / 10) ++ (UInt8.ofNat (48 + y % 10) :: t)) := by rw [Hid, H.out, dec_big hy10]; simp
        have hq : ((y : Int) / 10 == 0) = false := by simp; omega
        go_wp2_with fail
        go_roundw
        case rel => exact ⟨y / 10, _, by go_num, by rw [HAP.out], by omega, hb.alloc hbs _, HD⟩
        case measure => simp [intOf]; omega
  · obtain ⟨u, hu⟩ : ∃ u : Nat, n = u := ⟨n.toNat, by omega⟩
    subst hu
    have hd : (Lib.decDigits u).length ≤ 21 := by
      have := HI.out
      rw [if_neg hn, Int.toNat_natCast] at this
      rw [this] at hlen
      exact hlen
    have HI2 : Hid (Lib.itoa u = Lib.decDigits u) := by rw [Hid, HI.out, if_neg hn, Int.toNat_natCast]
    go_enter Tryz.func74, Tryz.ntmps74
    go_wp2_with fail
    go_loopw [3, 4] (fun x s wr => ∃ (y : Nat) (t : List UInt8), x = .int .u64 y ∧ s = .string ⟨t.toArray⟩ ∧ y ≤ 9223372036854775808 ∧ Below W.heap.size W wr ∧ Hid (Lib.decDigits u = Lib.decDigits y ++ t)) (fun x _ _ => (intOf x).toNat)
    case atStart => exact ⟨u, [], rfl, rfl, by omega, Below.refl _ _, by simp [Hid]⟩
    case round =>
      obtain ⟨y, t, rfl, rfl, hy, hb, H⟩ := hrel
      have ht : t.length ≤ 21 := by
        have := congrArg List.length H.out
        rw [List.length_append] at this
        omega
      have hcs := one_string wr (48 + (y : Int) % 10) (by omega) (by omega)
      have hcn : (48 + (y : Int) % 10).toNat = 48 + y % 10 := by omega
      rw [hcn] at hcs
      have hbs := hb.size
      have HAP : Hid (({ data := #[48 + UInt8.ofNat (y % 10)] } : ByteArray) ++ { data := t.toArray } = ⟨(UInt8.ofNat (48 + y % 10) :: t).toArray⟩) := by
        rw [Hid, ← mk_cons, UInt8.ofNat_add]; rfl
      by_cases hy10 : y < 10
      · have HD := Lib.hid (show Lib.decDigits u = UInt8.ofNat (48 + y % 10) :: t by rw [H.out, dec_small hy10, Nat.mod_eq_of_lt hy10]; rfl)
        have hq : (y : Int) / 10 = 0 := by omega
        go_wp2_with fail
        go_ret
        exact ⟨by rw [HI2.out, HD.out, ← HAP.out]; rfl, hb.alloc hbs _⟩
      · have HD : Hid (Lib.decDigits u = Lib.decDigits (y / 10) ++ (UInt8.ofNat (48 + y % 10) :: t)) := by rw [Hid, H.out, dec_big hy10]; simp
        have hq : ((y : Int) / 10 == 0) = false := by simp; omega
        go_wp2_with fail
        go_roundw
        case rel => exact ⟨y / 10, _, by go_num, by rw [HAP.out], by omega, hb.alloc hbs _, HD⟩
        case measure => simp [intOf]; omega
end Go.Proofs.YtneokkhnjnomdaaGreatDoor

/-! FI -/
namespace Go.Proofs.YtneokkhnjnomdaaGreatDoor
open Go.RowKit

end Go.Proofs.YtneokkhnjnomdaaGreatDoor

/-! LxA -/
namespace Go.Proofs.YtneokkhnjnomdaaGreatDoor
open Go.RowKit

/-- A byte that no name has. -/
def markB (c : UInt8) : Bool := decide (0 ≤ Lib.indexByte [40, 41, 34, 59, 39, 44, 96, 35] c)
def symCh (c : UInt8) : Bool := decide (33 ≤ c.toNat) && decide (c.toNat ≤ 126) && !markB c
def symL (s : List UInt8) : Bool := decide (1 ≤ s.length) && decide (s.length ≤ 60) && !(s == [46]) && !okL (bodyL s) && s.all symCh

theorem fitL_code (n : Int) : (fitL n).2 = 0 ∨ (fitL n).2 = 11 := by unfold fitL; split <;> simp

theorem digits_any (s : ByteArray) (w : World) :
    Calls Tryz.prog 84 #[.string s] w fun e w' => e = .returned (.bool (okL (bodyL s.data.toList))) ∧ Below w.heap.size w w' := by
  obtain ⟨W, rfl⟩ : ∃ W : World, W = w := ⟨w, rfl⟩
  have cP := Lib.hid (parse_any s W)
  have hp : parseL s.data.toList = parseL s.data.toList := rfl
  have hok : (okL (bodyL s.data.toList) = true ∧ ((parseL s.data.toList).2 = 0 ∨ (parseL s.data.toList).2 = 11)) ∨ (okL (bodyL s.data.toList) = false ∧ (parseL s.data.toList).2 = 6) := by
    cases h : okL (bodyL s.data.toList)
    · exact .inr ⟨rfl, by rw [parseL, h]; rfl⟩
    · exact .inl ⟨rfl, by rw [parseL, h]; exact fitL_code _⟩
  clear hp
  generalize okL (bodyL s.data.toList) = ok at hok ⊢
  generalize parseL s.data.toList = x at hok cP
  obtain ⟨n, k⟩ := x
  simp only at hok
  rw [resV] at cP
  have h3 : (ok = true ∧ k = 0) ∨ (ok = true ∧ k = 11) ∨ (ok = false ∧ k = 6) := by
    rcases hok with ⟨h, h0 | h1⟩ | ⟨h, h6⟩
    · exact .inl ⟨h, h0⟩
    · exact .inr (.inl ⟨h, h1⟩)
    · exact .inr (.inr ⟨h, h6⟩)
  clear hok
  rcases h3 with ⟨rfl, rfl⟩ | ⟨rfl, rfl⟩ | ⟨rfl, rfl⟩
  · have e0 : errV 0 = .nilIface := rfl
    rw [e0] at cP
    go_enter Tryz.func84, Tryz.ntmps84
    go_wp2_with fail
    refine cP.out.mono ?_
    rintro e w' ⟨rfl, hb⟩
    go_wp2_with fail
    go_ret
    exact ⟨rfl, hb⟩
  all_goals
    have e0 : errV 11 = kindV 11 := rfl
    have e6 : errV 6 = kindV 6 := rfl
    (try rw [e0] at cP); (try rw [e6] at cP)
    clear e0 e6
    go_enter Tryz.func84, Tryz.ntmps84
    go_wp2_with fail
    refine cP.out.mono ?_
    rintro e w' ⟨rfl, hb⟩
    go_wp2_with fail
    refine (is_kind _ _ _).mono ?_
    rintro e w'' ⟨rfl, rfl⟩
    go_wp2_with fail
    go_ret
    exact ⟨rfl, hb⟩

theorem indexbyte_any (s : ByteArray) (c : Int) (w : World) :
    Calls Tryz.prog 85 #[.string s, .int .u8 c] w fun e w' => e = .returned (.int .i64 (Lib.indexByte s.data.toList c.toNat.toUInt8)) ∧ w' = w := Tryz.strings_IndexByte s c w
end Go.Proofs.YtneokkhnjnomdaaGreatDoor

/-! LxB -/
namespace Go.Proofs.YtneokkhnjnomdaaGreatDoor
open Go.RowKit

/-- The newest block's bytes, one by one. -/
theorem bytes_at (W : World) (s : ByteArray) (j : Nat) (hj : j < s.data.toList.length) : (Lib.bytesWorld W 5 s).cell? ⟨W.heap.size, j, none⟩ = some (.int .u8 (s.data.toList[j].toNat : Int)) := by
  rw [Lib.bytesWorld_cell W 5 s j (by simpa using hj)]
  simp [List.getD, List.getElem?_eq_getElem hj]

theorem sym_short (s : ByteArray) (h : s.data.toList = []) (W : World) :
    Calls Tryz.prog 67 #[.string s] W fun e w' => e = .returned (.bool false) ∧ Below W.heap.size W w' := by
  obtain rfl : s = ⟨#[]⟩ := by apply ByteArray.ext; simpa using h
  go_enter Tryz.func67, Tryz.ntmps67
  go_wp2_with fail
  go_ret
  exact ⟨rfl, Below.refl _ _⟩

theorem sym_dot (W : World) :
    Calls Tryz.prog 67 #[.string ⟨#[46]⟩] W fun e w' => e = .returned (.bool false) ∧ Below W.heap.size W w' := by
  go_enter Tryz.func67, Tryz.ntmps67
  go_wp2_with fail
  go_ret
  exact ⟨rfl, Below.refl _ _⟩

set_option maxRecDepth 16000 in
theorem sym_long (s : ByteArray) (h : 60 < s.data.toList.length) (W : World) :
    Calls Tryz.prog 67 #[.string s] W fun e w' => e = .returned (.bool false) ∧ Below W.heap.size W w' := by
  have h0 : ¬ s.toList = [] := by
    rw [ByteArray.toList_eq]
    intro e
    rw [e] at h
    simp at h
  have h2 : s.size = s.data.toList.length := by simp
  have h1 : (60 : Int) < s.size := by omega
  clear h h2
  go_enter Tryz.func67, Tryz.ntmps67
  go_wp2_with fail
  go_ret
  exact ⟨rfl, Below.refl _ _⟩

set_option maxRecDepth 16000 in
theorem sym_digits (s : ByteArray) (h0 : s.data.toList ≠ []) (h1 : s.data.toList.length ≤ 60) (h2 : s.data.toList ≠ [46]) (hd : okL (bodyL s.data.toList) = true) (W : World) :
    Calls Tryz.prog 67 #[.string s] W fun e w' => e = .returned (.bool false) ∧ Below W.heap.size W w' := by
  have g0 : ¬ s.toList = [] := by rw [ByteArray.toList_eq]; exact h0
  have g00 : s.toList.isEmpty = false := by simpa using g0
  have g2 : ¬ s.toList = [46] := by rw [ByteArray.toList_eq]; exact h2
  have g22 : (s.toList == [46]) = false := by simpa using g2
  have e2 : s.size = s.data.toList.length := by simp
  have g1 : ¬ (60 : Int) < s.size := by omega
  have g1' : (s.size : Int) ≤ 60 := by omega
  have cD := Lib.hid (digits_any s W)
  rw [hd] at cD
  clear e2 h0 h1 h2 hd
  go_enter Tryz.func67, Tryz.ntmps67
  go_wp2_with fail
  refine cD.out.mono ?_
  rintro e w' ⟨rfl, hb⟩
  go_wp2_with fail
  go_ret
  exact ⟨rfl, hb⟩

theorem take_all {l : List UInt8} {p : UInt8 → Bool} {k : Nat} (h : (l.take (k + 1)).all p = false) : l.all p = false := by
  rw [← Bool.not_eq_true] at h ⊢
  exact fun hh => h (all_take hh _)

set_option maxRecDepth 16000 in
theorem sym_bytes (s : ByteArray) (h0 : s.data.toList ≠ []) (h1 : s.data.toList.length ≤ 60) (h2 : s.data.toList ≠ [46]) (hd : okL (bodyL s.data.toList) = false) (W : World) :
    Calls Tryz.prog 67 #[.string s] W fun e w' => e = .returned (.bool (s.data.toList.all symCh)) ∧ Below W.heap.size W w' := by
  obtain ⟨R, hR⟩ : ∃ R, s.data.toList.all symCh = R := ⟨_, rfl⟩
  have HRR := Lib.hid hR
  rw [hR]
  clear hR
  have hcv := fun (w : World) (s : ByteArray) => Lib.run_convert_string_bytes w 9 115 5 s Tryz.underlying9 Tryz.underlying115 Tryz.underlying5
  have g0 : ¬ s.toList = [] := by rw [ByteArray.toList_eq]; exact h0
  have g00 : s.toList.isEmpty = false := by simpa using g0
  have g2 : ¬ s.toList = [46] := by rw [ByteArray.toList_eq]; exact h2
  have g22 : (s.toList == [46]) = false := by simpa using g2
  have e2 : s.size = s.data.toList.length := by simp
  have g1 : ¬ (60 : Int) < s.size := by omega
  have g1' : (s.size : Int) ≤ 60 := by omega
  have cD := Lib.hid (digits_any s W)
  rw [hd] at cD
  have HE2 := Lib.hid e2
  clear h0 h1 h2 hd e2
  go_enter Tryz.func67, Tryz.ntmps67
  go_wp2_with fail
  refine cD.out.mono ?_
  rintro e w' ⟨rfl, hb⟩
  go_wp2_with fail
  clear hcv
  have hcells := Lib.hid (bytes_at w' s)
  have hbl := below_trans hb (below_bytes (W := w') 5 s)
  generalize Lib.bytesWorld w' 5 s = w1 at hcells hbl ⊢
  have e2 := HE2.out
  clear HE2
  have hR := HRR.out
  clear HRR
  generalize hE : s.data.toList = E at hcells e2 hR
  clear hE
  have hEl : E.length ≤ s.size ∧ s.size ≤ E.length := by omega
  have HR := Lib.hid hR
  clear hR
  clear g0 g00 g2 g22 e2
  go_loop [23] (fun i => ∃ k : Nat, k ≤ E.length ∧ i = .int .i64 k ∧ (E.take k).all symCh = true) (fun i => E.length - (intOf i).toNat)
  case atStart => exact ⟨0, by omega, rfl, rfl⟩
  case round =>
    obtain ⟨k, hk, rfl, hall⟩ := hrel
    obtain ⟨hE1, hE2⟩ := hEl
    by_cases hlt : k < E.length
    · have hks : k < s.size := by omega
      have hks' : (k : Int) < s.size := by omega
      have htk := Lib.hid (List.take_succ_eq_append_getElem hlt)
      have hck := hcells.out k hlt
      generalize E[k] = x at htk hck
      have HN : Hid (symCh x = false → E.all symCh = false) := by
        intro hx
        refine take_all (k := k) ?_
        rw [htk.out, List.all_append]
        simp [hx]
      have HY : Hid (symCh x = true → (E.take (k + 1)).all symCh = true) := by
        intro hx
        rw [htk.out, List.all_append, hall]
        simp [hx]
      have hxx := Lib.hid (show symCh x = (decide (33 ≤ x.toNat) && decide (x.toNat ≤ 126) && !markB x) from rfl)
      have hx256 : x.toNat < 256 := x.toNat_lt
      have hmk : Hid (markB x = decide (0 ≤ Lib.indexByte [40, 41, 34, 59, 39, 44, 96, 35] x)) := rfl
      have hxu : ((x.toNat : Int).toNat.toUInt8) = x := by simp
      clear htk hall
      by_cases h33 : x.toNat < 33
      · have b1 : decide ((x.toNat : Int) < 33) = true := by simp; omega
        have hF := Lib.hid (HN.out (by rw [hxx.out]; simp; omega))
        clear HN HY hxx hmk hxu
        go_wp2_with fail
        go_ret
        exact ⟨by rw [← HR.out, hF.out]; rfl, hbl⟩
      · have b1 : decide ((x.toNat : Int) < 33) = false := by simp; omega
        by_cases h126 : 126 < x.toNat
        · have b2 : decide (126 < (x.toNat : Int)) = true := by simp; omega
          have hF := Lib.hid (HN.out (by rw [hxx.out]; simp; omega))
          clear HN HY hxx hmk hxu
          go_wp2_with fail
          go_ret
          exact ⟨by rw [← HR.out, hF.out]; rfl, hbl⟩
        · have b2 : decide (126 < (x.toNat : Int)) = false := by simp; omega
          have HS := Lib.hid (show symCh x = !decide (0 ≤ Lib.indexByte [40, 41, 34, 59, 39, 44, 96, 35] x) by rw [hxx.out, hmk.out]; simp; omega)
          have cI := Lib.hid (indexbyte_any ⟨#[40, 41, 34, 59, 39, 44, 96, 35]⟩ (x.toNat : Int) w1)
          rw [hxu] at cI
          have cI2 : Hid (Calls Tryz.prog 85 #[.string ⟨#[40, 41, 34, 59, 39, 44, 96, 35]⟩, .int .u8 x.toNat] w1 fun e w' => e = .returned (.int .i64 (Lib.indexByte [40, 41, 34, 59, 39, 44, 96, 35] x)) ∧ w' = w1) := cI
          clear cI hxx hmk hxu
          generalize Lib.indexByte [40, 41, 34, 59, 39, 44, 96, 35] x = q at HS cI2
          by_cases hq : 0 ≤ q
          · have hF := Lib.hid (HN.out (by rw [HS.out]; simp [hq]))
            clear HN HY HS
            go_wp2_with fail
            refine cI2.out.mono ?_
            rintro e w' ⟨rfl, rfl⟩
            go_wp2_with fail
            go_ret
            exact ⟨by rw [← HR.out, hF.out]; rfl, hbl⟩
          · have hF := Lib.hid (HY.out (by rw [HS.out]; simp [hq]))
            clear HN HY HS
            go_wp2_with fail
            refine cI2.out.mono ?_
            rintro e w' ⟨rfl, rfl⟩
            go_wp2_with fail
            go_round
            case rel => exact ⟨k + 1, by omega, by go_num, hF.out⟩
            case measure => simp [intOf]; omega
    · obtain rfl : k = E.length := by omega
      rw [List.take_length] at hall
      have HA := Lib.hid hall
      have hge : ¬ (E.length : Int) < (s.size : Int) := by omega
      clear hall
      go_wp2_with fail
      go_ret
      exact ⟨by rw [← HR.out, HA.out]; rfl, hbl⟩
end Go.Proofs.YtneokkhnjnomdaaGreatDoor

/-! LxC -/
namespace Go.Proofs.YtneokkhnjnomdaaGreatDoor
open Go.RowKit

theorem symL_cases (l : List UInt8) : (l = [] ∧ symL l = false) ∨ (60 < l.length ∧ symL l = false) ∨ (l = [46] ∧ symL l = false) ∨
    (l ≠ [] ∧ l.length ≤ 60 ∧ l ≠ [46] ∧ okL (bodyL l) = true ∧ symL l = false) ∨ (l ≠ [] ∧ l.length ≤ 60 ∧ l ≠ [46] ∧ okL (bodyL l) = false ∧ symL l = l.all symCh) := by
  by_cases h0 : l = []
  · subst h0; exact .inl ⟨rfl, rfl⟩
  · by_cases h1 : 60 < l.length
    · refine .inr (.inl ⟨h1, ?_⟩)
      have : decide (l.length ≤ 60) = false := by simp; omega
      simp [symL, this]
    · by_cases h2 : l = [46]
      · subst h2; exact .inr (.inr (.inl ⟨rfl, rfl⟩))
      · have e1 : decide (1 ≤ l.length) = true := by cases l with | nil => exact absurd rfl h0 | cons _ _ => simp
        have e2 : decide (l.length ≤ 60) = true := by simp; omega
        have e3 : (l == [46]) = false := by simpa using h2
        cases hk : okL (bodyL l)
        · exact .inr (.inr (.inr (.inr ⟨h0, by omega, h2, rfl, by simp only [symL, e1, e2, e3, hk]; rfl⟩)))
        · exact .inr (.inr (.inr (.inl ⟨h0, by omega, h2, rfl, by simp only [symL, e1, e2, e3, hk]; rfl⟩)))

theorem symbol_any (s : ByteArray) (W : World) :
    Calls Tryz.prog 67 #[.string s] W fun e w' => e = .returned (.bool (symL s.data.toList)) ∧ Below W.heap.size W w' := by
  rcases symL_cases s.data.toList with ⟨h, e⟩ | ⟨h, e⟩ | ⟨h, e⟩ | ⟨h0, h1, h2, h3, e⟩ | ⟨h0, h1, h2, h3, e⟩
  · rw [e]; exact sym_short s h W
  · rw [e]; exact sym_long s h W
  · rw [e]
    obtain rfl : s = ⟨#[46]⟩ := by apply ByteArray.ext; rw [← Array.toList_inj, h]
    exact sym_dot W
  · rw [e]; exact sym_digits s h0 h1 h2 h3 W
  · rw [e]; exact sym_bytes s h0 h1 h2 h3 W

theorem refdig_minus (D : List UInt8) (hs : D.length ≤ 4611686018427387904) (W : World) :
    Calls Tryz.prog 88 #[.string ⟨⟨45 :: D⟩⟩] W fun e w' => e = .returned (.bool (okL D)) ∧ w' = W := by
  have eb := ba_zero 45 D
  have hext : (⟨⟨45 :: D⟩⟩ : ByteArray).extract 1 (D.length + 1) = ⟨⟨D⟩⟩ := by
    rw [Lib.extract_eq]; simp
  go_enter Tryz.func88, Tryz.ntmps88
  go_wp2_with fail
  clear eb hext
  go_loop [3] (fun i => ∃ k : Nat, k ≤ D.length ∧ i = .int .i64 k ∧ (D.take k).all digB = true) (fun i => D.length - (intOf i).toNat)
  case atStart => exact ⟨0, by omega, rfl, rfl⟩
  case round =>
    obtain ⟨k, hk, rfl, hall⟩ := hrel
    by_cases hlt : k < D.length
    · have htk := Lib.hid (List.take_succ_eq_append_getElem hlt)
      obtain ⟨x, hx0⟩ : ∃ x, D[k] = x := ⟨_, rfl⟩
      have hbx : ∀ h : k < (⟨⟨D⟩⟩ : ByteArray).size, (⟨⟨D⟩⟩ : ByteArray)[k]'h = x := fun _ => hx0
      rw [hx0] at htk
      clear hx0
      have hx256 : x.toNat < 256 := x.toNat_lt
      by_cases hd : digB x = true
      · obtain ⟨d1, d2⟩ := digB_iff.1 hd
        have b1 : decide ((x.toNat : Int) < 48) = false := by simp; omega
        have b2 : decide (57 < (x.toNat : Int)) = false := by simp; omega
        have HALL := Lib.hid (show (D.take (k + 1)).all digB = true by rw [htk.out, List.all_append, hall]; simp [hd])
        clear htk hall hd
        go_wp2_with fail
        go_round
        case rel => exact ⟨k + 1, by omega, by go_num, HALL.out⟩
        case measure => simp [intOf]; omega
      · have hF := Lib.hid (show okL D = false by
          have : D.all digB = false := take_all (k := k) (by rw [htk.out, List.all_append]; simp [hd])
          rw [okL, this]; simp)
        have hx : x.toNat < 48 ∨ 57 < x.toNat := by
          rcases Nat.lt_or_ge x.toNat 48 with h | h
          · exact .inl h
          · rcases Nat.lt_or_ge 57 x.toNat with h' | h'
            · exact .inr h'
            · exact absurd (digB_iff.2 ⟨h, h'⟩) hd
        clear htk hd hall
        rcases hx with h | h
        · have b1 : decide ((x.toNat : Int) < 48) = true := by simp; omega
          go_wp2_with fail
          go_ret
          exact ⟨by rw [hF.out]; rfl, rfl⟩
        · have b1 : decide ((x.toNat : Int) < 48) = false := by simp; omega
          have b2 : decide (57 < (x.toNat : Int)) = true := by simp; omega
          go_wp2_with fail
          go_ret
          exact ⟨by rw [hF.out]; rfl, rfl⟩
    · obtain rfl : k = D.length := by omega
      rw [List.take_length] at hall
      have hF := Lib.hid (show okL D = (decide (1 ≤ D.length) && decide (D.length ≤ 30)) by rw [okL, hall, Bool.and_true])
      clear hall
      by_cases l1 : 1 ≤ D.length
      · by_cases l2 : D.length ≤ 30
        · have m1 : decide (1 ≤ (D.length : Int)) = true := by simp; omega
          have m2 : decide ((D.length : Int) ≤ 30) = true := by simp; omega
          have hG := Lib.hid (show okL D = true by rw [hF.out, decide_eq_true l1, decide_eq_true l2]; rfl)
          clear hF
          go_wp2_with fail
          go_ret
          exact ⟨by rw [hG.out]; first | rfl | simp [m1, m2] | simp; omega, rfl⟩
        · have m1 : decide (1 ≤ (D.length : Int)) = true := by simp; omega
          have m2 : decide ((D.length : Int) ≤ 30) = false := by simp; omega
          have hG := Lib.hid (show okL D = false by rw [hF.out, decide_eq_false l2]; simp)
          clear hF
          go_wp2_with fail
          go_ret
          exact ⟨by rw [hG.out]; first | rfl | simp [m1, m2] | simp; omega, rfl⟩
      · have m1 : decide (1 ≤ (D.length : Int)) = false := by simp; omega
        have hG := Lib.hid (show okL D = false by rw [hF.out, decide_eq_false l1]; rfl)
        clear hF
        go_wp2_with fail
        go_ret
        exact ⟨by rw [hG.out]; first | rfl | simp [m1] | simp; omega, rfl⟩

theorem refdig_plus (D : List UInt8) (hs : D.length ≤ 4611686018427387904) (W : World) :
    Calls Tryz.prog 88 #[.string ⟨⟨43 :: D⟩⟩] W fun e w' => e = .returned (.bool (okL D)) ∧ w' = W := by
  have eb := ba_zero 43 D
  have hext : (⟨⟨43 :: D⟩⟩ : ByteArray).extract 1 (D.length + 1) = ⟨⟨D⟩⟩ := by
    rw [Lib.extract_eq]; simp
  go_enter Tryz.func88, Tryz.ntmps88
  go_wp2_with fail
  clear eb hext
  go_loop [3] (fun i => ∃ k : Nat, k ≤ D.length ∧ i = .int .i64 k ∧ (D.take k).all digB = true) (fun i => D.length - (intOf i).toNat)
  case atStart => exact ⟨0, by omega, rfl, rfl⟩
  case round =>
    obtain ⟨k, hk, rfl, hall⟩ := hrel
    by_cases hlt : k < D.length
    · have htk := Lib.hid (List.take_succ_eq_append_getElem hlt)
      obtain ⟨x, hx0⟩ : ∃ x, D[k] = x := ⟨_, rfl⟩
      have hbx : ∀ h : k < (⟨⟨D⟩⟩ : ByteArray).size, (⟨⟨D⟩⟩ : ByteArray)[k]'h = x := fun _ => hx0
      rw [hx0] at htk
      clear hx0
      have hx256 : x.toNat < 256 := x.toNat_lt
      by_cases hd : digB x = true
      · obtain ⟨d1, d2⟩ := digB_iff.1 hd
        have b1 : decide ((x.toNat : Int) < 48) = false := by simp; omega
        have b2 : decide (57 < (x.toNat : Int)) = false := by simp; omega
        have HALL := Lib.hid (show (D.take (k + 1)).all digB = true by rw [htk.out, List.all_append, hall]; simp [hd])
        clear htk hall hd
        go_wp2_with fail
        go_round
        case rel => exact ⟨k + 1, by omega, by go_num, HALL.out⟩
        case measure => simp [intOf]; omega
      · have hF := Lib.hid (show okL D = false by
          have : D.all digB = false := take_all (k := k) (by rw [htk.out, List.all_append]; simp [hd])
          rw [okL, this]; simp)
        have hx : x.toNat < 48 ∨ 57 < x.toNat := by
          rcases Nat.lt_or_ge x.toNat 48 with h | h
          · exact .inl h
          · rcases Nat.lt_or_ge 57 x.toNat with h' | h'
            · exact .inr h'
            · exact absurd (digB_iff.2 ⟨h, h'⟩) hd
        clear htk hd hall
        rcases hx with h | h
        · have b1 : decide ((x.toNat : Int) < 48) = true := by simp; omega
          go_wp2_with fail
          go_ret
          exact ⟨by rw [hF.out]; rfl, rfl⟩
        · have b1 : decide ((x.toNat : Int) < 48) = false := by simp; omega
          have b2 : decide (57 < (x.toNat : Int)) = true := by simp; omega
          go_wp2_with fail
          go_ret
          exact ⟨by rw [hF.out]; rfl, rfl⟩
    · obtain rfl : k = D.length := by omega
      rw [List.take_length] at hall
      have hF := Lib.hid (show okL D = (decide (1 ≤ D.length) && decide (D.length ≤ 30)) by rw [okL, hall, Bool.and_true])
      clear hall
      by_cases l1 : 1 ≤ D.length
      · by_cases l2 : D.length ≤ 30
        · have m1 : decide (1 ≤ (D.length : Int)) = true := by simp; omega
          have m2 : decide ((D.length : Int) ≤ 30) = true := by simp; omega
          have hG := Lib.hid (show okL D = true by rw [hF.out, decide_eq_true l1, decide_eq_true l2]; rfl)
          clear hF
          go_wp2_with fail
          go_ret
          exact ⟨by rw [hG.out]; first | rfl | simp [m1, m2] | simp; omega, rfl⟩
        · have m1 : decide (1 ≤ (D.length : Int)) = true := by simp; omega
          have m2 : decide ((D.length : Int) ≤ 30) = false := by simp; omega
          have hG := Lib.hid (show okL D = false by rw [hF.out, decide_eq_false l2]; simp)
          clear hF
          go_wp2_with fail
          go_ret
          exact ⟨by rw [hG.out]; first | rfl | simp [m1, m2] | simp; omega, rfl⟩
      · have m1 : decide (1 ≤ (D.length : Int)) = false := by simp; omega
        have hG := Lib.hid (show okL D = false by rw [hF.out, decide_eq_false l1]; rfl)
        clear hF
        go_wp2_with fail
        go_ret
        exact ⟨by rw [hG.out]; first | rfl | simp [m1] | simp; omega, rfl⟩

theorem refdig_none (c : UInt8) (r : List UInt8) (hc : ¬ c = 45) (hc' : ¬ c = 43) (hs : (c :: r).length ≤ 4611686018427387904) (W : World) :
    Calls Tryz.prog 88 #[.string ⟨⟨c :: r⟩⟩] W fun e w' => e = .returned (.bool (okL (c :: r))) ∧ w' = W := by
  have eb := ba_zero c r
  have g45 : ((c.toNat : Int) == 45) = false := (u8beq c 45).trans (by simpa using hc)
  have g43 : ((c.toNat : Int) == 43) = false := (u8beq c 43).trans (by simpa using hc')
  have hpos : 0 < (⟨⟨c :: r⟩⟩ : ByteArray).size := by show 0 < (c :: r).length; simp
  obtain ⟨D, hD⟩ : ∃ D, D = c :: r := ⟨_, rfl⟩
  have hDl : 0 < D.length := by rw [hD]; simp
  rw [← hD] at eb hs ⊢
  clear hD hpos
  go_enter Tryz.func88, Tryz.ntmps88
  go_wp2_with fail
  clear eb g45 g43 hDl
  go_loop [3] (fun i => ∃ k : Nat, k ≤ D.length ∧ i = .int .i64 k ∧ (D.take k).all digB = true) (fun i => D.length - (intOf i).toNat)
  case atStart => exact ⟨0, by omega, rfl, rfl⟩
  case round =>
    obtain ⟨k, hk, rfl, hall⟩ := hrel
    by_cases hlt : k < D.length
    · have htk := Lib.hid (List.take_succ_eq_append_getElem hlt)
      obtain ⟨x, hx0⟩ : ∃ x, D[k] = x := ⟨_, rfl⟩
      have hbx : ∀ h : k < (⟨⟨D⟩⟩ : ByteArray).size, (⟨⟨D⟩⟩ : ByteArray)[k]'h = x := fun _ => hx0
      rw [hx0] at htk
      clear hx0
      have hx256 : x.toNat < 256 := x.toNat_lt
      by_cases hd : digB x = true
      · obtain ⟨d1, d2⟩ := digB_iff.1 hd
        have b1 : decide ((x.toNat : Int) < 48) = false := by simp; omega
        have b2 : decide (57 < (x.toNat : Int)) = false := by simp; omega
        have HALL := Lib.hid (show (D.take (k + 1)).all digB = true by rw [htk.out, List.all_append, hall]; simp [hd])
        clear htk hall hd
        go_wp2_with fail
        go_round
        case rel => exact ⟨k + 1, by omega, by go_num, HALL.out⟩
        case measure => simp [intOf]; omega
      · have hF := Lib.hid (show okL D = false by
          have : D.all digB = false := take_all (k := k) (by rw [htk.out, List.all_append]; simp [hd])
          rw [okL, this]; simp)
        have hx : x.toNat < 48 ∨ 57 < x.toNat := by
          rcases Nat.lt_or_ge x.toNat 48 with h | h
          · exact .inl h
          · rcases Nat.lt_or_ge 57 x.toNat with h' | h'
            · exact .inr h'
            · exact absurd (digB_iff.2 ⟨h, h'⟩) hd
        clear htk hd hall
        rcases hx with h | h
        · have b1 : decide ((x.toNat : Int) < 48) = true := by simp; omega
          go_wp2_with fail
          go_ret
          exact ⟨by rw [hF.out]; rfl, rfl⟩
        · have b1 : decide ((x.toNat : Int) < 48) = false := by simp; omega
          have b2 : decide (57 < (x.toNat : Int)) = true := by simp; omega
          go_wp2_with fail
          go_ret
          exact ⟨by rw [hF.out]; rfl, rfl⟩
    · obtain rfl : k = D.length := by omega
      rw [List.take_length] at hall
      have hF := Lib.hid (show okL D = (decide (1 ≤ D.length) && decide (D.length ≤ 30)) by rw [okL, hall, Bool.and_true])
      clear hall
      by_cases l1 : 1 ≤ D.length
      · by_cases l2 : D.length ≤ 30
        · have m1 : decide (1 ≤ (D.length : Int)) = true := by simp; omega
          have m2 : decide ((D.length : Int) ≤ 30) = true := by simp; omega
          have hG := Lib.hid (show okL D = true by rw [hF.out, decide_eq_true l1, decide_eq_true l2]; rfl)
          clear hF
          go_wp2_with fail
          go_ret
          exact ⟨by rw [hG.out]; first | rfl | simp [m1, m2] | simp; omega, rfl⟩
        · have m1 : decide (1 ≤ (D.length : Int)) = true := by simp; omega
          have m2 : decide ((D.length : Int) ≤ 30) = false := by simp; omega
          have hG := Lib.hid (show okL D = false by rw [hF.out, decide_eq_false l2]; simp)
          clear hF
          go_wp2_with fail
          go_ret
          exact ⟨by rw [hG.out]; first | rfl | simp [m1, m2] | simp; omega, rfl⟩
      · have m1 : decide (1 ≤ (D.length : Int)) = false := by simp; omega
        have hG := Lib.hid (show okL D = false by rw [hF.out, decide_eq_false l1]; rfl)
        clear hF
        go_wp2_with fail
        go_ret
        exact ⟨by rw [hG.out]; first | rfl | simp [m1] | simp; omega, rfl⟩

theorem refdigits_any (s : ByteArray) (hs : s.data.toList.length ≤ 4611686018427387904) (W : World) :
    Calls Tryz.prog 88 #[.string s] W fun e w' => e = .returned (.bool (okL (bodyL s.data.toList))) ∧ w' = W := by
  obtain ⟨⟨l⟩⟩ := s
  rw [show (ByteArray.mk ⟨l⟩).data.toList = l from rfl] at hs ⊢
  rcases l with _ | ⟨c, r⟩
  · have H := Lib.hid (show okL (bodyL []) = false from rfl)
    go_enter Tryz.func88, Tryz.ntmps88
    go_wp2_with fail
    go_loop [3] (fun i => i = .int .i64 0) (fun _ => 0)
    case atStart => rfl
    case round =>
      subst hrel
      go_wp2_with fail
      go_ret
      exact ⟨by rw [H.out]; rfl, rfl⟩
  · by_cases h45 : c = 45
    · subst h45
      exact refdig_minus r (by simp at hs; omega) W
    · by_cases h43 : c = 43
      · subst h43
        exact refdig_plus r (by simp at hs; omega) W
      · have e : bodyL (c :: r) = c :: r := by simp [bodyL, h45, h43]
        rw [e]
        exact refdig_none c r h45 h43 hs W
end Go.Proofs.YtneokkhnjnomdaaGreatDoor

/-! LxD -/
namespace Go.Proofs.YtneokkhnjnomdaaGreatDoor
open Go.RowKit

theorem mark_eq (x : UInt8) : markB x = (x == 40 || x == 41 || x == 34 || x == 59 || x == 39 || x == 44 || x == 96 || x == 35) := by
  by_cases h0 : x = 40; · subst h0; rfl
  by_cases h1 : x = 41; · subst h1; rfl
  by_cases h2 : x = 34; · subst h2; rfl
  by_cases h3 : x = 59; · subst h3; rfl
  by_cases h4 : x = 39; · subst h4; rfl
  by_cases h5 : x = 44; · subst h5; rfl
  by_cases h6 : x = 96; · subst h6; rfl
  by_cases h7 : x = 35; · subst h7; rfl
  have e0 : (40 == x) = false := by simpa using Ne.symm h0
  have e1 : (41 == x) = false := by simpa using Ne.symm h1
  have e2 : (34 == x) = false := by simpa using Ne.symm h2
  have e3 : (59 == x) = false := by simpa using Ne.symm h3
  have e4 : (39 == x) = false := by simpa using Ne.symm h4
  have e5 : (44 == x) = false := by simpa using Ne.symm h5
  have e6 : (96 == x) = false := by simpa using Ne.symm h6
  have e7 : (35 == x) = false := by simpa using Ne.symm h7
  simp only [markB, Lib.indexByte, e0, e1, e2, e3, e4, e5, e6, e7]
  simp [h0, h1, h2, h3, h4, h5, h6, h7]

theorem sym_yes {x : UInt8} (h : symCh x = true) : 33 ≤ x.toNat ∧ x.toNat ≤ 126 ∧ ((x.toNat : Int) == 40) = false ∧ ((x.toNat : Int) == 41) = false ∧ ((x.toNat : Int) == 34) = false ∧ ((x.toNat : Int) == 59) = false ∧
    ((x.toNat : Int) == 39) = false ∧ ((x.toNat : Int) == 44) = false ∧ ((x.toNat : Int) == 96) = false ∧ ((x.toNat : Int) == 35) = false := by
  rw [symCh, mark_eq] at h
  simp only [Bool.and_eq_true, decide_eq_true_eq, Bool.not_eq_true', Bool.or_eq_false_iff] at h
  obtain ⟨⟨h1, h2⟩, ⟨⟨⟨⟨⟨⟨⟨n0, n1⟩, n2⟩, n3⟩, n4⟩, n5⟩, n6⟩, n7⟩⟩ := h
  exact ⟨h1, h2, (u8beq x 40).trans n0, (u8beq x 41).trans n1, (u8beq x 34).trans n2, (u8beq x 59).trans n3, (u8beq x 39).trans n4, (u8beq x 44).trans n5, (u8beq x 96).trans n6, (u8beq x 35).trans n7⟩

theorem sym_no {x : UInt8} (h : symCh x = false) : x.toNat < 33 ∨ 126 < x.toNat ∨ x = 40 ∨ x = 41 ∨ x = 34 ∨ x = 59 ∨ x = 39 ∨ x = 44 ∨ x = 96 ∨ x = 35 := by
  by_cases h1 : x.toNat < 33
  · exact .inl h1
  by_cases h2 : 126 < x.toNat
  · exact .inr (.inl h2)
  rw [symCh, mark_eq, decide_eq_true (by omega : 33 ≤ x.toNat), decide_eq_true (by omega : x.toNat ≤ 126)] at h
  simp only [Bool.true_and, Bool.not_eq_false', Bool.or_eq_true, beq_iff_eq] at h
  rcases h with ((((((h | h) | h) | h) | h) | h) | h) | h <;> subst h <;> simp

set_option maxRecDepth 16000 in
theorem refsym_bytes (s : ByteArray) (h0 : s.data.toList ≠ []) (h1 : s.data.toList.length ≤ 60) (h2 : s.data.toList ≠ [46]) (hd : okL (bodyL s.data.toList) = false) (W : World) :
    Calls Tryz.prog 76 #[.string s] W fun e w' => e = .returned (.bool (s.data.toList.all symCh)) ∧ w' = W := by
  obtain ⟨R, hR⟩ : ∃ R, s.data.toList.all symCh = R := ⟨_, rfl⟩
  have HRR := Lib.hid hR
  rw [hR]
  clear hR
  have g0 : ¬ s.toList = [] := by rw [ByteArray.toList_eq]; exact h0
  have g2 : ¬ s.toList = [46] := by rw [ByteArray.toList_eq]; exact h2
  have g22 : (s.toList == [46]) = false := by simpa using g2
  have e2 : s.size = s.data.toList.length := by simp
  have hpos : s.data.toList.length ≠ 0 := fun e => h0 (List.length_eq_zero_iff.1 e)
  have g1 : ¬ (60 : Int) < s.size := by omega
  have g3 : ¬ (s.size : Int) < 1 := by omega
  have g1' : (s.size : Int) ≤ 60 := by omega
  have g11 : decide ((60 : Int) < s.size) = false := decide_eq_false g1
  have g33 : decide ((s.size : Int) < 1) = false := decide_eq_false g3
  have cD := Lib.hid (refdigits_any s (by omega) W)
  rw [hd] at cD
  have HE2 := Lib.hid e2
  clear h0 h1 h2 hd e2 hpos
  go_enter Tryz.func76, Tryz.ntmps76
  go_wp2_with fail
  refine cD.out.mono ?_
  rintro e w' ⟨rfl, rfl⟩
  go_wp2_with fail
  clear g0 g2 g22 cD g1 g3 g11 g33
  have e2 := HE2.out
  have hR := HRR.out
  clear HE2 HRR
  obtain ⟨⟨E⟩⟩ := s
  rw [show (ByteArray.mk ⟨E⟩).data.toList = E from rfl] at e2 hR
  have hEl : E.length ≤ (⟨⟨E⟩⟩ : ByteArray).size ∧ (⟨⟨E⟩⟩ : ByteArray).size ≤ E.length := by omega
  have hE60 : E.length ≤ 60 := by omega
  have HR := Lib.hid hR
  clear hR e2
  go_loop [3] (fun i => ∃ k : Nat, k ≤ E.length ∧ i = .int .i64 k ∧ (E.take k).all symCh = true) (fun i => E.length - (intOf i).toNat)
  case atStart => exact ⟨0, by omega, rfl, rfl⟩
  case round =>
    obtain ⟨k, hk, rfl, hall⟩ := hrel
    obtain ⟨hE1, hE2⟩ := hEl
    by_cases hlt : k < E.length
    · have hks : k < (⟨⟨E⟩⟩ : ByteArray).size := by omega
      have hks' : (k : Int) < ((⟨⟨E⟩⟩ : ByteArray).size : Nat) := by omega
      have htk := Lib.hid (List.take_succ_eq_append_getElem hlt)
      obtain ⟨x, hx0⟩ : ∃ x, E[k] = x := ⟨_, rfl⟩
      have hbx : ∀ h : k < (⟨⟨E⟩⟩ : ByteArray).size, (⟨⟨E⟩⟩ : ByteArray)[k]'h = x := fun _ => hx0
      rw [hx0] at htk
      clear hx0
      have hx256 : x.toNat < 256 := x.toNat_lt
      cases hx : symCh x
      · have hF := Lib.hid (show E.all symCh = false from take_all (k := k) (by rw [htk.out, List.all_append]; simp [hx]))
        have hno := sym_no hx
        clear htk hall hx
        rcases hno with h | h | h | h | h | h | h | h | h | h
        · have b1 : decide ((x.toNat : Int) < 33) = true := by simp; omega
          go_wp2_with fail
          go_ret
          exact ⟨by rw [← HR.out, hF.out]; rfl, rfl⟩
        · have b1 : decide ((x.toNat : Int) < 33) = false := by simp; omega
          have b2 : decide (126 < (x.toNat : Int)) = true := by simp; omega
          go_wp2_with fail
          go_ret
          exact ⟨by rw [← HR.out, hF.out]; rfl, rfl⟩
        all_goals
          subst h
          go_wp2_with fail
          go_ret
          exact ⟨by rw [← HR.out, hF.out]; rfl, rfl⟩
      · have HALL := Lib.hid (show (E.take (k + 1)).all symCh = true by rw [htk.out, List.all_append, hall]; simp [hx])
        obtain ⟨h1, h2, n0, n1, n2, n3, n4, n5, n6, n7⟩ := sym_yes hx
        have b1 : decide ((x.toNat : Int) < 33) = false := by simp; omega
        have b2 : decide (126 < (x.toNat : Int)) = false := by simp; omega
        clear htk hall hx
        go_wp2_with fail
        go_round
        case rel => exact ⟨k + 1, by omega, by go_num, HALL.out⟩
        case measure => simp [intOf]; omega
    · obtain rfl : k = E.length := by omega
      rw [List.take_length] at hall
      have HA := Lib.hid hall
      have hge : ¬ (E.length : Int) < ((⟨⟨E⟩⟩ : ByteArray).size : Nat) := by omega
      clear hall
      go_wp2_with fail
      go_ret
      exact ⟨by rw [← HR.out, HA.out]; rfl, rfl⟩

theorem refsymbol_any (s : ByteArray) (W : World) :
    Calls Tryz.prog 76 #[.string s] W fun e w' => e = .returned (.bool (symL s.data.toList)) ∧ w' = W := by
  have e2 : s.size = s.data.toList.length := by simp
  rcases symL_cases s.data.toList with ⟨h, e⟩ | ⟨h, e⟩ | ⟨h, e⟩ | ⟨h0, h1, h2, h3, e⟩ | ⟨h0, h1, h2, h3, e⟩
  · rw [e]
    obtain rfl : s = ⟨#[]⟩ := by apply ByteArray.ext; simpa using h
    clear e h e2
    go_enter Tryz.func76, Tryz.ntmps76
    go_wp2_with fail
    go_ret
    exact ⟨rfl, rfl⟩
  · rw [e]
    have h1 : (60 : Int) < s.size := by omega
    have h0 : ¬ (s.size : Int) < 1 := by omega
    clear h e e2
    go_enter Tryz.func76, Tryz.ntmps76
    go_wp2_with fail
    go_ret
    exact ⟨rfl, rfl⟩
  · rw [e]
    obtain rfl : s = ⟨#[46]⟩ := by apply ByteArray.ext; rw [← Array.toList_inj, h]
    clear e h e2
    go_enter Tryz.func76, Tryz.ntmps76
    go_wp2_with fail
    go_ret
    exact ⟨rfl, rfl⟩
  · rw [e]
    have g2 : ¬ s.toList = [46] := by rw [ByteArray.toList_eq]; exact h2
    have g22 : (s.toList == [46]) = false := by simpa using g2
    have hpos : s.data.toList.length ≠ 0 := fun e => h0 (List.length_eq_zero_iff.1 e)
    have g11 : decide ((60 : Int) < s.size) = false := decide_eq_false (by omega)
    have g33 : decide ((s.size : Int) < 1) = false := decide_eq_false (by omega)
    have g1 : ¬ (60 : Int) < s.size := by omega
    have g3 : ¬ (s.size : Int) < 1 := by omega
    have cD := Lib.hid (refdigits_any s (by omega) W)
    rw [h3] at cD
    clear h0 h1 h2 h3 e e2 hpos
    go_enter Tryz.func76, Tryz.ntmps76
    go_wp2_with fail
    refine cD.out.mono ?_
    rintro e w' ⟨rfl, rfl⟩
    go_wp2_with fail
    go_ret
    exact ⟨rfl, rfl⟩
  · rw [e]; exact refsym_bytes s h0 h1 h2 h3 W
end Go.Proofs.YtneokkhnjnomdaaGreatDoor

/-! PShx0 -/
-- PRINTED by print.py (a twelfth state) out of the translation. Not trusted: Lean checks it.
namespace Go.Proofs.YtneokkhnjnomdaaGreatDoor.PSh
open Go.RowKit Go.Proofs.YtneokkhnjnomdaaGreatDoorW.PrintWords Go.Proofs.YtneokkhnjnomdaaGreatDoorW.PrintLast Go.Proofs.YtneokkhnjnomdaaGreatDoorW.PrintMore
attribute [local go_sem] max2_int min2_int max_two min_two max_three min_three max_four min_four   -- for this text's walks alone
set_option linter.unusedVariables false
set_option linter.unusedSimpArgs false



def errW : Option Int → Value
  | none => .nilIface
  | some c => .iface 0 (.int .i64 c)
theorem errW_none : errW none = .nilIface := rfl
theorem errW_some (c : Int) : errW (some c) = .iface 0 (.int .i64 c) := rfl

theorem info26 : (Tryz.prog.info? 26).map (fun i => (i.zero, i.size, i.bytes)) = some (some (.agg #[(.int .i64 0), (.int .i64 0), (.string ⟨#[]⟩), (.slice none 0 0)]), 4, 56) := by kernel_rfl
-- the values' own types
/-! #### struct type 26, nested in itself -/
structure S26 where
  f0 : Int
  f1 : Int
  f2 : ByteArray
  f3 : (List S26)
def z26 : S26 := ⟨(0 : Int), (0 : Int), (⟨#[]⟩ : ByteArray), ([] : List S26)⟩
def F26 (d : Kd S26) : Kd S26 := Kd.iso (Kd.pair (Kd.int .i64) (Kd.pair (Kd.int .i64) (Kd.pair Kd.string (Kd.slice 26 d)))) (fun x : S26 => (x.f0, x.f1, x.f2, x.f3))
theorem mono26 : Kd.Mono F26 := Kd.mono_iso _ (Kd.mono_pair (Kd.mono_const _) (Kd.mono_pair (Kd.mono_const _) (Kd.mono_pair (Kd.mono_const _) (Kd.mono_slice 26 Kd.mono_id))))
theorem sub26 : Kd.Sub F26 [26] := Kd.sub_iso _ (Kd.sub_pair (Kd.sub_const _ (by decide)) (Kd.sub_pair (Kd.sub_const _ (by decide)) (Kd.sub_pair (Kd.sub_const _ (by decide)) (Kd.sub_slice 26 (by decide) Kd.sub_id))))
theorem sz26 : ∀ n, (Kd.upto F26 4 [26] n).sz = 4 := Kd.upto_sz (fun _ => rfl)
def k26 : Kd S26 := Kd.fix F26 4 [26] sz26 (Kd.upto_E sub26)
theorem k26_open {w : World} {x : S26} {cs : List Value} (h : k26.K w x cs) : ∃ A3 c3, cs = [.int .i64 x.f0, .int .i64 x.f1, .string x.f2, .slice A3 x.f3.length c3] ∧ x.f3.length ≤ c3 ∧ k26.C w A3 x.f3.length x.f3 := by
  obtain ⟨n, h⟩ := h
  cases n with
  | zero => exact h.elim
  | succ n =>
    obtain ⟨_, _, rfl, rfl, ⟨_, _, rfl, rfl, ⟨_, _, rfl, rfl, ⟨A3, c3, rfl, l3, g3⟩⟩⟩⟩ := h
    exact ⟨A3, c3, rfl, l3, Kd.fix_C g3⟩
theorem k26_mk (w : World) (x : S26) {A3 : Option Addr} {c3 : Nat} (l3 : x.f3.length ≤ c3) (g3 : k26.C w A3 x.f3.length x.f3) : k26.K w x [.int .i64 x.f0, .int .i64 x.f1, .string x.f2, .slice A3 x.f3.length c3] := by
  obtain ⟨n3, q3⟩ := Kd.fix_C_back mono26 g3
  have r3 := Kd.upto_C_le mono26 sz26 (show n3 ≤ n3 by omega) q3
  exact ⟨n3 + 1, ⟨[.int .i64 x.f0], [.int .i64 x.f1, .string x.f2, .slice A3 x.f3.length c3], rfl, rfl, ⟨[.int .i64 x.f1], [.string x.f2, .slice A3 x.f3.length c3], rfl, rfl, ⟨[.string x.f2], [.slice A3 x.f3.length c3], rfl, rfl, ⟨A3, c3, rfl, l3, r3⟩⟩⟩⟩⟩
theorem k26_mkM (w : World) (base : Nat) (ok : Nat → Prop) (x : S26) {v3 : Value} (g3 : k26.R 26 w base ok v3 x.f3) : k26.M w base ok x [.int .i64 x.f0, .int .i64 x.f1, .string x.f2, v3] := by
  obtain ⟨n3, q3⟩ := Kd.fix_R_back mono26 g3
  have r3 := Kd.upto_R_le mono26 sz26 (show n3 ≤ n3 by omega) q3
  exact ⟨n3 + 1, ⟨[.int .i64 x.f0], [.int .i64 x.f1, .string x.f2, v3], rfl, rfl, ⟨[.int .i64 x.f1], [.string x.f2, v3], rfl, rfl, ⟨[.string x.f2], [v3], rfl, rfl, ⟨v3, rfl, r3⟩⟩⟩⟩⟩
def rd_T26 (xs : List S26) (i : Int) : S26 := xs.getD i.toNat z26
theorem at_T26 {w : World} {A : Option Addr} {n : Nat} {xs : List S26} (h : Kd.C k26 w A n xs) (i : Int) (h0 : 0 ≤ i) (h1 : i < n) : ∃ ad A3 c3, A = some ad ∧ w.cell? (ad.add (i.toNat * 4)) = some (.int .i64 (rd_T26 xs i).f0) ∧ w.cell? ⟨(ad.add (i.toNat * 4)).block, (ad.add (i.toNat * 4)).off + 1, none⟩ = some (.int .i64 (rd_T26 xs i).f1) ∧ w.cell? ⟨(ad.add (i.toNat * 4)).block, (ad.add (i.toNat * 4)).off + 2, none⟩ = some (.string (rd_T26 xs i).f2) ∧ w.cell? ⟨(ad.add (i.toNat * 4)).block, (ad.add (i.toNat * 4)).off + 3, none⟩ = some (.slice A3 (rd_T26 xs i).f3.length c3) ∧ (rd_T26 xs i).f3.length ≤ c3 ∧ k26.C w A3 (rd_T26 xs i).f3.length (rd_T26 xs i).f3 := by
  obtain ⟨ad, c, e, _, hK, hc0⟩ := Kd.C_get h z26 i h0 h1
  have hc : ∀ j u, c[j]? = some u → w.cell? (ad.add (i.toNat * 4 + j)) = some u := hc0
  obtain ⟨A3, c3, rfl, l3, g3⟩ := k26_open hK
  exact ⟨ad, A3, c3, e, hc 0 _ rfl, by rw [← add_field _ _ 1 (by omega)]; exact hc 1 _ rfl, by rw [← add_field _ _ 2 (by omega)]; exact hc 2 _ rfl, by rw [← add_field _ _ 3 (by omega)]; exact hc 3 _ rfl, l3, g3⟩

end Go.Proofs.YtneokkhnjnomdaaGreatDoor.PSh

/-! PShx2 -/
-- PRINTED by print.py (a twelfth state) out of the translation. Not trusted: Lean checks it.
namespace Go.Proofs.YtneokkhnjnomdaaGreatDoor.PSh
open Go.RowKit Go.Proofs.YtneokkhnjnomdaaGreatDoorW.PrintWords Go.Proofs.YtneokkhnjnomdaaGreatDoorW.PrintLast Go.Proofs.YtneokkhnjnomdaaGreatDoorW.PrintMore
attribute [local go_sem] max2_int min2_int max_two min_two max_three min_three max_four min_four   -- for this text's walks alone
set_option linter.unusedVariables false
set_option linter.unusedSimpArgs false

/-! ### spindleref08_count: function 52 -/
mutual
def spindleref08_count.l0 : Nat → Int → Int → Int → Int → Int → ByteArray → List (S26) → Option (Int)
  | 0, _, _, _, _, _, _, _ => none
  | k + 1, x1, x2, x7, x114000, x114001, x114002, x114003 => if x7 < (x114003.length : Int) then (if x1 < 5000 then (if x2 > 0 then (if 0 ≤ x7 then ((spindleref08_count.f k ((rd_T26 x114003 x7).f0) ((rd_T26 x114003 x7).f1) ((rd_T26 x114003 x7).f2) ((rd_T26 x114003 x7).f3) x1 (wrap64 (x2 - 1))).bind fun t115 => (spindleref08_count.l0 k t115 x2 (wrap64 (x7 + 1)) x114000 x114001 x114002 x114003)) else (none)) else (some (mn x1 5000))) else (some (mn x1 5000))) else (some (mn x1 5000))
def spindleref08_count.f : Nat → Int → Int → ByteArray → List (S26) → Int → Int → Option (Int)
  | 0, _, _, _, _, _, _ => none
  | k + 1, a0_0, a0_1, a0_2, l0_3, a1, a2 => spindleref08_count.l0 k (wrap64 (a1 + 1)) a2 0 a0_0 a0_1 a0_2 l0_3
end
theorem spindleref08_count.mono_l : ∀ k, (∀ y0 y1 y2 y3 y4 y5, LeO (spindleref08_count.f k y0 y1 y2 y3 y4 y5) (spindleref08_count.f (k + 1) y0 y1 y2 y3 y4 y5)) ∧ (∀ y0 y1 y2 y3 y4 y5 y6, LeO (spindleref08_count.l0 k y0 y1 y2 y3 y4 y5 y6) (spindleref08_count.l0 (k + 1) y0 y1 y2 y3 y4 y5 y6))
  | 0 => ⟨fun _ _ _ _ _ _ r h => by simp [spindleref08_count.f] at h, fun _ _ _ _ _ _ _ r h => by simp [spindleref08_count.l0] at h⟩
  | k + 1 => by
    obtain ⟨ih0, ih1⟩ := spindleref08_count.mono_l k
    refine ⟨?_, ?_⟩
    · intro y0 y1 y2 y3 y4 y5
      unfold spindleref08_count.f
      repeat' first
      | (with_reducible exact ih0 _ _ _ _ _ _)
      | (with_reducible exact ih1 _ _ _ _ _ _ _)
      | (with_reducible exact LeO.refl _)
      | (with_reducible exact LeO.none _)
      | (with_reducible refine LeO.ite ?_ ?_)
      | (with_reducible refine LeO.bind ?_ (fun _ => ?_))
      | exact ih0 _ _ _ _ _ _
      | exact ih1 _ _ _ _ _ _ _
      | exact LeO.none _
      | refine LeO.ite ?_ ?_
      | refine LeO.bind ?_ (fun _ => ?_)
    · intro y0 y1 y2 y3 y4 y5 y6
      unfold spindleref08_count.l0
      repeat' first
      | (with_reducible exact ih0 _ _ _ _ _ _)
      | (with_reducible exact ih1 _ _ _ _ _ _ _)
      | (with_reducible exact LeO.refl _)
      | (with_reducible exact LeO.none _)
      | (with_reducible refine LeO.ite ?_ ?_)
      | (with_reducible refine LeO.bind ?_ (fun _ => ?_))
      | exact ih0 _ _ _ _ _ _
      | exact ih1 _ _ _ _ _ _ _
      | exact LeO.none _
      | refine LeO.ite ?_ ?_
      | refine LeO.bind ?_ (fun _ => ?_)
theorem spindleref08_count.mono : ∀ a0 a1 a2 a3 a4 a5 k, LeO (spindleref08_count.f k a0 a1 a2 a3 a4 a5) (spindleref08_count.f (k + 1) a0 a1 a2 a3 a4 a5) := by
  intro a0 a1 a2 a3 a4 a5 k
  obtain ⟨ih0, ih1⟩ := spindleref08_count.mono_l k
  exact ih0 a0 a1 a2 a3 a4 a5
set_option maxHeartbeats 8000000 in
set_option maxRecDepth 100000 in
theorem spindleref08_count.calls (k : Nat) : ∀ (a0_0 : Int) (a0_1 : Int) (a0_2 : ByteArray) (A0_3 : Option Addr) (c0_3 : Nat) (l0_3 : List (S26)) (a1 : Int) (a2 : Int) (r : Int) (w : World) (hr0_3 : Kd.C k26 w A0_3 l0_3.length l0_3) (hc0_3 : l0_3.length ≤ c0_3) (h : spindleref08_count.f k a0_0 a0_1 a0_2 l0_3 a1 a2 = some r),
    Calls Tryz.prog 52 #[.agg #[.int .i64 a0_0, .int .i64 a0_1, .string a0_2, .slice A0_3 l0_3.length c0_3], .int .i64 a1, .int .i64 a2] w fun e w' => e = .returned (.int .i64 r) ∧ Below w.heap.size w w' := by
  induction k using Nat.strongRecOn with
  | _ k ih =>
  intro a0_0 a0_1 a0_2 A0_3 c0_3 l0_3 a1 a2 r w hr0_3 hc0_3 h
  cases k with
  | zero => exact absurd h (by simp [spindleref08_count.f])
  | succ k =>
  simp only [spindleref08_count.f] at h
  have hu26 := Tryz.underlying26
  have HR0_3 := Aside0.mk hr0_3
  have HC0_3 := Aside0.mk hc0_3
  clear hr0_3 hc0_3
  have HB := Aside0.mk (Below.refl w.heap.size w)
  have H : (spindleref08_count.l0 k (wrap64 (a1 + 1)) a2 0 a0_0 a0_1 a0_2 l0_3) = some r := h
  clear h
  have H' := Aside0.mk H
  clear H
  go_enter Tryz.func52, Tryz.ntmps52
  go_wp2_with (first | ((with_reducible refine gate_dst (N := 3) rfl ?_); refine box_event ?hg (N := 3) ?hd (cs := #[.int .i64 a0_0, .int .i64 a0_1, .string a0_2, .slice A0_3 l0_3.length c0_3]) (t := 26) ?hr ?_; (case hd => rfl); (case hg => rfl); (case hr => first | (go_simp; done) | (go_simp; rfl)); intro gb113 hg w4 hbox hb; have n0_ := Aside0.mk (below_step (by repeat (first | (with_reducible first | exact HB.out | apply below_alloc | apply pw_below_drewN | apply below_drew1) | exact HB.out)) hb); have n1_ := Aside0.mk (hbox); have n2_ := Aside0.mk ((by rw [hg]; exact (below_size (by repeat (first | (with_reducible first | exact HB.out | apply below_alloc | apply pw_below_drewN | apply below_drew1) | exact HB.out))) : w.heap.size ≤ gb113)); have n3_ := Aside0.mk ((by rw [hg]; exact (below_size (by repeat (first | (with_reducible first | exact HB.out | apply below_alloc | apply pw_below_drewN | apply below_drew1) | exact HB.out))) : w.heap.size ≤ gb113)); clear HB; have HB := n0_; have BK113 := n1_; have GW113 := n2_; have GE113 := n3_; clear n0_ n1_ n2_ n3_; clear hb hbox hg))
  go_loopg [1, 7] k (fun kq v1 v7 w' => ∃ (x1_1 : Int) (x7_1 : Int), v1 = .int .i64 x1_1 ∧ v7 = .int .i64 x7_1 ∧ Aside0 (spindleref08_count.l0 kq x1_1 a2 x7_1 a0_0 a0_1 a0_2 l0_3 = some r) ∧ Aside0 (kq ≤ k) ∧ Aside0 (w'.heap[gb113]? = some (.cells #[.int .i64 a0_0, .int .i64 a0_1, .string a0_2, (.slice A0_3 l0_3.length c0_3)] 26 (0, 0))) ∧ Aside0 (Below w.heap.size w w'))
  case atStart => exact ⟨(wrap64 (a1 + 1)), (0), (by first | rfl | (simp; done) | (simp [*]; done)), (by first | rfl | (simp; done) | (simp [*]; done)), H', ⟨Nat.le_refl _⟩, ⟨by (with_reducible repeat (first | refine blk_drewN ?_ _ | refine blk_drew ?_ | refine blk_alloc ?_ _)); exact BK113.out⟩, ⟨by repeat (first | (with_reducible first | exact HB.out | apply below_alloc | apply pw_below_drewN | apply below_drew1 | refine below_set ?_ GE113.out) | exact HB.out)⟩⟩
  case round =>
    clear H'
    try clear p2
    obtain ⟨x1_1, x7_1, rfl, rfl, HA, HK1, BK113, HB⟩ := hrel
    cases gk with
    | zero => exact absurd HA.out (by simp [spindleref08_count.l0])
    | succ k1 =>
      have H := HA.out
      clear HA
      simp only [spindleref08_count.l0] at H
      by_cases c5 : x7_1 < (l0_3.length : Int)
      · rw [if_pos c5] at H
        have c5b0 : decide (x7_1 < (l0_3.length : Int)) = true := decide_eq_true c5
        clear c5
        by_cases c6 : x1_1 < 5000
        · rw [if_pos c6] at H
          have c6b0 : decide (x1_1 < 5000) = true := decide_eq_true c6
          clear c6
          by_cases c7 : a2 > 0
          · rw [if_pos c7] at H
            have c7b0 : decide (0 < a2) = true := decide_eq_true c7
            clear c7
            by_cases c8 : 0 ≤ x7_1
            · rw [if_pos c8] at H
              have c8b0 : decide (0 ≤ x7_1) = true := decide_eq_true c8
              clear c8
              replace H := Option.bind_eq_some_iff.mp H
              obtain ⟨t115, A90, H⟩ := H
              replace H : (spindleref08_count.l0 k1 t115 a2 (wrap64 (x7_1 + 1)) a0_0 a0_1 a0_2 l0_3) = some r := H
              have A9 := Aside0.mk A90
              clear A90
              have H' := Aside0.mk H
              clear H
              have hcz10_0 : wr.cell? ⟨gb113, 0, none⟩ = some (.int .i64 a0_0) := (blk_cell BK113.out 0).trans rfl
              have hcz10_1 : wr.cell? ⟨gb113, 1, none⟩ = some (.int .i64 a0_1) := (blk_cell BK113.out 1).trans rfl
              have hcz10_2 : wr.cell? ⟨gb113, 2, none⟩ = some (.string a0_2) := (blk_cell BK113.out 2).trans rfl
              have hcz10_3 : wr.cell? ⟨gb113, 3, none⟩ = some (.slice A0_3 l0_3.length c0_3) := (blk_cell BK113.out 3).trans rfl
              have hfz10_0 := blk_frozen BK113.out 0
              have hfz10_1 := blk_frozen BK113.out 1
              have hfz10_2 := blk_frozen BK113.out 2
              have hfz10_3 := blk_frozen BK113.out 3
              have p114 : 0 ≤ (x7_1 : Int) := of_decide_eq_true (by first | (with_reducible assumption) | assumption)
              have q114 : x7_1 < (l0_3.length : Int) := of_decide_eq_true (by first | (with_reducible assumption) | assumption)
              obtain ⟨ad114, A114_3, c114_3, e114, hx114_0, hx114_1, hx114_2, hx114_3, hl114_3, hi114_3⟩ := at_T26 HR0_3.out x7_1 p114 q114
              cases e114
              replace hx114_0 := (HB.out.cell (World.block_lt_of_cell? w _ hx114_0)).trans hx114_0
              replace hx114_1 := (HB.out.cell (World.block_lt_of_cell? w _ hx114_1)).trans hx114_1
              replace hx114_2 := (HB.out.cell (World.block_lt_of_cell? w _ hx114_2)).trans hx114_2
              replace hx114_3 := (HB.out.cell (World.block_lt_of_cell? w _ hx114_3)).trans hx114_3
              have HR114_3 := Aside0.mk hi114_3
              have HC114_3 := Aside0.mk hl114_3
              clear hi114_3 hl114_3
              replace p114 := eq_true p114
              replace q114 := eq_true q114
              go_wp2_with (first | ((with_reducible refine gate_callee (f := 52) rfl ?_); refine goesL_ (some 33) rfl rfl Tryz.func52 (by kernel_rfl) rfl #[.agg #[.int .i64 ((rd_T26 l0_3 x7_1).f0), .int .i64 ((rd_T26 l0_3 x7_1).f1), .string ((rd_T26 l0_3 x7_1).f2), .slice A114_3 ((rd_T26 l0_3 x7_1).f3).length c114_3], .int .i64 x1_1, .int .i64 (wrap64 (a2 - 1))] rfl (by (try simp only [List.map_toArray, List.map_cons, List.map_nil]); first | done | rfl | (simp only [List.length_drop, List.length_take]; rfl)) ?_; (with_reducible refine (ih k1 (by have := HK1.out; omega) ((rd_T26 l0_3 x7_1).f0) ((rd_T26 l0_3 x7_1).f1) ((rd_T26 l0_3 x7_1).f2) _ _ ((rd_T26 l0_3 x7_1).f3) x1_1 (wrap64 (a2 - 1)) t115 _ ?side1 ?side2 A9.out).mono ?_); (case side1 => repeat (first | exact (Kd.C_below HR114_3.out HB.out) | (with_reducible refine Kd.C_alloc ?_ _) | (with_reducible refine Kd.C_drewN ?_ _) | (with_reducible refine Kd.C_drew ?_))); (case side2 => exact HC114_3.out); rintro e w11 ⟨rfl, hb⟩; refine ⟨_, rfl, ?_⟩; have n0_ := Aside0.mk (blk_below (g := gb113) (o := .cells #[.int .i64 a0_0, .int .i64 a0_1, .string a0_2, .slice (some ad114) l0_3.length c0_3] 26 (0, 0)) (by (with_reducible repeat (first | refine blk_drewN ?_ _ | refine blk_drew ?_ | refine blk_alloc ?_ _)); exact BK113.out) hb); have n1_ := Aside0.mk (below_step (by repeat (first | (with_reducible first | exact HB.out | apply below_alloc | apply pw_below_drewN | apply below_drew1 | refine below_set ?_ GE113.out) | exact HB.out)) hb); clear BK113; clear HB; have BK113 := n0_; have HB := n1_; clear n0_ n1_; (try clear hb); (try clear hb2); (try clear hk); (try clear hi)))
              go_roundg k1
              case measure => have := HK1.out; omega
              case rel => exact ⟨(t115), (wrap64 (x7_1 + 1)), (by first | rfl | (simp; done) | (simp [*]; done)), (by first | rfl | (simp; done) | (simp [*]; done)), H', ⟨by have := HK1.out; omega⟩, ⟨by (with_reducible repeat (first | refine blk_drewN ?_ _ | refine blk_drew ?_ | refine blk_alloc ?_ _)); exact BK113.out⟩, ⟨by repeat (first | (with_reducible first | exact HB.out | apply below_alloc | apply pw_below_drewN | apply below_drew1 | refine below_set ?_ GE113.out) | exact HB.out)⟩⟩
            · rw [if_neg c8] at H
              exact absurd H (by simp)
          · rw [if_neg c7] at H
            have c7b0 : decide (0 < a2) = false := decide_eq_false c7
            clear c7
            obtain ⟨ji12, hji12⟩ : ∃ j_ : Int, (mn x1_1 5000) = j_ := ⟨_, rfl⟩
            replace H : (some ji12) = some r := by first | (rw [hji12] at H; exact H) | (simp only [hji12] at H ⊢; exact H)
            have hji12_ : (if 5000 < x1_1 then 5000 else x1_1) = ji12 := hji12
            obtain rfl := Option.some.inj H
            have hcz13_0 : wr.cell? ⟨gb113, 0, none⟩ = some (.int .i64 a0_0) := (blk_cell BK113.out 0).trans rfl
            have hcz13_1 : wr.cell? ⟨gb113, 1, none⟩ = some (.int .i64 a0_1) := (blk_cell BK113.out 1).trans rfl
            have hcz13_2 : wr.cell? ⟨gb113, 2, none⟩ = some (.string a0_2) := (blk_cell BK113.out 2).trans rfl
            have hcz13_3 : wr.cell? ⟨gb113, 3, none⟩ = some (.slice A0_3 l0_3.length c0_3) := (blk_cell BK113.out 3).trans rfl
            have hfz13_0 := blk_frozen BK113.out 0
            have hfz13_1 := blk_frozen BK113.out 1
            have hfz13_2 := blk_frozen BK113.out 2
            have hfz13_3 := blk_frozen BK113.out 3
            go_wp2
            go_ret
            exact ⟨by first | rfl | (simp [errW_none, errW_some] <;> rfl) | (simp only [← hji12]; first | rfl | (simp [errW_none, errW_some] <;> rfl)) | (simp [*, errW_none, errW_some] <;> rfl), by repeat (first | (with_reducible first | exact HB.out | apply below_alloc | apply pw_below_drewN | apply below_drew1 | refine below_set ?_ GE113.out) | exact HB.out)⟩
        · rw [if_neg c6] at H
          have c6b0 : decide (x1_1 < 5000) = false := decide_eq_false c6
          clear c6
          obtain ⟨ji14, hji14⟩ : ∃ j_ : Int, (mn x1_1 5000) = j_ := ⟨_, rfl⟩
          replace H : (some ji14) = some r := by first | (rw [hji14] at H; exact H) | (simp only [hji14] at H ⊢; exact H)
          have hji14_ : (if 5000 < x1_1 then 5000 else x1_1) = ji14 := hji14
          obtain rfl := Option.some.inj H
          have hcz15_0 : wr.cell? ⟨gb113, 0, none⟩ = some (.int .i64 a0_0) := (blk_cell BK113.out 0).trans rfl
          have hcz15_1 : wr.cell? ⟨gb113, 1, none⟩ = some (.int .i64 a0_1) := (blk_cell BK113.out 1).trans rfl
          have hcz15_2 : wr.cell? ⟨gb113, 2, none⟩ = some (.string a0_2) := (blk_cell BK113.out 2).trans rfl
          have hcz15_3 : wr.cell? ⟨gb113, 3, none⟩ = some (.slice A0_3 l0_3.length c0_3) := (blk_cell BK113.out 3).trans rfl
          have hfz15_0 := blk_frozen BK113.out 0
          have hfz15_1 := blk_frozen BK113.out 1
          have hfz15_2 := blk_frozen BK113.out 2
          have hfz15_3 := blk_frozen BK113.out 3
          go_wp2
          go_ret
          exact ⟨by first | rfl | (simp [errW_none, errW_some] <;> rfl) | (simp only [← hji14]; first | rfl | (simp [errW_none, errW_some] <;> rfl)) | (simp [*, errW_none, errW_some] <;> rfl), by repeat (first | (with_reducible first | exact HB.out | apply below_alloc | apply pw_below_drewN | apply below_drew1 | refine below_set ?_ GE113.out) | exact HB.out)⟩
      · rw [if_neg c5] at H
        have c5b0 : decide (x7_1 < (l0_3.length : Int)) = false := decide_eq_false c5
        clear c5
        obtain ⟨ji16, hji16⟩ : ∃ j_ : Int, (mn x1_1 5000) = j_ := ⟨_, rfl⟩
        replace H : (some ji16) = some r := by first | (rw [hji16] at H; exact H) | (simp only [hji16] at H ⊢; exact H)
        have hji16_ : (if 5000 < x1_1 then 5000 else x1_1) = ji16 := hji16
        obtain rfl := Option.some.inj H
        have hcz17_0 : wr.cell? ⟨gb113, 0, none⟩ = some (.int .i64 a0_0) := (blk_cell BK113.out 0).trans rfl
        have hcz17_1 : wr.cell? ⟨gb113, 1, none⟩ = some (.int .i64 a0_1) := (blk_cell BK113.out 1).trans rfl
        have hcz17_2 : wr.cell? ⟨gb113, 2, none⟩ = some (.string a0_2) := (blk_cell BK113.out 2).trans rfl
        have hcz17_3 : wr.cell? ⟨gb113, 3, none⟩ = some (.slice A0_3 l0_3.length c0_3) := (blk_cell BK113.out 3).trans rfl
        have hfz17_0 := blk_frozen BK113.out 0
        have hfz17_1 := blk_frozen BK113.out 1
        have hfz17_2 := blk_frozen BK113.out 2
        have hfz17_3 := blk_frozen BK113.out 3
        go_wp2
        go_ret
        exact ⟨by first | rfl | (simp [errW_none, errW_some] <;> rfl) | (simp only [← hji16]; first | rfl | (simp [errW_none, errW_some] <;> rfl)) | (simp [*, errW_none, errW_some] <;> rfl), by repeat (first | (with_reducible first | exact HB.out | apply below_alloc | apply pw_below_drewN | apply below_drew1 | refine below_set ?_ GE113.out) | exact HB.out)⟩

end Go.Proofs.YtneokkhnjnomdaaGreatDoor.PSh

/-! PShx3 -/
-- PRINTED by print.py (a twelfth state) out of the translation. Not trusted: Lean checks it.
namespace Go.Proofs.YtneokkhnjnomdaaGreatDoor.PSh
open Go.RowKit Go.Proofs.YtneokkhnjnomdaaGreatDoorW.PrintWords Go.Proofs.YtneokkhnjnomdaaGreatDoorW.PrintLast Go.Proofs.YtneokkhnjnomdaaGreatDoorW.PrintMore
attribute [local go_sem] max2_int min2_int max_two min_two max_three min_three max_four min_four   -- for this text's walks alone
set_option linter.unusedVariables false
set_option linter.unusedSimpArgs false

/-! ### spindleref08_Parts: function 24 -/
def spindleref08_Parts.f (k : Nat) (a0_0 : Int) (a0_1 : Int) (a0_2 : ByteArray) (l0_3 : List (S26)) : Option (Int) := (spindleref08_count.f k a0_0 a0_1 a0_2 l0_3 0 100000).bind fun t117 => (some t117)
theorem spindleref08_Parts.mono : ∀ a0 a1 a2 a3 k, LeO (spindleref08_Parts.f k a0 a1 a2 a3) (spindleref08_Parts.f (k + 1) a0 a1 a2 a3) := by
  intro a0 a1 a2 a3 k
  unfold spindleref08_Parts.f
  repeat' first
      | (with_reducible exact spindleref08_count.mono _ _ _ _ _ _ _)
      | (with_reducible exact LeO.refl _)
      | (with_reducible exact LeO.none _)
      | (with_reducible refine LeO.ite ?_ ?_)
      | (with_reducible refine LeO.bind ?_ (fun _ => ?_))
      | exact spindleref08_count.mono _ _ _ _ _ _ _
      | exact LeO.none _
      | refine LeO.ite ?_ ?_
      | refine LeO.bind ?_ (fun _ => ?_)
set_option maxHeartbeats 8000000 in
set_option maxRecDepth 100000 in
theorem spindleref08_Parts.calls (k : Nat) (a0_0 : Int) (a0_1 : Int) (a0_2 : ByteArray) (A0_3 : Option Addr) (c0_3 : Nat) (l0_3 : List (S26)) (r : Int) (w : World) (hr0_3 : Kd.C k26 w A0_3 l0_3.length l0_3) (hc0_3 : l0_3.length ≤ c0_3) (h : spindleref08_Parts.f k a0_0 a0_1 a0_2 l0_3 = some r) :
    Calls Tryz.prog 24 #[.agg #[.int .i64 a0_0, .int .i64 a0_1, .string a0_2, .slice A0_3 l0_3.length c0_3]] w fun e w' => e = .returned (.int .i64 r) ∧ Below w.heap.size w w' := by
  have hu26 := Tryz.underlying26
  have HR0_3 := Aside0.mk hr0_3
  have HC0_3 := Aside0.mk hc0_3
  clear hr0_3 hc0_3
  have HB := Aside0.mk (Below.refl w.heap.size w)
  have H : ((spindleref08_count.f k a0_0 a0_1 a0_2 l0_3 0 100000).bind fun t117 => (some t117)) = some r := h
  clear h
  replace H := Option.bind_eq_some_iff.mp H
  obtain ⟨t117, A20, H⟩ := H
  replace H : (some t117) = some r := H
  have A2 := Aside0.mk A20
  clear A20
  obtain rfl := Option.some.inj H
  go_enter Tryz.func24, Tryz.ntmps24
  go_wp2_with (first | ((with_reducible refine gate_dst (N := 1) rfl ?_); refine box_event ?hg (N := 1) ?hd (cs := #[.int .i64 a0_0, .int .i64 a0_1, .string a0_2, .slice A0_3 l0_3.length c0_3]) (t := 26) ?hr ?_; (case hd => rfl); (case hg => rfl); (case hr => first | (go_simp; done) | (go_simp; rfl)); intro gb116 hg w3 hbox hb; have n0_ := Aside0.mk (below_step (by repeat (first | (with_reducible first | exact HB.out | apply below_alloc | apply pw_below_drewN | apply below_drew1) | exact HB.out)) hb); have n1_ := Aside0.mk (hbox); have n2_ := Aside0.mk ((by rw [hg]; exact (below_size (by repeat (first | (with_reducible first | exact HB.out | apply below_alloc | apply pw_below_drewN | apply below_drew1) | exact HB.out))) : w.heap.size ≤ gb116)); have n3_ := Aside0.mk ((by rw [hg]; exact (below_size (by repeat (first | (with_reducible first | exact HB.out | apply below_alloc | apply pw_below_drewN | apply below_drew1) | exact HB.out))) : w.heap.size ≤ gb116)); clear HB; have HB := n0_; have BK116 := n1_; have GW116 := n2_; have GE116 := n3_; clear n0_ n1_ n2_ n3_; clear hb hbox hg; have hcz4_0 : w3.cell? ⟨gb116, 0, none⟩ = some (.int .i64 a0_0) := (blk_cell BK116.out 0).trans rfl; have hcz4_1 : w3.cell? ⟨gb116, 1, none⟩ = some (.int .i64 a0_1) := (blk_cell BK116.out 1).trans rfl; have hcz4_2 : w3.cell? ⟨gb116, 2, none⟩ = some (.string a0_2) := (blk_cell BK116.out 2).trans rfl; have hcz4_3 : w3.cell? ⟨gb116, 3, none⟩ = some (.slice A0_3 l0_3.length c0_3) := (blk_cell BK116.out 3).trans rfl; have hfz4_0 := blk_frozen BK116.out 0; have hfz4_1 := blk_frozen BK116.out 1; have hfz4_2 := blk_frozen BK116.out 2; have hfz4_3 := blk_frozen BK116.out 3) | ((with_reducible refine gate_callee (f := 52) rfl ?_); refine goesL_ (some 4) rfl rfl Tryz.func52 (by kernel_rfl) rfl #[.agg #[.int .i64 a0_0, .int .i64 a0_1, .string a0_2, .slice A0_3 l0_3.length c0_3], .int .i64 0, .int .i64 100000] rfl (by (try simp only [List.map_toArray, List.map_cons, List.map_nil]); first | done | rfl | (simp only [List.length_drop, List.length_take]; rfl)) ?_; (with_reducible refine (spindleref08_count.calls k a0_0 a0_1 a0_2 _ _ l0_3 0 100000 t117 _ ?side1 ?side2 A2.out).mono ?_); (case side1 => repeat (first | exact (Kd.C_below HR0_3.out HB.out) | (with_reducible refine Kd.C_alloc ?_ _) | (with_reducible refine Kd.C_drewN ?_ _) | (with_reducible refine Kd.C_drew ?_))); (case side2 => exact HC0_3.out); rintro e w5 ⟨rfl, hb⟩; refine ⟨_, rfl, ?_⟩; have n0_ := Aside0.mk (blk_below (g := gb116) (o := .cells #[.int .i64 a0_0, .int .i64 a0_1, .string a0_2, .slice A0_3 l0_3.length c0_3] 26 (0, 0)) (by (with_reducible repeat (first | refine blk_drewN ?_ _ | refine blk_drew ?_ | refine blk_alloc ?_ _)); exact BK116.out) hb); have n1_ := Aside0.mk (below_step (by repeat (first | (with_reducible first | exact HB.out | apply below_alloc | apply pw_below_drewN | apply below_drew1 | refine below_set ?_ GE116.out) | exact HB.out)) hb); clear BK116; clear HB; have BK116 := n0_; have HB := n1_; clear n0_ n1_; (try clear hb); (try clear hb2); (try clear hk); (try clear hi)))
  go_ret
  exact ⟨by first | rfl | (simp [errW_none, errW_some] <;> rfl) | (simp [*, errW_none, errW_some] <;> rfl), by repeat (first | (with_reducible first | exact HB.out | apply below_alloc | apply pw_below_drewN | apply below_drew1 | refine below_set ?_ GE116.out) | exact HB.out)⟩

end Go.Proofs.YtneokkhnjnomdaaGreatDoor.PSh

/-! PShx4 -/
-- PRINTED by print.py (a twelfth state) out of the translation. Not trusted: Lean checks it.
namespace Go.Proofs.YtneokkhnjnomdaaGreatDoor.PSh
open Go.RowKit Go.Proofs.YtneokkhnjnomdaaGreatDoorW.PrintWords Go.Proofs.YtneokkhnjnomdaaGreatDoorW.PrintLast Go.Proofs.YtneokkhnjnomdaaGreatDoorW.PrintMore
attribute [local go_sem] max2_int min2_int max_two min_two max_three min_three max_four min_four   -- for this text's walks alone
set_option linter.unusedVariables false
set_option linter.unusedSimpArgs false

/-! ### spindleref08_Depth: function 51 -/
mutual
def spindleref08_Depth.l0 : Nat → Int → Int → Int → Int → Int → ByteArray → List (S26) → Option (Int)
  | 0, _, _, _, _, _, _, _ => none
  | k + 1, x1, x5, x6, x119000, x119001, x119002, x119003 => if x6 < (x119003.length : Int) then (if 0 ≤ x6 then ((spindleref08_Depth.f k ((rd_T26 x119003 x6).f0) ((rd_T26 x119003 x6).f1) ((rd_T26 x119003 x6).f2) ((rd_T26 x119003 x6).f3) (wrap64 (x1 - 1))).bind fun t120 => (spindleref08_Depth.l0 k x1 (mx x5 t120) (wrap64 (x6 + 1)) x119000 x119001 x119002 x119003)) else (none)) else (some (wrap64 (x5 + 1)))
def spindleref08_Depth.f : Nat → Int → Int → ByteArray → List (S26) → Int → Option (Int)
  | 0, _, _, _, _, _ => none
  | k + 1, a0_0, a0_1, a0_2, l0_3, a1 => if a1 > 0 then (spindleref08_Depth.l0 k a1 0 0 a0_0 a0_1 a0_2 l0_3) else (some (0 + 1))
end
theorem spindleref08_Depth.mono_l : ∀ k, (∀ y0 y1 y2 y3 y4, LeO (spindleref08_Depth.f k y0 y1 y2 y3 y4) (spindleref08_Depth.f (k + 1) y0 y1 y2 y3 y4)) ∧ (∀ y0 y1 y2 y3 y4 y5 y6, LeO (spindleref08_Depth.l0 k y0 y1 y2 y3 y4 y5 y6) (spindleref08_Depth.l0 (k + 1) y0 y1 y2 y3 y4 y5 y6))
  | 0 => ⟨fun _ _ _ _ _ r h => by simp [spindleref08_Depth.f] at h, fun _ _ _ _ _ _ _ r h => by simp [spindleref08_Depth.l0] at h⟩
  | k + 1 => by
    obtain ⟨ih0, ih1⟩ := spindleref08_Depth.mono_l k
    refine ⟨?_, ?_⟩
    · intro y0 y1 y2 y3 y4
      unfold spindleref08_Depth.f
      repeat' first
      | (with_reducible exact ih0 _ _ _ _ _)
      | (with_reducible exact ih1 _ _ _ _ _ _ _)
      | (with_reducible exact LeO.refl _)
      | (with_reducible exact LeO.none _)
      | (with_reducible refine LeO.ite ?_ ?_)
      | (with_reducible refine LeO.bind ?_ (fun _ => ?_))
      | exact ih0 _ _ _ _ _
      | exact ih1 _ _ _ _ _ _ _
      | exact LeO.none _
      | refine LeO.ite ?_ ?_
      | refine LeO.bind ?_ (fun _ => ?_)
    · intro y0 y1 y2 y3 y4 y5 y6
      unfold spindleref08_Depth.l0
      repeat' first
      | (with_reducible exact ih0 _ _ _ _ _)
      | (with_reducible exact ih1 _ _ _ _ _ _ _)
      | (with_reducible exact LeO.refl _)
      | (with_reducible exact LeO.none _)
      | (with_reducible refine LeO.ite ?_ ?_)
      | (with_reducible refine LeO.bind ?_ (fun _ => ?_))
      | exact ih0 _ _ _ _ _
      | exact ih1 _ _ _ _ _ _ _
      | exact LeO.none _
      | refine LeO.ite ?_ ?_
      | refine LeO.bind ?_ (fun _ => ?_)
theorem spindleref08_Depth.mono : ∀ a0 a1 a2 a3 a4 k, LeO (spindleref08_Depth.f k a0 a1 a2 a3 a4) (spindleref08_Depth.f (k + 1) a0 a1 a2 a3 a4) := by
  intro a0 a1 a2 a3 a4 k
  obtain ⟨ih0, ih1⟩ := spindleref08_Depth.mono_l k
  exact ih0 a0 a1 a2 a3 a4
set_option maxHeartbeats 8000000 in
set_option maxRecDepth 100000 in
theorem spindleref08_Depth.calls (k : Nat) : ∀ (a0_0 : Int) (a0_1 : Int) (a0_2 : ByteArray) (A0_3 : Option Addr) (c0_3 : Nat) (l0_3 : List (S26)) (a1 : Int) (r : Int) (w : World) (hr0_3 : Kd.C k26 w A0_3 l0_3.length l0_3) (hc0_3 : l0_3.length ≤ c0_3) (h : spindleref08_Depth.f k a0_0 a0_1 a0_2 l0_3 a1 = some r),
    Calls Tryz.prog 51 #[.agg #[.int .i64 a0_0, .int .i64 a0_1, .string a0_2, .slice A0_3 l0_3.length c0_3], .int .i64 a1] w fun e w' => e = .returned (.int .i64 r) ∧ Below w.heap.size w w' := by
  induction k using Nat.strongRecOn with
  | _ k ih =>
  intro a0_0 a0_1 a0_2 A0_3 c0_3 l0_3 a1 r w hr0_3 hc0_3 h
  cases k with
  | zero => exact absurd h (by simp [spindleref08_Depth.f])
  | succ k =>
  simp only [spindleref08_Depth.f] at h
  have hu26 := Tryz.underlying26
  have HR0_3 := Aside0.mk hr0_3
  have HC0_3 := Aside0.mk hc0_3
  clear hr0_3 hc0_3
  have HB := Aside0.mk (Below.refl w.heap.size w)
  have H : (if a1 > 0 then (spindleref08_Depth.l0 k a1 0 0 a0_0 a0_1 a0_2 l0_3) else (some (0 + 1))) = some r := h
  clear h
  by_cases c3 : a1 > 0
  · rw [if_pos c3] at H
    have c3b0 : decide (0 < a1) = true := decide_eq_true c3
    clear c3
    have H' := Aside0.mk H
    clear H
    go_enter Tryz.func51, Tryz.ntmps51
    go_wp2_with (first | ((with_reducible refine gate_dst (N := 2) rfl ?_); refine box_event ?hg (N := 2) ?hd (cs := #[.int .i64 a0_0, .int .i64 a0_1, .string a0_2, .slice A0_3 l0_3.length c0_3]) (t := 26) ?hr ?_; (case hd => rfl); (case hg => rfl); (case hr => first | (go_simp; done) | (go_simp; rfl)); intro gb118 hg w4 hbox hb; have n0_ := Aside0.mk (below_step (by repeat (first | (with_reducible first | exact HB.out | apply below_alloc | apply pw_below_drewN | apply below_drew1) | exact HB.out)) hb); have n1_ := Aside0.mk (hbox); have n2_ := Aside0.mk ((by rw [hg]; exact (below_size (by repeat (first | (with_reducible first | exact HB.out | apply below_alloc | apply pw_below_drewN | apply below_drew1) | exact HB.out))) : w.heap.size ≤ gb118)); have n3_ := Aside0.mk ((by rw [hg]; exact (below_size (by repeat (first | (with_reducible first | exact HB.out | apply below_alloc | apply pw_below_drewN | apply below_drew1) | exact HB.out))) : w.heap.size ≤ gb118)); clear HB; have HB := n0_; have BK118 := n1_; have GW118 := n2_; have GE118 := n3_; clear n0_ n1_ n2_ n3_; clear hb hbox hg))
    go_loopg [5, 6] k (fun kq v5 v6 w' => ∃ (x5_1 : Int) (x6_1 : Int), v5 = .int .i64 x5_1 ∧ v6 = .int .i64 x6_1 ∧ Aside0 (spindleref08_Depth.l0 kq a1 x5_1 x6_1 a0_0 a0_1 a0_2 l0_3 = some r) ∧ Aside0 (kq ≤ k) ∧ Aside0 (w'.heap[gb118]? = some (.cells #[.int .i64 a0_0, .int .i64 a0_1, .string a0_2, (.slice A0_3 l0_3.length c0_3)] 26 (0, 0))) ∧ Aside0 (Below w.heap.size w w'))
    case atStart => exact ⟨(0), (0), (by first | rfl | (simp; done) | (simp [*]; done)), (by first | rfl | (simp; done) | (simp [*]; done)), H', ⟨Nat.le_refl _⟩, ⟨by (with_reducible repeat (first | refine blk_drewN ?_ _ | refine blk_drew ?_ | refine blk_alloc ?_ _)); exact BK118.out⟩, ⟨by repeat (first | (with_reducible first | exact HB.out | apply below_alloc | apply pw_below_drewN | apply below_drew1 | refine below_set ?_ GE118.out) | exact HB.out)⟩⟩
    case round =>
      clear H'
      try clear p2
      try clear c3
      try clear c3b0
      obtain ⟨x5_1, x6_1, rfl, rfl, HA, HK1, BK118, HB⟩ := hrel
      cases gk with
      | zero => exact absurd HA.out (by simp [spindleref08_Depth.l0])
      | succ k1 =>
        have H := HA.out
        clear HA
        simp only [spindleref08_Depth.l0] at H
        by_cases c5 : x6_1 < (l0_3.length : Int)
        · rw [if_pos c5] at H
          have c5b0 : decide (x6_1 < (l0_3.length : Int)) = true := decide_eq_true c5
          clear c5
          by_cases c6 : 0 ≤ x6_1
          · rw [if_pos c6] at H
            have c6b0 : decide (0 ≤ x6_1) = true := decide_eq_true c6
            clear c6
            replace H := Option.bind_eq_some_iff.mp H
            obtain ⟨t120, A70, H⟩ := H
            replace H : (spindleref08_Depth.l0 k1 a1 (mx x5_1 t120) (wrap64 (x6_1 + 1)) a0_0 a0_1 a0_2 l0_3) = some r := H
            have A7 := Aside0.mk A70
            clear A70
            obtain ⟨ji8, hji8⟩ : ∃ j_ : Int, (mx x5_1 t120) = j_ := ⟨_, rfl⟩
            replace H : (spindleref08_Depth.l0 k1 a1 ji8 (wrap64 (x6_1 + 1)) a0_0 a0_1 a0_2 l0_3) = some r := by first | (rw [hji8] at H; exact H) | (simp only [hji8] at H ⊢; exact H)
            (try rw [hji8] at A7)
            have hji8_ : (if x5_1 < t120 then t120 else x5_1) = ji8 := hji8
            have H' := Aside0.mk H
            clear H
            have hcz9_0 : wr.cell? ⟨gb118, 0, none⟩ = some (.int .i64 a0_0) := (blk_cell BK118.out 0).trans rfl
            have hcz9_1 : wr.cell? ⟨gb118, 1, none⟩ = some (.int .i64 a0_1) := (blk_cell BK118.out 1).trans rfl
            have hcz9_2 : wr.cell? ⟨gb118, 2, none⟩ = some (.string a0_2) := (blk_cell BK118.out 2).trans rfl
            have hcz9_3 : wr.cell? ⟨gb118, 3, none⟩ = some (.slice A0_3 l0_3.length c0_3) := (blk_cell BK118.out 3).trans rfl
            have hfz9_0 := blk_frozen BK118.out 0
            have hfz9_1 := blk_frozen BK118.out 1
            have hfz9_2 := blk_frozen BK118.out 2
            have hfz9_3 := blk_frozen BK118.out 3
            have p119 : 0 ≤ (x6_1 : Int) := of_decide_eq_true (by first | (with_reducible assumption) | assumption)
            have q119 : x6_1 < (l0_3.length : Int) := of_decide_eq_true (by first | (with_reducible assumption) | assumption)
            obtain ⟨ad119, A119_3, c119_3, e119, hx119_0, hx119_1, hx119_2, hx119_3, hl119_3, hi119_3⟩ := at_T26 HR0_3.out x6_1 p119 q119
            cases e119
            replace hx119_0 := (HB.out.cell (World.block_lt_of_cell? w _ hx119_0)).trans hx119_0
            replace hx119_1 := (HB.out.cell (World.block_lt_of_cell? w _ hx119_1)).trans hx119_1
            replace hx119_2 := (HB.out.cell (World.block_lt_of_cell? w _ hx119_2)).trans hx119_2
            replace hx119_3 := (HB.out.cell (World.block_lt_of_cell? w _ hx119_3)).trans hx119_3
            have HR119_3 := Aside0.mk hi119_3
            have HC119_3 := Aside0.mk hl119_3
            clear hi119_3 hl119_3
            replace p119 := eq_true p119
            replace q119 := eq_true q119
            go_wp2_with (first | ((with_reducible refine gate_callee (f := 51) rfl ?_); refine goesL_ (some 24) rfl rfl Tryz.func51 (by kernel_rfl) rfl #[.agg #[.int .i64 ((rd_T26 l0_3 x6_1).f0), .int .i64 ((rd_T26 l0_3 x6_1).f1), .string ((rd_T26 l0_3 x6_1).f2), .slice A119_3 ((rd_T26 l0_3 x6_1).f3).length c119_3], .int .i64 (wrap64 (a1 - 1))] rfl (by (try simp only [List.map_toArray, List.map_cons, List.map_nil]); first | done | rfl | (simp only [List.length_drop, List.length_take]; rfl)) ?_; (with_reducible refine (ih k1 (by have := HK1.out; omega) ((rd_T26 l0_3 x6_1).f0) ((rd_T26 l0_3 x6_1).f1) ((rd_T26 l0_3 x6_1).f2) _ _ ((rd_T26 l0_3 x6_1).f3) (wrap64 (a1 - 1)) t120 _ ?side1 ?side2 A7.out).mono ?_); (case side1 => repeat (first | exact (Kd.C_below HR119_3.out HB.out) | (with_reducible refine Kd.C_alloc ?_ _) | (with_reducible refine Kd.C_drewN ?_ _) | (with_reducible refine Kd.C_drew ?_))); (case side2 => exact HC119_3.out); rintro e w10 ⟨rfl, hb⟩; refine ⟨_, rfl, ?_⟩; have n0_ := Aside0.mk (blk_below (g := gb118) (o := .cells #[.int .i64 a0_0, .int .i64 a0_1, .string a0_2, .slice (some ad119) l0_3.length c0_3] 26 (0, 0)) (by (with_reducible repeat (first | refine blk_drewN ?_ _ | refine blk_drew ?_ | refine blk_alloc ?_ _)); exact BK118.out) hb); have n1_ := Aside0.mk (below_step (by repeat (first | (with_reducible first | exact HB.out | apply below_alloc | apply pw_below_drewN | apply below_drew1 | refine below_set ?_ GE118.out) | exact HB.out)) hb); clear BK118; clear HB; have BK118 := n0_; have HB := n1_; clear n0_ n1_; (try clear hb); (try clear hb2); (try clear hk); (try clear hi)))
            go_roundg k1
            case measure => have := HK1.out; omega
            case rel => exact ⟨(ji8), (wrap64 (x6_1 + 1)), (by first | rfl | (simp; done) | (simp only [← hji8] <;> (first | rfl | simp)) | (simp [*]; done)), (by first | rfl | (simp; done) | (simp [*]; done)), H', ⟨by have := HK1.out; omega⟩, ⟨by (with_reducible repeat (first | refine blk_drewN ?_ _ | refine blk_drew ?_ | refine blk_alloc ?_ _)); exact BK118.out⟩, ⟨by repeat (first | (with_reducible first | exact HB.out | apply below_alloc | apply pw_below_drewN | apply below_drew1 | refine below_set ?_ GE118.out) | exact HB.out)⟩⟩
          · rw [if_neg c6] at H
            exact absurd H (by simp)
        · rw [if_neg c5] at H
          have c5b0 : decide (x6_1 < (l0_3.length : Int)) = false := decide_eq_false c5
          clear c5
          obtain rfl := Option.some.inj H
          have hcz11_0 : wr.cell? ⟨gb118, 0, none⟩ = some (.int .i64 a0_0) := (blk_cell BK118.out 0).trans rfl
          have hcz11_1 : wr.cell? ⟨gb118, 1, none⟩ = some (.int .i64 a0_1) := (blk_cell BK118.out 1).trans rfl
          have hcz11_2 : wr.cell? ⟨gb118, 2, none⟩ = some (.string a0_2) := (blk_cell BK118.out 2).trans rfl
          have hcz11_3 : wr.cell? ⟨gb118, 3, none⟩ = some (.slice A0_3 l0_3.length c0_3) := (blk_cell BK118.out 3).trans rfl
          have hfz11_0 := blk_frozen BK118.out 0
          have hfz11_1 := blk_frozen BK118.out 1
          have hfz11_2 := blk_frozen BK118.out 2
          have hfz11_3 := blk_frozen BK118.out 3
          go_wp2
          go_ret
          exact ⟨by first | rfl | (simp [errW_none, errW_some] <;> rfl) | (simp [*, errW_none, errW_some] <;> rfl), by repeat (first | (with_reducible first | exact HB.out | apply below_alloc | apply pw_below_drewN | apply below_drew1 | refine below_set ?_ GE118.out) | exact HB.out)⟩
  · rw [if_neg c3] at H
    have c3b0 : decide (0 < a1) = false := decide_eq_false c3
    clear c3
    obtain rfl := Option.some.inj H
    go_enter Tryz.func51, Tryz.ntmps51
    go_wp2_with (first | ((with_reducible refine gate_dst (N := 2) rfl ?_); refine box_event ?hg (N := 2) ?hd (cs := #[.int .i64 a0_0, .int .i64 a0_1, .string a0_2, .slice A0_3 l0_3.length c0_3]) (t := 26) ?hr ?_; (case hd => rfl); (case hg => rfl); (case hr => first | (go_simp; done) | (go_simp; rfl)); intro gb118 hg w12 hbox hb; have n0_ := Aside0.mk (below_step (by repeat (first | (with_reducible first | exact HB.out | apply below_alloc | apply pw_below_drewN | apply below_drew1) | exact HB.out)) hb); have n1_ := Aside0.mk (hbox); have n2_ := Aside0.mk ((by rw [hg]; exact (below_size (by repeat (first | (with_reducible first | exact HB.out | apply below_alloc | apply pw_below_drewN | apply below_drew1) | exact HB.out))) : w.heap.size ≤ gb118)); have n3_ := Aside0.mk ((by rw [hg]; exact (below_size (by repeat (first | (with_reducible first | exact HB.out | apply below_alloc | apply pw_below_drewN | apply below_drew1) | exact HB.out))) : w.heap.size ≤ gb118)); clear HB; have HB := n0_; have BK118 := n1_; have GW118 := n2_; have GE118 := n3_; clear n0_ n1_ n2_ n3_; clear hb hbox hg))
    go_ret
    exact ⟨by first | rfl | (simp [errW_none, errW_some] <;> rfl) | (simp [*, errW_none, errW_some] <;> rfl), by repeat (first | (with_reducible first | exact HB.out | apply below_alloc | apply pw_below_drewN | apply below_drew1 | refine below_set ?_ GE118.out) | exact HB.out)⟩

end Go.Proofs.YtneokkhnjnomdaaGreatDoor.PSh

/-! PShx6 -/
namespace Go.Proofs.YtneokkhnjnomdaaGreatDoor.PSh
open Go.RowKit Go.Proofs.YtneokkhnjnomdaaGreatDoorW.PrintWords

def spindleref07_Symbol.f (_k : Nat) (a0 : ByteArray) : Option (Bool) := some (symL a0.data.toList)
theorem spindleref07_Symbol.mono : ∀ a0 k, LeO (spindleref07_Symbol.f k a0) (spindleref07_Symbol.f (k + 1) a0) := fun _ _ => LeO.refl _
theorem spindleref07_Symbol.calls (k : Nat) (a0 : ByteArray) (r : Bool) (w : World) (h : spindleref07_Symbol.f k a0 = some r) :
    Calls Tryz.prog 76 #[.string a0] w fun e w' => e = .returned (.bool r) ∧ Drawn0 w w' := by
  refine (refsymbol_any a0 w).mono ?_
  rintro e w' ⟨rfl, rfl⟩
  unfold spindleref07_Symbol.f at h
  cases h
  exact ⟨rfl, Drawn0.refl _⟩
end Go.Proofs.YtneokkhnjnomdaaGreatDoor.PSh
