/-
  Words on memory that all walks of this seat use: what is owned, and the shape of the world, are kept where nothing below is written.
  errors.Is, at kinds of api's and at nil.
  errors.Is and errors.As through an error with its place.
  What layer 2 computes, in plain words: no program in sight.
  Walks of fix's sums, products and divisions.
  An error's kind and place, as the law takes them.
  What the variable errors.errorType, which the rows list, gives; a world for the rows' witness.
  Walks: sums and differences, of fix and of the reference.
  Walks: products and divisions of fix.
  Walks: the divisions of fix.
  Walks: the reference's product and divisions.
  Walks: the reference's Mul and Modulo; says.
  What a text is as a number: in plain words; and by fix's loop.
  Walks of fix.Parse.
  Walks of the reference's Parse.
  Walks: a number's text, by fix and by the reference.
-/
import Derived.Test.YthighbbikpnpgaaDoorProg
import Derived.WalkKit
import Derived.KernelRfl
import Derived.Lib.Hide
import Derived.ChangeAgain
import Derived.Deep.Draws
import Derived.LaidEql
import Derived.Stop.Asserts
import Derived.RowKitTokens
import Derived.Test.YthighbbikpnpgaaDoorWWords
import Derived.Deep.LoopGhost
import Derived.Handy
import Derived.Test.YthighbbikpnpgaaDoorCards
import Derived.Test.YthighbbikpnpgaaDoorTie
import Derived.ProofKit
import Derived.OpenShut
import Derived.LaidLaws
import Derived.LaidHandle
import Derived.Stop.Joined
import Derived.Deep.DeepHandedRow
import Derived.Lib.Strings
import Derived.Lib.ConvBytes
import Derived.Deep.DeepCutAuto
import Derived.Deep.CutBlock
import Derived.Test.YthighbbikpnpgaaDoorShelf
import Derived.Lib.AppendIntMem
import Derived.Lib.ItoaLen

/-! W -/
namespace Go.Proofs.YthighbbikpnpgaaDoor
open Go.RowKit

theorem own_below {w w' : World} {B : Nat} {e : TypeId} {size n : Nat} {v : Value} {xs : List Value} (h : w.ownsRow B e size v n xs) (hb : Below w.heap.size w w') : w'.ownsRow B e size v n xs :=
  h.kept (row := none) ⟨hb.os, hb.tape, hb.output, hb.size, fun k hk _ => hb.block k hk⟩ (by cases v.ownBlock <;> simp)

theorem own_mono {w : World} {B B' : Nat} {e : TypeId} {size n : Nat} {v : Value} {xs : List Value} (h : w.ownsRow B e size v n xs) (hB : B' ≤ B) : w.ownsRow B' e size v n xs := by
  refine ⟨h.1, ?_⟩
  rcases h.2 with h2 | ⟨g, cap, cur, hv, hg, r⟩
  · exact .inl h2
  · exact .inr ⟨g, cap, cur, hv, Nat.le_trans hB hg, r⟩

theorem shaped_below {P : Program} {w w' : World} (h : w.ShapedOpen P) (hb : Below w.heap.size w w') : w'.ShapedOpen P :=
  h.keptBut (hb.frame (fun _ => False)) (fun _ hp => hp.elim)

theorem below_trans {w w1 w2 : World} (h : Below w.heap.size w w1) (k : Below w1.heap.size w1 w2) : Below w.heap.size w w2 :=
  h.trans (k.mono h.size)

theorem below_drewN {w w1 : World} (h : Below w.heap.size w w1) (n : Nat) : Below w.heap.size w (w1.drewN n) :=
  h.trans ⟨rfl, rfl, rfl, Nat.le_refl _, fun _ _ => rfl⟩

theorem add_zero_off (b j : Nat) : (⟨b, 0, none⟩ : Addr).add j = ⟨b, j, none⟩ := by
  unfold Addr.add; split <;> simp_all

/-- The cells of the newest block. -/
theorem news_new (w : World) (cs : List Value) (t : TypeId) (b : Nat) (hb : b = w.heap.size) : ∀ j u, cs[j]? = some u → (w.alloc (.cells cs.toArray t)).cell? ((⟨b, 0, none⟩ : Addr).add j) = some u := by
  subst hb
  intro j u h
  rw [add_zero_off, cell_of_row (w.alloc (.cells cs.toArray t)) w.heap.size j cs.toArray t (0, 0) (heap_alloc_new w _)]
  simpa using h

/-- A block of four cells, known whole: each of its cells, and that none is frozen. -/
theorem cells_at4 {w : World} {b : Nat} {a0 a1 a2 a3 : Value} {t : TypeId} (h : w.heap[b]? = some (.cells #[a0, a1, a2, a3] t (0, 0))) :
    (w.cell? ⟨b, 0, none⟩ = some a0 ∧ w.cell? ⟨b, 1, none⟩ = some a1 ∧ w.cell? ⟨b, 2, none⟩ = some a2 ∧ w.cell? ⟨b, 3, none⟩ = some a3) ∧
    (w.frozen? ⟨b, 0, none⟩ = false ∧ w.frozen? ⟨b, 1, none⟩ = false ∧ w.frozen? ⟨b, 2, none⟩ = false ∧ w.frozen? ⟨b, 3, none⟩ = false) := by
  refine ⟨⟨?_, ?_, ?_, ?_⟩, ?_, ?_, ?_, ?_⟩
  all_goals first | (rw [cell_of_row w b _ _ t (0, 0) h]; rfl) | simp [World.frozen?, h]

theorem heap_below {w w' : World} {B b : Nat} {o : Obj} (h : w.heap[b]? = some o) (hb : Below B w w') (hB : b < B) : w'.heap[b]? = some o := (hb.block b hB).trans h
theorem heap_lt {w : World} {b : Nat} {o : Obj} (h : w.heap[b]? = some o) : b < w.heap.size := (Array.getElem?_eq_some_iff.1 h).1
end Go.Proofs.YthighbbikpnpgaaDoor

/-! Is -/
namespace Go
section
variable {P : Program} (w : World)
theorem run_equalIn_kinds (d : Nat) {ti tn : TypeId} {ms : Array (String × TypeId)} {i : TypeInfo} {k : IntKind} (a b : Int)
    (hi : P.underlying ti = some (.interface ms)) (hn : P.underlying tn = some (.int k)) (hinfo : P.info? tn = some i) (hcomp : i.comparable = true) :
    (Op.equalIn (d + 2) ti (.iface tn (.int k a)) (.iface tn (.int k b))).run P w = .ok (a == b) w := by
  simp [Op.equalIn, run_underlying hi, run_underlying hn, typeInfo, hinfo, hcomp]

/-- Two interface values of one integer type are equal as the numbers are. -/
theorem run_eql_kinds {ti tn : TypeId} {ms : Array (String × TypeId)} {i : TypeInfo} {k : IntKind} (a b : Int)
    (hi : P.underlying ti = some (.interface ms)) (hn : P.underlying tn = some (.int k)) (hinfo : P.info? tn = some i) (hcomp : i.comparable = true) :
    (binOp .eql ti (.iface tn (.int k a)) (.iface tn (.int k b))).run P w = .ok (.bool (a == b)) w := by
  simp only [binOp]
  simp [Op.equal, Op.maxDepth, run_equalIn_kinds w 9998 a b hi hn hinfo hcomp]
end
end Go
namespace Go.Proofs.YthighbbikpnpgaaDoor
open Go.RowKit Go.Stop Go.Extern

/-- A kind as an error. -/
abbrev kindV (k : Int) : Value := .iface 35 (.int .i64 k)

theorem is_typeOf (v : Value) (w : World) : (Extern.ReflectliteType.typeOf #[.iface 35 v]).run Tryd.prog w = .ok (.iface 142 (.agg #[.pointer (some ⟨5, 35, none⟩)])) w := by kernel_rfl
theorem is_comparable (w : World) : (callFunc 160 #[.agg #[.pointer (some ⟨5, 35, none⟩)]]).run Tryd.prog w = .ok (Next.value (.bool true)) w := by
  have h32 := @run_callFunc_extern Tryd.prog 160 _ (Extern.ReflectliteType.method fun t => do Extern.Rtype.noPackHeld "Comparable" t; pure (.bool (← typeInfo t).comparable)) Tryd.func160 (by kernel_rfl) (by kernel_rfl) (by kernel_rfl) (by kernel_rfl)
  have hc : ((Extern.ReflectliteType.method fun t => do Extern.Rtype.noPackHeld "Comparable" t; pure (.bool (← typeInfo t).comparable)) #[.agg #[.pointer (some ⟨5, 35, none⟩)]]).run Tryd.prog w = .ok (.bool true) w := by kernel_rfl
  rw [h32, hc]
  rfl
theorem is_method (v : Value) (w : World) : (Go.method 343 142 v "Comparable").run Tryd.prog w = .ok (160, v) w := by kernel_rfl
theorem is_comp : (Tryd.prog.info? 35).map (·.comparable) = some true := by kernel_rfl

theorem no_is (v : Value) (xT : TypeId) (w : World) : (Instr.typeAssert (.iface 35 v) xT 144 true).run Tryd.prog w = .ok (.tuple #[.nilIface, .bool false]) w := run_typeAssert_lacksB Tryd.underlying144 (by kernel_rfl) (by kernel_rfl) v xT w
theorem no_unwrap (v : Value) (xT : TypeId) (w : World) : (Instr.typeAssert (.iface 35 v) xT 147 true).run Tryd.prog w = .ok (.tuple #[.nilIface, .bool false]) w := run_typeAssert_lacksB Tryd.underlying147 (by kernel_rfl) (by kernel_rfl) v xT w
theorem no_unwraps (v : Value) (xT : TypeId) (w : World) : (Instr.typeAssert (.iface 35 v) xT 149 true).run Tryd.prog w = .ok (.tuple #[.nilIface, .bool false]) w := run_typeAssert_lacksB Tryd.underlying149 (by kernel_rfl) (by kernel_rfl) v xT w

/-- errors.Is(a, b), both kinds. -/
theorem is_kind (a b : Int) (w : World) :
    Calls Tryd.prog 21 #[kindV a, kindV b] w fun e w' => e = .returned (.bool (a == b)) ∧ w' = w := by
  obtain ⟨i, hi, hcmp⟩ := Option.map_eq_some_iff.1 is_comp
  have h8 := @run_callFunc_extern Tryd.prog 57 _ Extern.ReflectliteType.typeOf Tryd.func57 (by kernel_rfl) (by kernel_rfl) (by kernel_rfl) (by kernel_rfl)
  have tT := is_typeOf
  have cT := is_comparable
  have mR := is_method
  have nE := no_is
  have uE := no_unwrap
  have vE := no_unwraps
  have heq := run_eql_kinds (P := Tryd.prog) w a b Tryd.underlying29 Tryd.underlying35 hi hcmp
  cases hab : (a == b)
  all_goals
    rw [hab] at heq
    go_enter Tryd.func21, Tryd.ntmps21
    go_wp2
    refine wp_loop_rounds 1 ?_
    rw [rounds_succ]
    go_wp2
    go_ret
    exact ⟨rfl, rfl⟩

/-- errors.Is(nil, b). -/
theorem is_nil (b : Int) (w : World) :
    Calls Tryd.prog 21 #[.nilIface, kindV b] w fun e w' => e = .returned (.bool false) ∧ w' = w := by
  have hn := run_eql_iface_nil_left (P := Tryd.prog) w 35 (.int .i64 b) Tryd.underlying29
  go_enter Tryd.func21, Tryd.ntmps21
  go_wp2
  go_ret
  exact ⟨rfl, rfl⟩
end Go.Proofs.YthighbbikpnpgaaDoor

/-! LeS -/
namespace Go.Proofs.YthighbbikpnpgaaDoor
open Go.RowKit Go.Stop Go.Extern Go.Extern.Stop Go.Proofs.YthighbbikpnpgaaDoorW.PrintWords

/-- An error with its place. -/
abbrev atV (l c k : Int) : Value := .iface 127 (.agg #[.int .i64 l, .int .i64 c, kindV k])

theorem at_no_is (v : Value) (xT : TypeId) (w : World) : (Instr.typeAssert (.iface 127 v) xT 144 true).run Tryd.prog w = .ok (.tuple #[.nilIface, .bool false]) w := run_typeAssert_lacksB Tryd.underlying144 (by kernel_rfl) (by kernel_rfl) v xT w
theorem at_unwrap (v : Value) (xT : TypeId) (w : World) : (Instr.typeAssert (.iface 127 v) xT 147 true).run Tryd.prog w = .ok (.tuple #[.iface 127 v, .bool true]) w := run_typeAssert_hasB Tryd.underlying147 (by kernel_rfl) v xT w
theorem at_method (v : Value) (w : World) : (Go.method 343 127 v "Unwrap").run Tryd.prog w = .ok (157, v) w := by kernel_rfl

set_option maxRecDepth 100000 in
set_option maxHeartbeats 4000000 in
theorem unwrap_any (l c k : Int) (w : World) : Calls Tryd.prog 157 #[.agg #[.int .i64 l, .int .i64 c, kindV k]] w fun e w' => e = .returned (kindV k) ∧ Below w.heap.size w w' := by
  go_enter Tryd.func157, Tryd.ntmps157
  go_wp2_with fail
  go_ret
  exact ⟨rfl, below_alloc (Below.refl _ _) _⟩

set_option maxRecDepth 100000 in
set_option maxHeartbeats 4000000 in
/-- errors.Is(an error with its place, b). -/
theorem is_at (l c a b : Int) (w : World) :
    Calls Tryd.prog 21 #[atV l c a, kindV b] w fun e w' => e = .returned (.bool (a == b)) ∧ Below w.heap.size w w' := by
  obtain ⟨i, hi, hcmp⟩ := Option.map_eq_some_iff.1 is_comp
  have h8 := @run_callFunc_extern Tryd.prog 57 _ Extern.ReflectliteType.typeOf Tryd.func57 (by kernel_rfl) (by kernel_rfl) (by kernel_rfl) (by kernel_rfl)
  have tT := is_typeOf
  have cT := is_comparable
  have mR := is_method
  have nE := no_is
  have uE := no_unwrap
  have vE := no_unwraps
  have nA := at_no_is
  have uA := at_unwrap
  have mA := at_method
  have heq := fun w => run_eql_kinds (P := Tryd.prog) w a b Tryd.underlying29 Tryd.underlying35 hi hcmp
  have heqA := run_eql_iface_types (P := Tryd.prog) 127 35 (.agg #[.int .i64 l, .int .i64 c, kindV a]) (.int .i64 b) Tryd.underlying29 (by decide) w
  cases hab : (a == b)
  all_goals
    rw [hab] at heq
    go_enter Tryd.func21, Tryd.ntmps21
    go_wp2
    refine wp_loop_rounds 2 ?_
    rw [rounds_succ]
    go_wp2_with (first | (go_at_call 157; refine (unwrap_any l c a _).mono ?_; rintro e w' ⟨rfl, hb⟩))
    rw [rounds_succ]
    go_wp2
    go_ret
    exact ⟨rfl, hb⟩

/-! ### errors.As at a place's variable -/
abbrev EtIs (w : World) : Prop := w.cell? ⟨0, 0, none⟩ = some (.iface 142 (.agg #[.pointer (some ⟨5, 29, none⟩)]))

theorem as_valueP (t : Addr) (w : World) : (ReflectliteValue.unpack (.iface 129 (.pointer (some t)))).run Tryd.prog w
    = .ok (.agg #[.pointer (some ⟨5, 129, none⟩), .pointer (some ⟨w.heap.size, 0, none⟩), .int .u64 150]) (w.alloc (.cells #[.pointer (some t)] 129)) := by kernel_rfl
theorem as_typeP (a : Addr) (w : World) : (ReflectliteValue.methodAny (ReflectliteValue.valueError "reflectlite.Value.Type" 0) (fun t _ _ _ => ReflectliteType.toType t) #[.agg #[.pointer (some ⟨5, 129, none⟩), .pointer (some a), .int .u64 150]]).run Tryd.prog w
    = .ok (.iface 142 (.agg #[.pointer (some ⟨5, 129, none⟩)])) w := by kernel_rfl
theorem as_mKind (h : Value) (w : World) : (Go.method 343 142 (.agg #[h]) "Kind").run Tryd.prog w = .ok (152, h) w := by kernel_rfl
theorem as_kindP (w : World) : ((ReflectliteType.abiMethod fun t => (fun a : Nat => Value.int IntKind.u8 (a : Int)) <$> Rtype.kind t) #[.pointer (some ⟨5, 129, none⟩)]).run Tryd.prog w = .ok (.int .u8 22) w := by kernel_rfl
theorem as_kindS (w : World) : ((ReflectliteType.abiMethod fun t => (fun a : Nat => Value.int IntKind.u8 (a : Int)) <$> Rtype.kind t) #[.pointer (some ⟨5, 127, none⟩)]).run Tryd.prog w = .ok (.int .u8 25) w := by kernel_rfl
theorem as_rlm (z : Sem Value) (f : TypeId → Addr → Nat → Nat → Sem Value) (v : Value) :
    ReflectliteValue.method z f #[v] = (do match ← ReflectliteValue.parts v with | none => z | some (t, a, fl) => f t a fl (fl % 32)) := rfl
theorem as_partsP (a : Addr) (w : World) : (ReflectliteValue.parts (.agg #[.pointer (some ⟨5, 129, none⟩), .pointer (some a), .int .u64 150])).run Tryd.prog w = .ok (some (129, a, 150)) w := by kernel_rfl
theorem as_isNil (a p : Addr) (W : World) (ha : W.cell? a = some (.pointer (some p))) :
    (ReflectliteValue.method (ReflectliteValue.valueError "reflectlite.Value.IsNil" 0) ReflectliteValue.isNil #[.agg #[.pointer (some ⟨5, 129, none⟩), .pointer (some a), .int .u64 150]]).run Tryd.prog W = .ok (.bool false) W := by
  rw [as_rlm]
  simp only [Sem.run_bind, as_partsP, Result.andThen]
  simp [ReflectliteValue.isNil, loadVar, isAgg, underlying, Tryd.underlying129, ha, Result.andThen]
theorem as_mElem (h : Value) (w : World) : (Go.method 343 142 (.agg #[h]) "Elem").run Tryd.prog w = .ok (161, .agg #[h]) w := by kernel_rfl
theorem as_mImpl (h : Value) (w : World) : (Go.method 343 142 (.agg #[h]) "Implements").run Tryd.prog w = .ok (162, .agg #[h]) w := by kernel_rfl
theorem as_mAssign (h : Value) (w : World) : (Go.method 343 142 (.agg #[h]) "AssignableTo").run Tryd.prog w = .ok (159, .agg #[h]) w := by kernel_rfl
theorem as_elemP (w : World) : (ReflectliteType.method ReflectliteType.elem #[.agg #[.pointer (some ⟨5, 129, none⟩)]]).run Tryd.prog w = .ok (.iface 142 (.agg #[.pointer (some ⟨5, 127, none⟩)])) w := by kernel_rfl
theorem as_implS (w : World) : (ReflectliteType.relation "Implements" ReflectliteType.implements_ #[.agg #[.pointer (some ⟨5, 127, none⟩)], .iface 142 (.agg #[.pointer (some ⟨5, 29, none⟩)])]).run Tryd.prog w = .ok (.bool true) w := by kernel_rfl
theorem as_typeS (v : Value) (w : World) : (ReflectliteType.typeOf #[.iface 127 v]).run Tryd.prog w = .ok (.iface 142 (.agg #[.pointer (some ⟨5, 127, none⟩)])) w := by kernel_rfl
theorem as_typeK (v : Value) (w : World) : (ReflectliteType.typeOf #[.iface 35 v]).run Tryd.prog w = .ok (.iface 142 (.agg #[.pointer (some ⟨5, 35, none⟩)])) w := by kernel_rfl
theorem as_assignS (w : World) : (ReflectliteType.relation "AssignableTo" ReflectliteType.assignableTo #[.agg #[.pointer (some ⟨5, 127, none⟩)], .iface 142 (.agg #[.pointer (some ⟨5, 127, none⟩)])]).run Tryd.prog w = .ok (.bool true) w := by kernel_rfl
theorem as_assignK (w : World) : (ReflectliteType.relation "AssignableTo" ReflectliteType.assignableTo #[.agg #[.pointer (some ⟨5, 35, none⟩)], .iface 142 (.agg #[.pointer (some ⟨5, 127, none⟩)])]).run Tryd.prog w = .ok (.bool false) w := by kernel_rfl
theorem as_valueS (l c k : Int) (w : World) : (ReflectliteValue.unpack (atV l c k)).run Tryd.prog w
    = .ok (.agg #[.pointer (some ⟨5, 127, none⟩), .pointer (some ⟨w.heap.size, 0, none⟩), .int .u64 153]) (w.alloc (.cells #[.int .i64 l, .int .i64 c, kindV k] 127)) := by kernel_rfl
theorem as_elemOf (w : World) : (Rtype.elem? 129).run Tryd.prog w = .ok (some 127) w := by kernel_rfl
theorem as_mk (p : Addr) (w : World) : (ReflectliteValue.mk 127 p ReflectliteValue.flagAddr).run Tryd.prog w = .ok (.agg #[.pointer (some ⟨5, 127, none⟩), .pointer (some p), .int .u64 409]) w := by kernel_rfl
theorem as_elemV (a p : Addr) (W : World) (ha : W.cell? a = some (.pointer (some p))) :
    (ReflectliteValue.method (ReflectliteValue.valueError "reflectlite.Value.Elem" 0) ReflectliteValue.elem #[.agg #[.pointer (some ⟨5, 129, none⟩), .pointer (some a), .int .u64 150]]).run Tryd.prog W
      = .ok (.agg #[.pointer (some ⟨5, 127, none⟩), .pointer (some p), .int .u64 409]) W := by
  rw [as_rlm]
  simp only [Sem.run_bind, as_partsP, Result.andThen]
  simp [ReflectliteValue.elem, loadVar, isAgg, underlying, Tryd.underlying129, ha, Result.andThen, as_elemOf, as_mk]
theorem as_rls (v x : Value) : ReflectliteValue.set #[v, x] = (do
    let (some (dst, a, fl), some (src, b, _)) := (← ReflectliteValue.parts v, ← ReflectliteValue.parts x)
      | unsupported (.noEntry "extern/(internal/reflectlite.Value).Set.zeroValue")
    if fl / ReflectliteValue.flagAddr % 2 == 0 then unsupported (.noEntry "extern/(internal/reflectlite.Value).Set.unaddressable")
    let val ← loadVar src b
    if ← Rtype.directlyAssignable dst src then storeVar dst a val
    else if ← Rtype.implements dst src then
      if (← Rtype.kind src) == 20 then
        match val with
        | .nilIface => unsupported (.noEntry "extern/reflectlite: a nil value of one interface type handed on as a value of another")
        | _ => storeVar dst a val
      else storeVar dst a (.iface src val)
    else panicString ("reflectlite.Set: value of type " ++ (← Rtype.spelt src) ++ " is not assignable to type " ++ (← Rtype.spelt dst))
    pure (.tuple #[])) := rfl
theorem as_partsA (a : Addr) (w : World) : (ReflectliteValue.parts (.agg #[.pointer (some ⟨5, 127, none⟩), .pointer (some a), .int .u64 409])).run Tryd.prog w = .ok (some (127, a, 409)) w := by kernel_rfl
theorem as_partsB (a : Addr) (w : World) : (ReflectliteValue.parts (.agg #[.pointer (some ⟨5, 127, none⟩), .pointer (some a), .int .u64 153])).run Tryd.prog w = .ok (some (127, a, 153)) w := by kernel_rfl
theorem as_direct (w : World) : (Rtype.directlyAssignable 127 127).run Tryd.prog w = .ok true w := by kernel_rfl
theorem as_size (w : World) : (sizeOf 127).run Tryd.prog w = .ok 3 w := by kernel_rfl
theorem as_agg (w : World) : (isAgg 127).run Tryd.prog w = .ok true w := by kernel_rfl
theorem as_set (tb b : Nat) (l c k : Int) (o0 o1 o2 : Value) (W : World) (hb : W.heap[b]? = some (.cells #[.int .i64 l, .int .i64 c, kindV k] 127 (0, 0))) (ht : W.heap[tb]? = some (.cells #[o0, o1, o2] 127 (0, 0))) :
    (ReflectliteValue.set #[.agg #[.pointer (some ⟨5, 127, none⟩), .pointer (some ⟨tb, 0, none⟩), .int .u64 409], .agg #[.pointer (some ⟨5, 127, none⟩), .pointer (some ⟨b, 0, none⟩), .int .u64 153]]).run Tryd.prog W
      = .ok (.tuple #[]) (((W.setCell ⟨tb, 0, none⟩ (.int .i64 l)).setCell ⟨tb, 1, none⟩ (.int .i64 c)).setCell ⟨tb, 2, none⟩ (kindV k)) := by
  have b0 : W.cell? ⟨b, 0, none⟩ = some (.int .i64 l) := blk_cell hb 0
  have b1 : W.cell? ⟨b, 1, none⟩ = some (.int .i64 c) := blk_cell hb 1
  have b2 : W.cell? ⟨b, 2, none⟩ = some (kindV k) := blk_cell hb 2
  have t0 : W.cell? ⟨tb, 0, none⟩ = some o0 := blk_cell ht 0
  have f0 := blk_frozen ht 0
  have h1 := blk_set ht 0 (.int .i64 l)
  have t1 : (W.setCell ⟨tb, 0, none⟩ (.int .i64 l)).cell? ⟨tb, 1, none⟩ = some o1 := blk_cell h1 1
  have f1 := blk_frozen h1 1
  have h2 := blk_set h1 1 (.int .i64 c)
  have t2 : ((W.setCell ⟨tb, 0, none⟩ (.int .i64 l)).setCell ⟨tb, 1, none⟩ (.int .i64 c)).cell? ⟨tb, 2, none⟩ = some o2 := blk_cell h2 2
  have f2 := blk_frozen h2 2
  rw [as_rls]
  simp only [Sem.run_bind, as_partsA, as_partsB, Result.andThen]
  simp [ReflectliteValue.flagAddr, loadVar, loadCells, loadCellsFrom, b0, b1, b2, Result.andThen, as_direct, storeVar, Value.cells, storeCells, Addr.add]
  rw [run_store Tryd.prog W _ _ _ (by rfl)]
  simp [t0, f0]
  rw [run_store Tryd.prog _ _ _ _ (by rfl)]
  simp [t1, f1]
  rw [run_store Tryd.prog _ _ _ _ (by rfl)]
  simp [t2, f2]

/-- errors.As(nil, target) is not asked; errors.As(a kind, target): false. -/
structure AsTo (tb : Nat) (r : Bool) (a b : Int) (e' : Value) (w : World) (e : Ending) (w' : World) : Prop where
  ret : e = .returned (.bool r)
  cells : w'.heap[tb]? = some (.cells #[.int .i64 a, .int .i64 b, e'] 127 (0, 0))
  keep : KeepBut w w' tb none
  same : w'.os = w.os ∧ w'.tape = w.tape ∧ w'.output = w.output

theorem AsTo.below {tb : Nat} {r : Bool} {a b : Int} {e' : Value} {w : World} {e : Ending} {w' : World} (h : AsTo tb r a b e' w e w') {B : Nat} (hB : B ≤ tb) (hw : B ≤ w.heap.size) : Below B w w' := ⟨h.same.1, h.same.2.1, h.same.2.2, h.keep.1, fun i hi => h.keep.2 i (by omega) (by omega) (by simp)⟩

theorem at_no_as (v : Value) (xT : TypeId) (w : World) : (Instr.typeAssert (.iface 127 v) xT 192 true).run Tryd.prog w = .ok (.tuple #[.nilIface, .bool false]) w := run_typeAssert_lacksB Tryd.underlying192 (by kernel_rfl) (by kernel_rfl) v xT w
theorem kind_no_as (v : Value) (xT : TypeId) (w : World) : (Instr.typeAssert (.iface 35 v) xT 192 true).run Tryd.prog w = .ok (.tuple #[.nilIface, .bool false]) w := run_typeAssert_lacksB Tryd.underlying192 (by kernel_rfl) (by kernel_rfl) v xT w

abbrev asW (tb : Nat) (w : World) : World := ((w.alloc (.cells #[.pointer (some ⟨tb, 0, none⟩)] 129)).alloc (.cells #[.pointer (some ⟨5, 129, none⟩), .pointer (some ⟨w.heap.size, 0, none⟩), .int .u64 150] 165)).alloc (.cells #[.pointer (some ⟨5, 129, none⟩), .pointer (some ⟨w.heap.size, 0, none⟩), .int .u64 150] 165)

set_option maxRecDepth 100000 in
set_option maxHeartbeats 4000000 in
theorem as_kind (k : Int) (tb : Nat) (a b : Int) (e' : Value) (w : World) (hg : EtIs w) (ht : w.heap[tb]? = some (.cells #[.int .i64 a, .int .i64 b, e'] 127 (0, 0))) :
    Calls Tryd.prog 70 #[kindV k, .iface 129 (.pointer (some ⟨tb, 0, none⟩))] w (AsTo tb false a b e' w) := by
  have h6 := @run_callFunc_extern Tryd.prog 93 _ (fun args => ReflectliteValue.unpack (args.getD 0 (.tuple #[]))) Tryd.func93 (by kernel_rfl) (by kernel_rfl) (by kernel_rfl) (by kernel_rfl)
  have h7 := @run_callFunc_extern Tryd.prog 94 _ (ReflectliteValue.methodAny (ReflectliteValue.valueError "reflectlite.Value.Type" 0) (fun t _ _ _ => ReflectliteType.toType t)) Tryd.func94 (by kernel_rfl) (by kernel_rfl) (by kernel_rfl) (by kernel_rfl)
  have h8 := @run_callFunc_extern Tryd.prog 95 _ (ReflectliteValue.method (ReflectliteValue.valueError "reflectlite.Value.IsNil" 0) ReflectliteValue.isNil) Tryd.func95 (by kernel_rfl) (by kernel_rfl) (by kernel_rfl) (by kernel_rfl)
  have h27 := @run_callFunc_extern Tryd.prog 152 _ (ReflectliteType.abiMethod fun t => do pure (.int .u8 (← Rtype.kind t))) Tryd.func152 (by kernel_rfl) (by kernel_rfl) (by kernel_rfl) (by kernel_rfl)
  have h37 := @run_callFunc_extern Tryd.prog 161 _ (ReflectliteType.method ReflectliteType.elem) Tryd.func161 (by kernel_rfl) (by kernel_rfl) (by kernel_rfl) (by kernel_rfl)
  have h38 := @run_callFunc_extern Tryd.prog 162 _ (ReflectliteType.relation "Implements" ReflectliteType.implements_) Tryd.func162 (by kernel_rfl) (by kernel_rfl) (by kernel_rfl) (by kernel_rfl)
  have h10 := @run_callFunc_extern Tryd.prog 57 _ ReflectliteType.typeOf Tryd.func57 (by kernel_rfl) (by kernel_rfl) (by kernel_rfl) (by kernel_rfl)
  have h35 := @run_callFunc_extern Tryd.prog 159 _ (ReflectliteType.relation "AssignableTo" ReflectliteType.assignableTo) Tryd.func159 (by kernel_rfl) (by kernel_rfl) (by kernel_rfl) (by kernel_rfl)
  have tO := as_typeK
  have mA := as_mAssign
  have a25 := as_assignK
  have f6 := as_valueP
  have f7 := as_typeP
  have mK := as_mKind
  have mE := as_mElem
  have mI := as_mImpl
  have k27 := as_kindP
  have k25 := as_kindS
  have e27 := as_elemP
  have i25 := as_implS
  have nS := kind_no_as
  have uE := no_unwrap
  have vE := no_unwraps
  have n8 := as_isNil ⟨w.heap.size, 0, none⟩ ⟨tb, 0, none⟩ ((w.alloc (.cells #[.pointer (some ⟨tb, 0, none⟩)] 129)).alloc (.cells #[.pointer (some ⟨5, 129, none⟩), .pointer (some ⟨w.heap.size, 0, none⟩), .int .u64 150] 165)) (by simp)
  have hlt : 0 < w.heap.size := by
    rcases Nat.lt_or_ge 0 w.heap.size with h | h
    · exact h
    · simp [EtIs, World.cell?, Array.getElem?_eq_none h] at hg
  have hg2 : ((w.alloc (.cells #[.pointer (some ⟨tb, 0, none⟩)] 129)).alloc (.cells #[.pointer (some ⟨5, 129, none⟩), .pointer (some ⟨w.heap.size, 0, none⟩), .int .u64 150] 165)).cell? ⟨0, 0, none⟩ = some (.iface 142 (.agg #[.pointer (some ⟨5, 29, none⟩)])) := by
    rw [World.cell?_alloc_lt _ _ ⟨0, 0, none⟩ (by simp), World.cell?_alloc_lt _ _ ⟨0, 0, none⟩ hlt]; exact hg
  have HT := Lib.hid ht
  clear ht
  go_enter Tryd.func70, Tryd.ntmps70
  go_wp2
  refine wp_loop_rounds 1 ?_
  rw [rounds_succ]
  go_wp2
  go_ret
  exact ⟨rfl, blk_alloc (blk_alloc (blk_alloc HT.out _) _) _, keep_alloc (keep_alloc (keep_alloc (KeepBut.refl w tb none) _) _) _, rfl, rfl, rfl⟩

set_option maxRecDepth 100000 in
set_option maxHeartbeats 4000000 in
theorem as_at (l c k : Int) (tb : Nat) (a b : Int) (e' : Value) (w : World) (hg : EtIs w) (ht : w.heap[tb]? = some (.cells #[.int .i64 a, .int .i64 b, e'] 127 (0, 0))) :
    Calls Tryd.prog 70 #[atV l c k, .iface 129 (.pointer (some ⟨tb, 0, none⟩))] w (AsTo tb true l c (kindV k) w) := by
  have h6 := @run_callFunc_extern Tryd.prog 93 _ (fun args => ReflectliteValue.unpack (args.getD 0 (.tuple #[]))) Tryd.func93 (by kernel_rfl) (by kernel_rfl) (by kernel_rfl) (by kernel_rfl)
  have h7 := @run_callFunc_extern Tryd.prog 94 _ (ReflectliteValue.methodAny (ReflectliteValue.valueError "reflectlite.Value.Type" 0) (fun t _ _ _ => ReflectliteType.toType t)) Tryd.func94 (by kernel_rfl) (by kernel_rfl) (by kernel_rfl) (by kernel_rfl)
  have h8 := @run_callFunc_extern Tryd.prog 95 _ (ReflectliteValue.method (ReflectliteValue.valueError "reflectlite.Value.IsNil" 0) ReflectliteValue.isNil) Tryd.func95 (by kernel_rfl) (by kernel_rfl) (by kernel_rfl) (by kernel_rfl)
  have h27 := @run_callFunc_extern Tryd.prog 152 _ (ReflectliteType.abiMethod fun t => do pure (.int .u8 (← Rtype.kind t))) Tryd.func152 (by kernel_rfl) (by kernel_rfl) (by kernel_rfl) (by kernel_rfl)
  have h37 := @run_callFunc_extern Tryd.prog 161 _ (ReflectliteType.method ReflectliteType.elem) Tryd.func161 (by kernel_rfl) (by kernel_rfl) (by kernel_rfl) (by kernel_rfl)
  have h38 := @run_callFunc_extern Tryd.prog 162 _ (ReflectliteType.relation "Implements" ReflectliteType.implements_) Tryd.func162 (by kernel_rfl) (by kernel_rfl) (by kernel_rfl) (by kernel_rfl)
  have h10 := @run_callFunc_extern Tryd.prog 57 _ ReflectliteType.typeOf Tryd.func57 (by kernel_rfl) (by kernel_rfl) (by kernel_rfl) (by kernel_rfl)
  have h35 := @run_callFunc_extern Tryd.prog 159 _ (ReflectliteType.relation "AssignableTo" ReflectliteType.assignableTo) Tryd.func159 (by kernel_rfl) (by kernel_rfl) (by kernel_rfl) (by kernel_rfl)
  have h11 := @run_callFunc_extern Tryd.prog 111 _ (ReflectliteValue.method (ReflectliteValue.valueError "reflectlite.Value.Elem" 0) ReflectliteValue.elem) Tryd.func111 (by kernel_rfl) (by kernel_rfl) (by kernel_rfl) (by kernel_rfl)
  have h12 := @run_callFunc_extern Tryd.prog 112 _ ReflectliteValue.set Tryd.func112 (by kernel_rfl) (by kernel_rfl) (by kernel_rfl) (by kernel_rfl)
  have tO := as_typeS
  have mA := as_mAssign
  have a25 := as_assignS
  have v25 := as_valueS
  have f6 := as_valueP
  have f7 := as_typeP
  have mK := as_mKind
  have mE := as_mElem
  have mI := as_mImpl
  have k27 := as_kindP
  have k25 := as_kindS
  have e27 := as_elemP
  have i25 := as_implS
  have n8 := as_isNil ⟨w.heap.size, 0, none⟩ ⟨tb, 0, none⟩ ((w.alloc (.cells #[.pointer (some ⟨tb, 0, none⟩)] 129)).alloc (.cells #[.pointer (some ⟨5, 129, none⟩), .pointer (some ⟨w.heap.size, 0, none⟩), .int .u64 150] 165)) (by simp)
  have hlt : 0 < w.heap.size := by
    rcases Nat.lt_or_ge 0 w.heap.size with h | h
    · exact h
    · simp [EtIs, World.cell?, Array.getElem?_eq_none h] at hg
  have hg2 : ((w.alloc (.cells #[.pointer (some ⟨tb, 0, none⟩)] 129)).alloc (.cells #[.pointer (some ⟨5, 129, none⟩), .pointer (some ⟨w.heap.size, 0, none⟩), .int .u64 150] 165)).cell? ⟨0, 0, none⟩ = some (.iface 142 (.agg #[.pointer (some ⟨5, 29, none⟩)])) := by
    rw [World.cell?_alloc_lt _ _ ⟨0, 0, none⟩ (by simp), World.cell?_alloc_lt _ _ ⟨0, 0, none⟩ hlt]; exact hg
  have htl : tb < w.heap.size := blk_lt ht
  have el := as_elemV ⟨w.heap.size, 0, none⟩ ⟨tb, 0, none⟩ (asW tb w) (by rw [World.cell?_alloc_lt _ _ ⟨w.heap.size, 0, none⟩ (by simp; omega)]; simp)
  have HT := Lib.hid (show ((asW tb w).alloc (.cells #[.int .i64 l, .int .i64 c, kindV k] 127)).heap[tb]? = some (.cells #[.int .i64 a, .int .i64 b, e'] 127 (0, 0)) from blk_alloc (blk_alloc (blk_alloc (blk_alloc ht _) _) _) _)
  have HN : ((asW tb w).alloc (.cells #[.int .i64 l, .int .i64 c, kindV k] 127)).heap[w.heap.size + 1 + 1 + 1]? = some (.cells #[.int .i64 l, .int .i64 c, kindV k] 127 (0, 0)) := by
    have := blk_new (asW tb w) (.cells #[.int .i64 l, .int .i64 c, kindV k] 127 (0, 0))
    rw [show (asW tb w).heap.size = w.heap.size + 1 + 1 + 1 by simp] at this
    exact this
  have st := as_set tb (w.heap.size + 1 + 1 + 1) l c k _ _ _ _ HN HT.out
  clear HN ht
  go_enter Tryd.func70, Tryd.ntmps70
  go_wp2
  refine wp_loop_rounds 1 ?_
  rw [rounds_succ]
  go_wp2
  go_ret
  exact ⟨rfl, blk_set (blk_set (blk_set HT.out 0 _) 1 _) 2 _, (((keep_alloc (keep_alloc (keep_alloc (keep_alloc (KeepBut.refl w tb none) _) _) _) _).set_ 0 _).set_ 1 _).set_ 2 _, rfl, rfl, rfl⟩
end Go.Proofs.YthighbbikpnpgaaDoor

/-! FL -/
namespace Go.Proofs.YthighbbikpnpgaaDoor
open Go.RowKit

/-- May it be a number? -/
def Num (n : Int) : Bool := decide (-1152921504606846976 ≤ n) && decide (n ≤ 1152921504606846975)
theorem num_iff {n : Int} : Num n = true ↔ -1152921504606846976 ≤ n ∧ n ≤ 1152921504606846975 := by simp [Num]

/-- A number and a kind of error, 0 if there is none. -/
def fitL (n : Int) : Int × Int := if Num n = true then (n, 0) else (0, 11)
def addL (a b : Int) : Int × Int := if (Num a && Num b) = true then fitL (a + b) else (0, 2)
def subL (a b : Int) : Int × Int := if (Num a && Num b) = true then fitL (a - b) else (0, 2)
def mulL (a b : Int) : Int × Int := if (Num a && Num b) = true then fitL (a * b) else (0, 2)
/-- What stands in the divisions' place where nothing is refused. -/
def divWith (f : Int × Int) (a b : Int) : Int × Int := if (Num a && Num b) = true then (if (b == 0) = true then (0, 12) else f) else (0, 2)
def modOf (a b : Int) : Int := if a.tmod b ≠ 0 ∧ ((a.tmod b < 0) ≠ (b < 0)) then a.tmod b + b else a.tmod b
def quoL (a b : Int) : Int × Int := divWith (fitL (a.tdiv b)) a b
def remL (a b : Int) : Int × Int := divWith (a.tmod b, 0) a b
def modL (a b : Int) : Int × Int := divWith (modOf a b, 0) a b

theorem tmod_bound {a b : Int} (ha : Num a = true) (hb : Num b = true) (h0 : b ≠ 0) : Num (a.tmod b) = true ∧ Num (modOf a b) = true := by
  rw [num_iff] at *
  have h1 : (a.tmod b).natAbs < b.natAbs := by
    rw [Int.natAbs_tmod]
    exact Nat.mod_lt _ (by omega)
  have h2 : (a.tmod b).natAbs ≤ a.natAbs := by
    rw [Int.natAbs_tmod]
    exact Nat.mod_le _ _
  generalize hr : a.tmod b = r at h1 h2
  have hb' : b = (b.natAbs : Int) ∨ b = -(b.natAbs : Int) := Int.natAbs_eq b
  have ha' : a = (a.natAbs : Int) ∨ a = -(a.natAbs : Int) := Int.natAbs_eq a
  refine ⟨by omega, ?_⟩
  unfold modOf
  rw [hr, num_iff]
  split
  · rename_i h
    obtain ⟨h3, h4⟩ := h
    by_cases hr0 : r < 0
    · by_cases hb0 : b < 0
      · exact absurd (propext ⟨fun _ => hb0, fun _ => hr0⟩) h4
      · omega
    · by_cases hb0 : b < 0
      · omega
      · exact absurd (propext ⟨fun h => absurd h hr0, fun h => absurd h hb0⟩) h4
  · omega

theorem tdiv_bound {a b : Int} (ha : Num a = true) : -1152921504606846976 ≤ a.tdiv b ∧ a.tdiv b ≤ 1152921504606846976 := by
  rw [num_iff] at ha
  have h2 : (a.tdiv b).natAbs ≤ a.natAbs := by
    rw [Int.natAbs_tdiv]
    exact Nat.div_le_self _ _
  omega

/-- The product's own check. -/
theorem mul_check {a b : Int} (ha : Num a = true) (h0 : a ≠ 0) : (Num (a * b) = true → wrap64 (a * b) = a * b ∧ (a * b).tdiv a = b) ∧ (Num (a * b) = false → (wrap64 (a * b)).tdiv a ≠ b ∨ Num (wrap64 (a * b)) = false) := by
  refine ⟨fun h => ?_, fun h => ?_⟩
  · rw [num_iff] at h
    refine ⟨?_, Int.mul_tdiv_cancel_left _ h0⟩
    generalize a * b = p at h
    unfold wrap64
    omega
  · by_cases h1 : (wrap64 (a * b)).tdiv a = b
    · right
      have h2 := Int.tmod_add_mul_tdiv (wrap64 (a * b)) a
      rw [h1] at h2
      have h3 : ((wrap64 (a * b)).tmod a).natAbs < a.natAbs := by
        rw [Int.natAbs_tmod]
        exact Nat.mod_lt _ (by omega)
      rw [num_iff] at ha
      have h4 : wrap64 (a * b) = a * b := by
        generalize (wrap64 (a * b)).tmod a = r at h2 h3
        generalize a * b = p at h2
        unfold wrap64 at h2 ⊢
        omega
      rw [h4]
      exact h
    · exact .inl h1


/-- The product as the reference has it: of what is left of the signs. -/
theorem prod_le (x y m : Nat) (hy : 0 < y) : m / y < x ↔ m < x * y := by
  rw [Nat.div_lt_iff_lt_mul hy]

theorem natAbs_mul_pos {a b : Int} (h : (a < 0) = (b < 0)) : a * b = ((a.natAbs * b.natAbs : Nat) : Int) := by
  by_cases ha : a < 0
  · have hb : b < 0 := by rw [← h]; exact ha
    have e1 : a = -(a.natAbs : Int) := by omega
    have e2 : b = -(b.natAbs : Int) := by omega
    rw [Int.natCast_mul]
    generalize (a.natAbs : Int) = x at *
    generalize (b.natAbs : Int) = y at *
    rw [e1, e2, Int.neg_mul_neg]
  · have hb : ¬ b < 0 := by rw [← h]; omega
    have e1 : a = (a.natAbs : Int) := by omega
    have e2 : b = (b.natAbs : Int) := by omega
    rw [Int.natCast_mul, ← e1, ← e2]

theorem natAbs_mul_neg {a b : Int} (h : (a < 0) ≠ (b < 0)) : a * b = -((a.natAbs * b.natAbs : Nat) : Int) := by
  rw [Int.natCast_mul]
  by_cases ha : a < 0
  · have hb : ¬ b < 0 := fun hb => h (propext ⟨fun _ => hb, fun _ => ha⟩)
    have e1 : a = -(a.natAbs : Int) := by omega
    have e2 : b = (b.natAbs : Int) := by omega
    generalize (a.natAbs : Int) = x at *
    generalize (b.natAbs : Int) = y at *
    rw [e1, e2, Int.neg_mul]
  · have hb : b < 0 := by
      by_cases hb : b < 0
      · exact hb
      · exact absurd (propext ⟨fun h => absurd h (by omega), fun h => absurd h (by omega)⟩) h
    have e1 : a = (a.natAbs : Int) := by omega
    have e2 : b = -(b.natAbs : Int) := by omega
    generalize (a.natAbs : Int) = x at *
    generalize (b.natAbs : Int) = y at *
    rw [e1, e2, Int.mul_neg]
end Go.Proofs.YthighbbikpnpgaaDoor

/-! FA -/
namespace Go.Proofs.YthighbbikpnpgaaDoor
open Go.RowKit

/-- An error: nil, or a kind. -/
def errV (k : Int) : Value := if (k == 0) = true then .nilIface else kindV k
/-- A number and an error, as fix hands them back. -/
def resV (r : Int × Int) : Value := .tuple #[.int .i64 r.1, errV r.2]

theorem whole_any (n : Int) (w : World) : Calls Tryd.prog 125 #[.int .i64 n] w fun e w' => e = .returned (.bool (Num n)) ∧ w' = w := by
  by_cases h1 : n ≤ 1152921504606846975
  · by_cases h2 : -1152921504606846976 ≤ n
    all_goals
      have H : Hid (Num n = _) := (by simp only [Hid, Num, h1, h2]; rfl)
      go_enter Tryd.func125, Tryd.ntmps125
      go_wp2
      go_ret
      exact ⟨by rw [H.out]; simp, rfl⟩
  · have H : Hid (Num n = _) := (by simp only [Hid, Num, h1]; rfl)
    go_enter Tryd.func125, Tryd.ntmps125
    go_wp2
    go_ret
    exact ⟨by rw [H.out]; simp, rfl⟩

theorem fit_any (n : Int) (w : World) : Calls Tryd.prog 119 #[.int .i64 n] w fun e w' => e = .returned (resV (fitL n)) ∧ w' = w := by
  have H : Hid (fitL n = if Num n = true then (n, 0) else (0, 11)) := rfl
  generalize hN : Num n = b at H
  have HN := Lib.hid hN
  clear hN
  go_enter Tryd.func119, Tryd.ntmps119
  go_wp2_with fail
  refine (whole_any _ _).mono ?_
  rintro e w' ⟨rfl, rfl⟩
  rw [HN.out]
  cases b
  all_goals
    go_wp2_with fail
    go_ret2
    exact ⟨by rw [H.out]; rfl, rfl⟩

end Go.Proofs.YthighbbikpnpgaaDoor

/-! LeU -/
namespace Go.Proofs.YthighbbikpnpgaaDoor
open Go.RowKit Go.Proofs.YthighbbikpnpgaaDoorW.PrintWords

abbrev faultV (k l c : Int) : Value := .agg #[.int .i64 k, .int .i64 l, .int .i64 c]

theorem et_below {w w' : World} (h : EtIs w) (hb : Below w.heap.size w w') : EtIs w' :=
  keep_cell (KeepBut.of_below hb (0 + 1) none) h (by simp)

structure FaultTo (k l c : Int) (w : World) (e : Ending) (w' : World) : Prop where
  ret : e = .returned (faultV k l c)
  below : Below w.heap.size w w'

structure FaultI (k l c : Int) (w : World) (w' : World) : Prop where
  below : Below w.heap.size w w'
  out : w'.heap[w.heap.size + 1]? = some (.cells #[.int .i64 k, .int .i64 l, .int .i64 c] 64 (0, 0))
  res : w'.heap[w.heap.size]? = some (.cells #[.int .i64 0, .int .i64 0, .int .i64 0] 64 (0, 0))

theorem FaultI.step {k l c : Int} {w w1 w2 : World} (h : FaultI k l c w w1) (hb : Below w1.heap.size w1 w2) : FaultI k l c w w2 :=
  ⟨below_weaken h.below h.below.size hb, blk_below h.out hb, blk_below h.res hb⟩

theorem faultI_start (w : World) : FaultI (-1) 0 0 w ((w.alloc (.cells #[.int .i64 0, .int .i64 0, .int .i64 0] 64)).alloc (.cells #[.int .i64 (-1), .int .i64 0, .int .i64 0] 64)) := by
  refine ⟨below_alloc (below_alloc (Below.refl _ _) _) _, ?_, blk_alloc (blk_new w _) _⟩
  have := blk_new (w.alloc (.cells #[.int .i64 0, .int .i64 0, .int .i64 0] 64)) (.cells #[.int .i64 (-1), .int .i64 0, .int .i64 0] 64 (0, 0))
  rw [show (w.alloc (.cells #[.int .i64 0, .int .i64 0, .int .i64 0] 64)).heap.size = w.heap.size + 1 by simp] at this
  exact this

set_option maxRecDepth 100000 in
set_option maxHeartbeats 4000000 in
theorem fault_nil (w : World) : Calls Tryd.prog 34 #[.nilIface] w (FaultTo 0 0 0 w) := by
  go_enter Tryd.func34, Tryd.ntmps34
  (go_wp2_with fail; repeat (go_region; go_wp2_with fail))
  go_returns
  exact ⟨rfl, below_alloc (Below.refl _ _) _⟩

set_option maxRecDepth 100000 in
set_option maxHeartbeats 4000000 in
theorem fault_kind (k : Int) (hk : 1 ≤ k ∧ k ≤ 20) (w : World) (hg : EtIs w) : Calls Tryd.prog 34 #[kindV k] w (FaultTo k 0 0 w) := by
  obtain ⟨a, rfl⟩ : ∃ a : Nat, k = (a : Int) := ⟨k.toNat, by omega⟩
  have HG := Lib.hid hg
  clear hg
  go_enter Tryd.func34, Tryd.ntmps34
  (go_wp2_with fail; repeat (go_region; go_wp2_with fail))
  go_loopg [4] (21 - 1) (fun gk v w' => ∃ (j : Nat), v = .int .i64 (j : Nat) ∧ gk = 21 - j ∧ 1 ≤ j ∧ j ≤ a ∧ Hid (FaultI (-1) 0 0 w w'))
  case atStart => exact ⟨1, rfl, rfl, Nat.le_refl _, by omega, Lib.hid (faultI_start w)⟩
  case round =>
    obtain ⟨j, rfl, rfl, hj1, hj2, HJ⟩ := hrel
    have hj20 : (j : Int) ≤ 20 := by omega
    go_wp2_with fail
    refine (is_kind _ _ _).mono ?_
    rintro e w1 ⟨rfl, rfl⟩
    by_cases hja : j = a
    · subst hja
      have hb : ((j : Int) == (j : Int)) = true := by simp
      rw [hb]
      have o0 : w1.cell? ⟨w.heap.size + 1, 0, none⟩ = some (.int .i64 (-1)) := blk_cell HJ.out.out 0
      have g0 := blk_frozen HJ.out.out 0
      (go_wp2_with fail; repeat (go_region; go_wp2_with fail))
      have HF := Lib.hid (show FaultI (j : Nat) 0 0 w (w1.setCell ⟨w.heap.size + 1, 0, none⟩ (.int .i64 (j : Nat))) from ⟨below_set HJ.out.below (by omega), blk_set HJ.out.out 0 _, (Below.heap_setCell w1 _ _ _ (by simp)).trans HJ.out.res⟩)
      clear o0 g0
      refine (as_kind _ w1.heap.size 0 0 .nilIface _ (et_below HG.out (below_alloc HF.out.below _)) ?hc).mono ?_
      case hc =>
        have := blk_new (w1.setCell ⟨w.heap.size + 1, 0, none⟩ (.int .i64 (j : Nat))) (.cells #[.int .i64 0, .int .i64 0, .nilIface] 127 (0, 0))
        rw [show (w1.setCell ⟨w.heap.size + 1, 0, none⟩ (.int .i64 (j : Nat))).heap.size = w1.heap.size by simp] at this
        exact this
      rintro e w3 hw3
      obtain rfl := hw3.ret
      have hsz := HJ.out.below.size
      have hs1 : w.heap.size + 1 < w1.heap.size := blk_lt HJ.out.out
      have HF3 := Lib.hid (show FaultI (j : Nat) 0 0 w w3 from by
        have hb := hw3.below (B := w1.heap.size) (Nat.le_refl _) (by simp)
        refine ⟨(below_alloc HF.out.below _).trans (hb.mono hsz), (hb.block _ hs1).trans (blk_alloc HF.out.out _), (hb.block _ (by omega)).trans (blk_alloc HF.out.res _)⟩)
      clear hw3
      have o0 : w3.cell? ⟨w.heap.size + 1, 0, none⟩ = some (.int .i64 (j : Nat)) := blk_cell HF3.out.out 0
      have o1 : w3.cell? ⟨w.heap.size + 1, 1, none⟩ = some (.int .i64 0) := blk_cell HF3.out.out 1
      have o2 : w3.cell? ⟨w.heap.size + 1, 2, none⟩ = some (.int .i64 0) := blk_cell HF3.out.out 2
      have r0 : w3.cell? ⟨w.heap.size, 0, none⟩ = some (.int .i64 0) := blk_cell HF3.out.res 0
      have r1 : w3.cell? ⟨w.heap.size, 1, none⟩ = some (.int .i64 0) := blk_cell HF3.out.res 1
      have r2 : w3.cell? ⟨w.heap.size, 2, none⟩ = some (.int .i64 0) := blk_cell HF3.out.res 2
      have g0 := blk_frozen HF3.out.res 0
      have g1 := blk_frozen HF3.out.res 1
      have g2 := blk_frozen HF3.out.res 2
      (go_wp2_with fail; repeat (go_region; go_wp2_with fail))
      have HR := blk_set (blk_set (blk_set HF3.out.res 0 (.int .i64 (j : Nat))) 1 (.int .i64 0)) 2 (.int .i64 0)
      have q0 := blk_cell HR 0
      have q1 := blk_cell HR 1
      have q2 := blk_cell HR 2
      clear r0 r1 r2 o0 o1 o2 g0 g1 g2
      (try simp only [Exit.inBlock, Exit.then])
      refine bodyPost_ret (v := faultV (j : Nat) 0 0) (by simp [results, Tryd.results34, go_sem, q0, q1, q2]) rfl ?_
      exact ⟨rfl, below_set (below_set (below_set HF3.out.below (Nat.le_refl _)) (Nat.le_refl _)) (Nat.le_refl _)⟩
    · have hb : ((a : Int) == (j : Int)) = false := beq_eq_false_iff_ne.2 (by omega)
      rw [hb]
      (go_wp2_with fail; repeat (go_region; go_wp2_with fail))
      go_roundg (21 - (j + 1))
      case measure => omega
      case rel => exact ⟨j + 1, rfl, rfl, by omega, by omega, HJ⟩

set_option maxRecDepth 100000 in
set_option maxHeartbeats 4000000 in
theorem fault_at (l c k : Int) (hk : 1 ≤ k ∧ k ≤ 20) (w : World) (hg : EtIs w) : Calls Tryd.prog 34 #[atV l c k] w (FaultTo k l c w) := by
  obtain ⟨a, rfl⟩ : ∃ a : Nat, k = (a : Int) := ⟨k.toNat, by omega⟩
  have HG := Lib.hid hg
  clear hg
  go_enter Tryd.func34, Tryd.ntmps34
  (go_wp2_with fail; repeat (go_region; go_wp2_with fail))
  go_loopg [4] (21 - 1) (fun gk v w' => ∃ (j : Nat), v = .int .i64 (j : Nat) ∧ gk = 21 - j ∧ 1 ≤ j ∧ j ≤ a ∧ Hid (FaultI (-1) 0 0 w w'))
  case atStart => exact ⟨1, rfl, rfl, Nat.le_refl _, by omega, Lib.hid (faultI_start w)⟩
  case round =>
    obtain ⟨j, rfl, rfl, hj1, hj2, HJ0⟩ := hrel
    have hj20 : (j : Int) ≤ 20 := by omega
    go_wp2_with fail
    refine (is_at _ _ _ _ _).mono ?_
    rintro e w1 ⟨rfl, hb1⟩
    have HJ := Lib.hid (HJ0.out.step hb1)
    clear hb1 HJ0
    by_cases hja : j = a
    · subst hja
      have hb : ((j : Int) == (j : Int)) = true := by simp
      rw [hb]
      have o0 : w1.cell? ⟨w.heap.size + 1, 0, none⟩ = some (.int .i64 (-1)) := blk_cell HJ.out.out 0
      have g0 := blk_frozen HJ.out.out 0
      (go_wp2_with fail; repeat (go_region; go_wp2_with fail))
      have HF := Lib.hid (show FaultI (j : Nat) 0 0 w (w1.setCell ⟨w.heap.size + 1, 0, none⟩ (.int .i64 (j : Nat))) from ⟨below_set HJ.out.below (by omega), blk_set HJ.out.out 0 _, (Below.heap_setCell w1 _ _ _ (by simp)).trans HJ.out.res⟩)
      clear o0 g0
      refine (as_at _ _ _ w1.heap.size 0 0 .nilIface _ (et_below HG.out (below_alloc HF.out.below _)) ?hc).mono ?_
      case hc =>
        have := blk_new (w1.setCell ⟨w.heap.size + 1, 0, none⟩ (.int .i64 (j : Nat))) (.cells #[.int .i64 0, .int .i64 0, .nilIface] 127 (0, 0))
        rw [show (w1.setCell ⟨w.heap.size + 1, 0, none⟩ (.int .i64 (j : Nat))).heap.size = w1.heap.size by simp] at this
        exact this
      rintro e w3 hw3
      obtain rfl := hw3.ret
      have hsz := HJ.out.below.size
      have hs1 : w.heap.size + 1 < w1.heap.size := blk_lt HJ.out.out
      have HF3 := Lib.hid (show FaultI (j : Nat) 0 0 w w3 from by
        have hb := hw3.below (B := w1.heap.size) (Nat.le_refl _) (by simp)
        refine ⟨(below_alloc HF.out.below _).trans (hb.mono hsz), (hb.block _ hs1).trans (blk_alloc HF.out.out _), (hb.block _ (by omega)).trans (blk_alloc HF.out.res _)⟩)
      have a0 : w3.cell? ⟨w1.heap.size, 0, none⟩ = some (.int .i64 l) := blk_cell hw3.cells 0
      have a1 : w3.cell? ⟨w1.heap.size, 1, none⟩ = some (.int .i64 c) := blk_cell hw3.cells 1
      clear hw3
      have o0 : w3.cell? ⟨w.heap.size + 1, 0, none⟩ = some (.int .i64 (j : Nat)) := blk_cell HF3.out.out 0
      have o1 : w3.cell? ⟨w.heap.size + 1, 1, none⟩ = some (.int .i64 0) := blk_cell HF3.out.out 1
      have o2 : w3.cell? ⟨w.heap.size + 1, 2, none⟩ = some (.int .i64 0) := blk_cell HF3.out.out 2
      have r0 : w3.cell? ⟨w.heap.size, 0, none⟩ = some (.int .i64 0) := blk_cell HF3.out.res 0
      have r1 : w3.cell? ⟨w.heap.size, 1, none⟩ = some (.int .i64 0) := blk_cell HF3.out.res 1
      have r2 : w3.cell? ⟨w.heap.size, 2, none⟩ = some (.int .i64 0) := blk_cell HF3.out.res 2
      have p1 := blk_frozen HF3.out.out 1
      have p2 := blk_frozen HF3.out.out 2
      have g0 := blk_frozen HF3.out.res 0
      have g1 := blk_frozen HF3.out.res 1
      have g2 := blk_frozen HF3.out.res 2
      (go_wp2_with fail; repeat (go_region; go_wp2_with fail))
      have H2 := (Below.heap_setCell w3 ⟨w.heap.size + 1, 1, none⟩ (.int .i64 l) _ (by simp)).trans HF3.out.res
      have H3 := (Below.heap_setCell (w3.setCell ⟨w.heap.size + 1, 1, none⟩ (.int .i64 l)) ⟨w.heap.size + 1, 2, none⟩ (.int .i64 c) _ (by simp)).trans H2
      have HR := blk_set (blk_set (blk_set H3 0 (.int .i64 (j : Nat))) 1 (.int .i64 l)) 2 (.int .i64 c)
      have q0 := blk_cell HR 0
      have q1 := blk_cell HR 1
      have q2 := blk_cell HR 2
      clear r0 r1 r2 o0 o1 o2 g0 g1 g2 a0 a1 p1 p2
      (try simp only [Exit.inBlock, Exit.then])
      refine bodyPost_ret (v := faultV (j : Nat) l c) (by simp [results, Tryd.results34, go_sem, q0, q1, q2]) rfl ?_
      exact ⟨rfl, below_drew (below_set (below_set (below_set (below_set (below_set HF3.out.below (by omega)) (by omega)) (Nat.le_refl _)) (Nat.le_refl _)) (Nat.le_refl _))⟩
    · have hb : ((a : Int) == (j : Int)) = false := beq_eq_false_iff_ne.2 (by omega)
      rw [hb]
      (go_wp2_with fail; repeat (go_region; go_wp2_with fail))
      go_roundg (21 - (j + 1))
      case measure => omega
      case rel => exact ⟨j + 1, rfl, rfl, by omega, by omega, HJ⟩
end Go.Proofs.YthighbbikpnpgaaDoor

/-! LaidE -/
namespace Go.Proofs.YthighbbikpnpgaaDoor
open Go.ChangeShapes Go.WideShapes Go.ChangeAt Go.RowKit

theorem Tryd.own : ownKnob Tryd.prog.godebug = none := by kernel_rfl
theorem le_et : Tryd.prog.globalNamed "errors.errorType" = some 0 := by kernel_rfl
theorem le_rt : (Tryd.prog.cutTypes.find? (·.1 == "internal/reflectlite.rtype")).map (·.2) = some 142 := by kernel_rfl
theorem le_oneRow : ((List.range (343 - 100)).filter fun t => Tryd.prog.rowNamed t [101, 114, 114, 111, 114]) = [29] := by kernel_rfl
theorem le_size : Tryd.prog.types.size = 343 - 100 := by kernel_rfl

theorem laid_et {W : World} (h : laidMetH Tryd.prog Rows.lexNextRow.laid W) : EtIs W := by
  have h' : laidMet Tryd.prog [] W ∧ handlesMet Tryd.prog Rows.lexNextRow.laid W := h
  obtain ⟨name, u, ty, e1, e2, e3, e4, e5⟩ := h'.2 _ (List.mem_singleton.2 rfl)
  have en : name = [101, 114, 114, 111, 114] := (Option.some.inj e1).symm
  subst en
  obtain rfl := Option.some.inj (le_rt.symm.trans e2)
  have hm : ty ∈ (List.range (343 - 100)).filter fun t => Tryd.prog.rowNamed t [101, 114, 114, 111, 114] := List.mem_filter.2 ⟨List.mem_range.2 (by rw [← le_size]; exact e3), e4⟩
  rw [le_oneRow] at hm
  obtain rfl := List.mem_singleton.1 hm
  have hh : typeHandle Tryd.prog 29 = .pointer (some ⟨5, 29, none⟩) := by kernel_rfl
  rw [hh] at e5
  have := World.var?_cell le_et e5 0
  simpa [EtIs] using this

/-- A world for the witness: the settled one, the variable's cell laid. -/
noncomputable def laidWorld (os : Os) : World :=
  { World.holding Tryd.prog os ⟨#[], #[], []⟩ with heap := (World.holding Tryd.prog os ⟨#[], #[], []⟩).heap.modify 0 fun
      | .cells _ t frozen => .cells #[.iface 142 (.agg #[.pointer (some ⟨5, 29, none⟩)])] t frozen
      | o => o }
end Go.Proofs.YthighbbikpnpgaaDoor

/-! FB -/
namespace Go.Proofs.YthighbbikpnpgaaDoor
open Go.RowKit

/-- A number and a kind's number, as the reference hands them back. -/
def refV (r : Int × Int) : Value := .tuple #[.int .i64 r.1, .int .i64 r.2]

theorem refnum_any (n : Int) (w : World) : Calls Tryd.prog 40 #[.int .i64 n] w fun e w' => e = .returned (.bool (Num n)) ∧ w' = w := by
  by_cases h1 : n ≤ 1152921504606846975
  · have h3 : n < 1152921504606846976 := by omega
    by_cases h2 : -1152921504606846976 ≤ n
    all_goals
      have H : Hid (Num n = _) := (by simp only [Hid, Num, h1, h2]; rfl)
      go_enter Tryd.func40, Tryd.ntmps40
      go_wp2
      go_ret
      exact ⟨by rw [H.out]; simp, rfl⟩
  · have h3 : ¬ n < 1152921504606846976 := by omega
    have h2 : -1152921504606846976 ≤ n := by omega
    have H : Hid (Num n = _) := (by simp only [Hid, Num, h1, h2]; rfl)
    go_enter Tryd.func40, Tryd.ntmps40
    go_wp2
    go_ret
    exact ⟨by rw [H.out]; simp, rfl⟩

end Go.Proofs.YthighbbikpnpgaaDoor

/-! FC -/
namespace Go.Proofs.YthighbbikpnpgaaDoor
open Go.RowKit

theorem wrap64_in (x : Int) : -9223372036854775808 ≤ wrap64 x ∧ wrap64 x ≤ 9223372036854775807 := by unfold wrap64; omega

theorem mul_check' {a b : Int} (ha : Num a = true) (hb : Num b = true) (h0 : a ≠ 0) : (Num (a * b) = true → wrap64 (a * b) = a * b ∧ wrap64 ((wrap64 (a * b)).tdiv a) = b) ∧ (Num (a * b) = false → wrap64 ((wrap64 (a * b)).tdiv a) ≠ b ∨ Num (wrap64 (a * b)) = false) := by
  obtain ⟨hy, hn⟩ := mul_check (b := b) ha h0
  obtain ⟨n1, n2⟩ := wrap64_in (a * b)
  rw [num_iff] at hb
  refine ⟨fun h => ?_, fun h => ?_⟩
  · obtain ⟨e1, e2⟩ := hy h
    rw [e1, e2]
    refine ⟨rfl, ?_⟩
    unfold wrap64
    omega
  · rcases hn h with h1 | h1
    · left
      have hd : ((wrap64 (a * b)).tdiv a).natAbs ≤ (wrap64 (a * b)).natAbs := by
        rw [Int.natAbs_tdiv]
        exact Nat.div_le_self _ _
      generalize (wrap64 (a * b)).tdiv a = d at *
      generalize wrap64 (a * b) = n at *
      unfold wrap64
      omega
    · exact .inr h1

end Go.Proofs.YthighbbikpnpgaaDoor

/-! FD -/
namespace Go.Proofs.YthighbbikpnpgaaDoor
open Go.RowKit

/-- What divide comes to: 0: the quotient, 1: the remainder, 2: the modulo. -/
def divL (how a b : Int) : Int × Int := if (how == 2) = true then modL a b else if (how == 1) = true then remL a b else quoL a b

end Go.Proofs.YthighbbikpnpgaaDoor

/-! FE -/
namespace Go.Proofs.YthighbbikpnpgaaDoor
open Go.RowKit

theorem u64w (n : Int) : IntKind.u64.wrap n = n % 18446744073709551616 := rfl

/-- The reference's product: a number, and whether it may be. -/
def prodL (a b : Int) : Int × Bool := if Num (a * b) = true then (a * b, true) else (0, false)

end Go.Proofs.YthighbbikpnpgaaDoor

/-! FF -/
namespace Go.Proofs.YthighbbikpnpgaaDoor
open Go.RowKit

end Go.Proofs.YthighbbikpnpgaaDoor

/-! FP -/
namespace Go.Proofs.YthighbbikpnpgaaDoor
open Go.RowKit

def digB (c : UInt8) : Bool := decide (48 ≤ c.toNat) && decide (c.toNat ≤ 57)
def digV (c : UInt8) : Int := (c.toNat : Int) - 48
/-- The number that digits say. -/
def valL (l : List UInt8) : Int := l.foldl (fun n c => 10 * n + digV c) 0

theorem valL_snoc (l : List UInt8) (c : UInt8) : valL (l ++ [c]) = 10 * valL l + digV c := by simp [valL]

theorem digB_iff {c : UInt8} : digB c = true ↔ 48 ≤ c.toNat ∧ c.toNat ≤ 57 := by simp [digB]

/-- The digits of a text behind its sign. -/
def bodyL (s : List UInt8) : List UInt8 := match s with | [] => [] | c :: r => if (c == 45 || c == 43) = true then r else c :: r
def negL (s : List UInt8) : Bool := match s with | [] => false | c :: _ => c == 45
def okL (l : List UInt8) : Bool := decide (1 ≤ l.length) && decide (l.length ≤ 30) && l.all digB

/-- What a text is as a number, or what it is refused with. -/
def parseL (s : List UInt8) : Int × Int :=
  if okL (bodyL s) = true then fitL (if negL s = true then -valL (bodyL s) else valL (bodyL s)) else (0, 6)

/-- fix's loop: too far, and the number so far. -/
def stF (l : List UInt8) : Bool × Int := l.foldl (fun x c => if (x.1 || decide (288230376151711743 < x.2)) = true then (true, x.2) else (false, 10 * x.2 + digV c)) (false, 0)
theorem stF_snoc (l : List UInt8) (c : UInt8) : stF (l ++ [c]) = if ((stF l).1 || decide (288230376151711743 < (stF l).2)) = true then (true, (stF l).2) else (false, 10 * (stF l).2 + digV c) := by simp [stF]

theorem snoc_ind {α : Type} {P : List α → Prop} (h0 : P []) (h1 : ∀ l c, P l → P (l ++ [c])) (l : List α) : P l := by
  rw [← List.reverse_reverse l]
  induction l.reverse with
  | nil => exact h0
  | cons c r ih => rw [List.reverse_cons]; exact h1 _ _ ih

theorem stF_inv : ∀ (l : List UInt8), l.all digB = true → (0 ≤ (stF l).2 ∧ (stF l).2 ≤ 2882303761517117439) ∧ ((stF l).1 = false → (stF l).2 = valL l) ∧ ((stF l).1 = true → 1152921504606846976 < valL l) := by
  refine snoc_ind ?_ ?_
  · intro _; exact ⟨⟨by decide, by decide⟩, fun _ => rfl, fun h => by simp [stF] at h⟩
  · intro l c ih h
    rw [List.all_append, Bool.and_eq_true] at h
    obtain ⟨h1, h2⟩ := h
    simp only [List.all_cons, List.all_nil, Bool.and_true] at h2
    rw [digB_iff] at h2
    obtain ⟨⟨i1, i2⟩, i3, i4⟩ := ih h1
    have hc : 0 ≤ digV c ∧ digV c ≤ 9 := by unfold digV; omega
    rw [stF_snoc, valL_snoc]
    cases hf : (stF l).1
    · have e := i3 hf
      by_cases hb : 288230376151711743 < (stF l).2
      · simp only [hb, decide_true, Bool.or_true, if_true]
        exact ⟨⟨i1, i2⟩, fun h => by simp at h, fun _ => by rw [e] at hb; omega⟩
      · simp only [hb, decide_false, Bool.or_false, Bool.false_eq_true, if_false]
        exact ⟨by omega, fun _ => by rw [e], fun h => by simp at h⟩
    · have e := i4 hf
      simp only [Bool.true_or, if_true]
      exact ⟨⟨i1, i2⟩, fun h => by simp at h, fun _ => by omega⟩

/-- The reference's loop: too far, and the number so far. -/
def stR (l : List UInt8) : Bool × Int := l.foldl (fun x c => if 115292150460684697 < x.2 then (true, digV c) else (x.1, x.2 * 10 + digV c)) (false, 0)
theorem stR_snoc (l : List UInt8) (c : UInt8) : stR (l ++ [c]) = if 115292150460684697 < (stR l).2 then (true, digV c) else ((stR l).1, (stR l).2 * 10 + digV c) := by
  rw [stR, List.foldl_append]
  rfl

theorem stR_inv : ∀ (l : List UInt8), l.all digB = true → (0 ≤ (stR l).2 ∧ (stR l).2 ≤ 1152921504606846979) ∧ ((stR l).1 = false → (stR l).2 = valL l) ∧ ((stR l).1 = true → 1152921504606846976 < valL l) := by
  refine snoc_ind ?_ ?_
  · intro _; exact ⟨⟨by decide, by decide⟩, fun _ => rfl, fun h => by simp [stR] at h⟩
  · intro l c ih h
    rw [List.all_append, Bool.and_eq_true] at h
    obtain ⟨h1, h2⟩ := h
    simp only [List.all_cons, List.all_nil, Bool.and_true] at h2
    rw [digB_iff] at h2
    obtain ⟨⟨i1, i2⟩, i3, i4⟩ := ih h1
    have hc : 0 ≤ digV c ∧ digV c ≤ 9 := by unfold digV; omega
    rw [stR_snoc, valL_snoc]
    by_cases hb : 115292150460684697 < (stR l).2
    · rw [if_pos hb]
      refine ⟨by simp only; omega, fun h => by simp at h, fun _ => ?_⟩
      cases hf : (stR l).1
      · have e := i3 hf
        omega
      · have e := i4 hf
        omega
    · rw [if_neg hb]
      refine ⟨by simp only; omega, fun h => ?_, fun h => ?_⟩
      · have e := i3 h
        simp only
        omega
      · have e := i4 h
        omega

theorem all_take {l : List UInt8} {p : UInt8 → Bool} (h : l.all p = true) (k : Nat) : (l.take k).all p = true := by
  rw [List.all_eq_true] at h ⊢
  exact fun x hx => h x (List.mem_of_mem_take hx)


theorem u8beq (c : UInt8) (n : Nat) (h : n < 256 := by decide) : ((c.toNat : Int) == (n : Int)) = (c == UInt8.ofNat n) := by
  rw [Bool.eq_iff_iff, beq_iff_eq, beq_iff_eq, ← UInt8.toNat_inj]
  simp [Nat.mod_eq_of_lt h]
  omega

theorem ba_zero (c : UInt8) (r : List UInt8) (h : 0 < (⟨⟨c :: r⟩⟩ : ByteArray).size) : (⟨⟨c :: r⟩⟩ : ByteArray)[0]'h = c := rfl

theorem below_bytes {W : World} (e : TypeId) (s : ByteArray) : Below W.heap.size W (Lib.bytesWorld W e s) :=
  ⟨rfl, rfl, rfl, by rw [Lib.bytesWorld_size]; omega, fun k hk => Lib.bytesWorld_at_old W e s k hk⟩

theorem bytes_cell (W : World) (e : TypeId) (d : List UInt8) (j : Nat) (hj : j < d.length) : (Lib.bytesWorld W e ⟨⟨d⟩⟩).cell? ⟨W.heap.size, j, none⟩ = some (.int .u8 d[j].toNat) := by
  rw [Lib.bytesWorld_cell W e ⟨⟨d⟩⟩ j hj]
  simp [List.getD, hj]

end Go.Proofs.YthighbbikpnpgaaDoor

/-! FQ -/
namespace Go.Proofs.YthighbbikpnpgaaDoor
open Go.RowKit

theorem parse_minus (r : List UInt8) (W : World) :
    Calls Tryd.prog 103 #[.string ⟨⟨45 :: r⟩⟩] W fun e w' => e = .returned (resV (parseL (45 :: r))) ∧ Below W.heap.size W w' := by
  have hcv := fun (w : World) (s : ByteArray) => Lib.run_convert_string_bytes w 9 76 5 s Tryd.underlying9 Tryd.underlying76 Tryd.underlying5
  have eb := ba_zero 45 r
  have hext : (⟨⟨45 :: r⟩⟩ : ByteArray).extract 1 (r.length + 1) = ⟨⟨r⟩⟩ := by
    rw [Lib.extract_eq]; simp
  have hBody : bodyL (45 :: r) = r := rfl
  have hNeg : negL (45 :: r) = true := rfl
  have hl : (r).length = (r).length := rfl
  by_cases hlen : 1 ≤ (r).length ∧ (r).length ≤ 30
  · obtain ⟨l1, l2⟩ := hlen
    have l1' : 1 ≤ ((r).length : Int) := by omega
    have l2' : ((r).length : Int) ≤ 30 := by omega
    obtain ⟨P, hP⟩ : ∃ P, parseL (45 :: r) = P := ⟨_, rfl⟩
    have HP := Lib.hid hP
    have HL : Hid (P = if (r).all digB = true then fitL (if true = true then -valL (r) else valL (r)) else (0, 6)) := by
      simp only [Hid]
      rw [← hP, parseL, okL, hBody, hNeg, decide_eq_true l1, decide_eq_true l2]
      rfl
    have hcells := Lib.hid (bytes_cell W 5 (r))
    have hbl := below_bytes (W := W) 5 ⟨⟨r⟩⟩
    try simp only [List.length_cons] at l1' l2'
    clear hBody hNeg hl hP
    go_enter Tryd.func103, Tryd.ntmps103
    go_wp2_with fail
    clear hcv
    generalize Lib.bytesWorld W 5 ⟨⟨r⟩⟩ = w1 at hcells hbl ⊢
    obtain ⟨E, hE⟩ : ∃ E, E = r := ⟨_, rfl⟩
    have HE := Lib.hid hE
    rw [← hE] at HL hcells l1 l2
    clear hE
    have hEl : (E.length : Int) = (r).length := by rw [HE.out]
    go_loop [5, 6, 36] (fun f n i => ∃ k : Nat, k ≤ E.length ∧ i = .int .i64 k ∧ f = .bool (stF (E.take k)).1 ∧ n = .int .i64 (stF (E.take k)).2 ∧ (E.take k).all digB = true) (fun _ _ i => E.length - (intOf i).toNat)
    case atStart => exact ⟨0, by omega, rfl, rfl, rfl, rfl⟩
    case round =>
      obtain ⟨k, hk, rfl, rfl, rfl, hall⟩ := hrel
      obtain ⟨⟨i1, i2⟩, i3, i4⟩ := stF_inv _ hall
      by_cases hlt : k < E.length
      · have hst := Lib.hid (stF_snoc (E.take k) E[k])
        have htk := Lib.hid (List.take_succ_eq_append_getElem hlt)
        have hck := hcells.out k hlt
        generalize E[k] = x at hst htk hck
        clear i3 i4
        generalize stF (E.take k) = st at hst i1 i2
        obtain ⟨far, n⟩ := st
        simp only at i1 i2
        by_cases hd : digB x = true
        · obtain ⟨d1, d2⟩ := digB_iff.1 hd
          have c1 : ((x.toNat : Int) < 48) = False := by simp; omega
          have c2 : (57 < (x.toNat : Int)) = False := by simp; omega
          have b1 : decide ((x.toNat : Int) < 48) = false := by simp; omega
          have b2 : decide (57 < (x.toNat : Int)) = false := by simp; omega
          have hall' : (E.take (k + 1)).all digB = true := by rw [htk.out, List.all_append, hall]; simp [hd]
          have HALL := Lib.hid hall'
          clear hall hall' hd
          cases far
          · by_cases hm : 288230376151711743 < n
            · have HST : Hid (stF (E.take (k + 1)) = (true, n)) := by rw [Hid, htk.out, hst.out]; simp [hm]
              clear hst htk
              go_wp2_with fail
              go_round
              case rel => exact ⟨k + 1, by omega, by go_num, by rw [HST.out], by rw [HST.out], HALL.out⟩
              case measure => simp [intOf]; omega
            · have HST : Hid (stF (E.take (k + 1)) = (false, 10 * n + digV x)) := by rw [Hid, htk.out, hst.out]; simp [hm]
              have hdv : digV x = (x.toNat : Int) - 48 := rfl
              have hm' : n ≤ 288230376151711743 := by omega
              rw [hdv] at HST
              clear hst htk hdv
              go_wp2_with fail
              go_round
              case rel => exact ⟨k + 1, by omega, by go_num, by rw [HST.out], by rw [HST.out], HALL.out⟩
              case measure => simp [intOf]; omega
          · have HST : Hid (stF (E.take (k + 1)) = (true, n)) := by rw [Hid, htk.out, hst.out]; simp
            clear hst htk
            go_wp2_with fail
            go_round
            case rel => exact ⟨k + 1, by omega, by go_num, by rw [HST.out], by rw [HST.out], HALL.out⟩
            case measure => simp [intOf]; omega
        · have hno : E.all digB = false := by
            rw [← Bool.not_eq_true]
            intro hh
            have := all_take hh (k + 1)
            rw [htk.out, List.all_append, Bool.and_eq_true] at this
            simp only [List.all_cons, List.all_nil, Bool.and_true] at this
            exact hd this.2
          have H6 := Lib.hid (show P = (0, 6) by rw [HL.out, hno]; rfl)
          have hx : x.toNat < 48 ∨ 57 < x.toNat := by
            rcases Nat.lt_or_ge x.toNat 48 with h | h
            · exact .inl h
            · rcases Nat.lt_or_ge 57 x.toNat with h' | h'
              · exact .inr h'
              · exact absurd (digB_iff.2 ⟨h, h'⟩) hd
          clear hst htk hno hd hall
          rcases hx with h | h
          · have b1 : decide ((x.toNat : Int) < 48) = true := by simp; omega
            go_wp2_with fail
            go_ret2
            exact ⟨by rw [HP.out, H6.out]; rfl, hbl⟩
          · have b1 : decide ((x.toNat : Int) < 48) = false := by simp; omega
            have b2 : decide (57 < (x.toNat : Int)) = true := by simp; omega
            go_wp2_with fail
            go_ret2
            exact ⟨by rw [HP.out, H6.out]; rfl, hbl⟩
      · obtain rfl : k = E.length := by omega
        have hge : ¬ (E.length : Int) < (r.length : Int) := by (try simp only [List.length_cons] at hEl); omega
        have hdk : decide ((E.length : Int) < (r.length : Int)) = false := decide_eq_false hge
        rw [List.take_length] at hall i1 i2 i3 i4
        rw [List.take_length]
        have HV : Hid (P = fitL (if true = true then -valL E else valL E)) := by
          rw [Hid, HL.out, hall]; rfl
        have hi3 := Lib.hid i3
        have hi4 := Lib.hid i4
        clear i3 i4 hall
        generalize stF E = st at hi3 hi4 i1 i2
        obtain ⟨far, n⟩ := st
        simp only at i1 i2
        cases far
        · have hn : valL E = n := (hi3.out rfl).symm
          rw [hn] at HV
          clear hn
          go_wp2_with fail
          refine (fit_any _ _).mono ?_
          rintro e w' ⟨rfl, rfl⟩
          have HV2 : Hid (P = fitL (-n)) := HV.out
          generalize fitL (-n) = x at HV2
          obtain ⟨m, e⟩ := x
          rw [resV]
          go_wp2_with fail
          go_ret2
          exact ⟨by rw [HP.out, HV2.out]; rfl, hbl⟩
        · have hn : 1152921504606846976 < valL E := hi4.out rfl
          have H11 := Lib.hid (show P = (0, 11) by
            rw [HV.out, fitL, if_neg]
            rw [num_iff]
            simp
            omega)
          clear hn
          go_wp2_with fail
          go_ret2
          exact ⟨by rw [HP.out, H11.out]; rfl, hbl⟩
  · have H := Lib.hid (show parseL (45 :: r) = (0, 6) by
      rw [parseL, hBody, if_neg]
      simp only [okL, Bool.and_eq_true, decide_eq_true_eq]
      exact fun h => hlen h.1)
    have hlen' : ((r).length : Int) < 1 ∨ 30 < ((r).length : Int) := by omega
    clear hlen hBody hNeg hl
    try simp only [List.length_cons] at hlen'
    rcases hlen' with h | h
    · go_enter Tryd.func103, Tryd.ntmps103
      go_wp2_with fail
      go_ret2
      exact ⟨by rw [H.out]; rfl, Below.refl _ _⟩
    · have h' : ¬ ((r).length : Int) < 1 := by simp; omega
      try simp only [List.length_cons] at h'
      go_enter Tryd.func103, Tryd.ntmps103
      go_wp2_with fail
      go_ret2
      exact ⟨by rw [H.out]; rfl, Below.refl _ _⟩

theorem parse_plus (r : List UInt8) (W : World) :
    Calls Tryd.prog 103 #[.string ⟨⟨43 :: r⟩⟩] W fun e w' => e = .returned (resV (parseL (43 :: r))) ∧ Below W.heap.size W w' := by
  have hcv := fun (w : World) (s : ByteArray) => Lib.run_convert_string_bytes w 9 76 5 s Tryd.underlying9 Tryd.underlying76 Tryd.underlying5
  have eb := ba_zero 43 r
  have hext : (⟨⟨43 :: r⟩⟩ : ByteArray).extract 1 (r.length + 1) = ⟨⟨r⟩⟩ := by
    rw [Lib.extract_eq]; simp
  have hBody : bodyL (43 :: r) = r := rfl
  have hNeg : negL (43 :: r) = false := rfl
  have hl : (r).length = (r).length := rfl
  by_cases hlen : 1 ≤ (r).length ∧ (r).length ≤ 30
  · obtain ⟨l1, l2⟩ := hlen
    have l1' : 1 ≤ ((r).length : Int) := by omega
    have l2' : ((r).length : Int) ≤ 30 := by omega
    obtain ⟨P, hP⟩ : ∃ P, parseL (43 :: r) = P := ⟨_, rfl⟩
    have HP := Lib.hid hP
    have HL : Hid (P = if (r).all digB = true then fitL (if false = true then -valL (r) else valL (r)) else (0, 6)) := by
      simp only [Hid]
      rw [← hP, parseL, okL, hBody, hNeg, decide_eq_true l1, decide_eq_true l2]
      rfl
    have hcells := Lib.hid (bytes_cell W 5 (r))
    have hbl := below_bytes (W := W) 5 ⟨⟨r⟩⟩
    try simp only [List.length_cons] at l1' l2'
    clear hBody hNeg hl hP
    go_enter Tryd.func103, Tryd.ntmps103
    go_wp2_with fail
    clear hcv
    generalize Lib.bytesWorld W 5 ⟨⟨r⟩⟩ = w1 at hcells hbl ⊢
    obtain ⟨E, hE⟩ : ∃ E, E = r := ⟨_, rfl⟩
    have HE := Lib.hid hE
    rw [← hE] at HL hcells l1 l2
    clear hE
    have hEl : (E.length : Int) = (r).length := by rw [HE.out]
    go_loop [5, 6, 36] (fun f n i => ∃ k : Nat, k ≤ E.length ∧ i = .int .i64 k ∧ f = .bool (stF (E.take k)).1 ∧ n = .int .i64 (stF (E.take k)).2 ∧ (E.take k).all digB = true) (fun _ _ i => E.length - (intOf i).toNat)
    case atStart => exact ⟨0, by omega, rfl, rfl, rfl, rfl⟩
    case round =>
      obtain ⟨k, hk, rfl, rfl, rfl, hall⟩ := hrel
      obtain ⟨⟨i1, i2⟩, i3, i4⟩ := stF_inv _ hall
      by_cases hlt : k < E.length
      · have hst := Lib.hid (stF_snoc (E.take k) E[k])
        have htk := Lib.hid (List.take_succ_eq_append_getElem hlt)
        have hck := hcells.out k hlt
        generalize E[k] = x at hst htk hck
        clear i3 i4
        generalize stF (E.take k) = st at hst i1 i2
        obtain ⟨far, n⟩ := st
        simp only at i1 i2
        by_cases hd : digB x = true
        · obtain ⟨d1, d2⟩ := digB_iff.1 hd
          have c1 : ((x.toNat : Int) < 48) = False := by simp; omega
          have c2 : (57 < (x.toNat : Int)) = False := by simp; omega
          have b1 : decide ((x.toNat : Int) < 48) = false := by simp; omega
          have b2 : decide (57 < (x.toNat : Int)) = false := by simp; omega
          have hall' : (E.take (k + 1)).all digB = true := by rw [htk.out, List.all_append, hall]; simp [hd]
          have HALL := Lib.hid hall'
          clear hall hall' hd
          cases far
          · by_cases hm : 288230376151711743 < n
            · have HST : Hid (stF (E.take (k + 1)) = (true, n)) := by rw [Hid, htk.out, hst.out]; simp [hm]
              clear hst htk
              go_wp2_with fail
              go_round
              case rel => exact ⟨k + 1, by omega, by go_num, by rw [HST.out], by rw [HST.out], HALL.out⟩
              case measure => simp [intOf]; omega
            · have HST : Hid (stF (E.take (k + 1)) = (false, 10 * n + digV x)) := by rw [Hid, htk.out, hst.out]; simp [hm]
              have hdv : digV x = (x.toNat : Int) - 48 := rfl
              have hm' : n ≤ 288230376151711743 := by omega
              rw [hdv] at HST
              clear hst htk hdv
              go_wp2_with fail
              go_round
              case rel => exact ⟨k + 1, by omega, by go_num, by rw [HST.out], by rw [HST.out], HALL.out⟩
              case measure => simp [intOf]; omega
          · have HST : Hid (stF (E.take (k + 1)) = (true, n)) := by rw [Hid, htk.out, hst.out]; simp
            clear hst htk
            go_wp2_with fail
            go_round
            case rel => exact ⟨k + 1, by omega, by go_num, by rw [HST.out], by rw [HST.out], HALL.out⟩
            case measure => simp [intOf]; omega
        · have hno : E.all digB = false := by
            rw [← Bool.not_eq_true]
            intro hh
            have := all_take hh (k + 1)
            rw [htk.out, List.all_append, Bool.and_eq_true] at this
            simp only [List.all_cons, List.all_nil, Bool.and_true] at this
            exact hd this.2
          have H6 := Lib.hid (show P = (0, 6) by rw [HL.out, hno]; rfl)
          have hx : x.toNat < 48 ∨ 57 < x.toNat := by
            rcases Nat.lt_or_ge x.toNat 48 with h | h
            · exact .inl h
            · rcases Nat.lt_or_ge 57 x.toNat with h' | h'
              · exact .inr h'
              · exact absurd (digB_iff.2 ⟨h, h'⟩) hd
          clear hst htk hno hd hall
          rcases hx with h | h
          · have b1 : decide ((x.toNat : Int) < 48) = true := by simp; omega
            go_wp2_with fail
            go_ret2
            exact ⟨by rw [HP.out, H6.out]; rfl, hbl⟩
          · have b1 : decide ((x.toNat : Int) < 48) = false := by simp; omega
            have b2 : decide (57 < (x.toNat : Int)) = true := by simp; omega
            go_wp2_with fail
            go_ret2
            exact ⟨by rw [HP.out, H6.out]; rfl, hbl⟩
      · obtain rfl : k = E.length := by omega
        have hge : ¬ (E.length : Int) < (r.length : Int) := by (try simp only [List.length_cons] at hEl); omega
        have hdk : decide ((E.length : Int) < (r.length : Int)) = false := decide_eq_false hge
        rw [List.take_length] at hall i1 i2 i3 i4
        rw [List.take_length]
        have HV : Hid (P = fitL (if false = true then -valL E else valL E)) := by
          rw [Hid, HL.out, hall]; rfl
        have hi3 := Lib.hid i3
        have hi4 := Lib.hid i4
        clear i3 i4 hall
        generalize stF E = st at hi3 hi4 i1 i2
        obtain ⟨far, n⟩ := st
        simp only at i1 i2
        cases far
        · have hn : valL E = n := (hi3.out rfl).symm
          rw [hn] at HV
          clear hn
          go_wp2_with fail
          refine (fit_any _ _).mono ?_
          rintro e w' ⟨rfl, rfl⟩
          have HV2 : Hid (P = fitL n) := HV.out
          generalize fitL n = x at HV2
          obtain ⟨m, e⟩ := x
          rw [resV]
          go_wp2_with fail
          go_ret2
          exact ⟨by rw [HP.out, HV2.out]; rfl, hbl⟩
        · have hn : 1152921504606846976 < valL E := hi4.out rfl
          have H11 := Lib.hid (show P = (0, 11) by
            rw [HV.out, fitL, if_neg]
            rw [num_iff]
            simp
            omega)
          clear hn
          go_wp2_with fail
          go_ret2
          exact ⟨by rw [HP.out, H11.out]; rfl, hbl⟩
  · have H := Lib.hid (show parseL (43 :: r) = (0, 6) by
      rw [parseL, hBody, if_neg]
      simp only [okL, Bool.and_eq_true, decide_eq_true_eq]
      exact fun h => hlen h.1)
    have hlen' : ((r).length : Int) < 1 ∨ 30 < ((r).length : Int) := by omega
    clear hlen hBody hNeg hl
    try simp only [List.length_cons] at hlen'
    rcases hlen' with h | h
    · go_enter Tryd.func103, Tryd.ntmps103
      go_wp2_with fail
      go_ret2
      exact ⟨by rw [H.out]; rfl, Below.refl _ _⟩
    · have h' : ¬ ((r).length : Int) < 1 := by simp; omega
      try simp only [List.length_cons] at h'
      go_enter Tryd.func103, Tryd.ntmps103
      go_wp2_with fail
      go_ret2
      exact ⟨by rw [H.out]; rfl, Below.refl _ _⟩

theorem parse_none (D : List UInt8) (c : UInt8) (eb : ∀ (h : 0 < (⟨⟨D⟩⟩ : ByteArray).size), (⟨⟨D⟩⟩ : ByteArray)[0]'h = c) (hBody : bodyL D = D) (hNeg : negL D = false) (hpos : 0 < D.length) (h45 : c ≠ 45) (h43 : c ≠ 43) (W : World) :
    Calls Tryd.prog 103 #[.string ⟨⟨D⟩⟩] W fun e w' => e = .returned (resV (parseL (D))) ∧ Below W.heap.size W w' := by
  have hcv := fun (w : World) (s : ByteArray) => Lib.run_convert_string_bytes w 9 76 5 s Tryd.underlying9 Tryd.underlying76 Tryd.underlying5
  have g45 : ((c.toNat : Int) == 45) = false := (u8beq c 45).trans (by simpa using h45)
  have g43 : ((c.toNat : Int) == 43) = false := (u8beq c 43).trans (by simpa using h43)
  have hem : D.isEmpty = false := by cases D <;> simp at hpos ⊢
  have hl : (D).length = (D).length := rfl
  by_cases hlen : 1 ≤ (D).length ∧ (D).length ≤ 30
  · obtain ⟨l1, l2⟩ := hlen
    have l1' : 1 ≤ ((D).length : Int) := by omega
    have l2' : ((D).length : Int) ≤ 30 := by omega
    obtain ⟨P, hP⟩ : ∃ P, parseL (D) = P := ⟨_, rfl⟩
    have HP := Lib.hid hP
    have HL : Hid (P = if (D).all digB = true then fitL (if false = true then -valL (D) else valL (D)) else (0, 6)) := by
      simp only [Hid]
      rw [← hP, parseL, okL, hBody, hNeg, decide_eq_true l1, decide_eq_true l2]
      rfl
    have hcells := Lib.hid (bytes_cell W 5 (D))
    have hbl := below_bytes (W := W) 5 ⟨⟨D⟩⟩
    try simp only [List.length_cons] at l1' l2'
    clear hBody hNeg hl hP
    go_enter Tryd.func103, Tryd.ntmps103
    go_wp2_with fail
    clear hcv
    generalize Lib.bytesWorld W 5 ⟨⟨D⟩⟩ = w1 at hcells hbl ⊢
    obtain ⟨E, hE⟩ : ∃ E, E = D := ⟨_, rfl⟩
    have HE := Lib.hid hE
    rw [← hE] at HL hcells l1 l2
    clear hE
    have hEl : (E.length : Int) = (D).length := by rw [HE.out]
    go_loop [5, 6, 36] (fun f n i => ∃ k : Nat, k ≤ E.length ∧ i = .int .i64 k ∧ f = .bool (stF (E.take k)).1 ∧ n = .int .i64 (stF (E.take k)).2 ∧ (E.take k).all digB = true) (fun _ _ i => E.length - (intOf i).toNat)
    case atStart => exact ⟨0, by omega, rfl, rfl, rfl, rfl⟩
    case round =>
      obtain ⟨k, hk, rfl, rfl, rfl, hall⟩ := hrel
      obtain ⟨⟨i1, i2⟩, i3, i4⟩ := stF_inv _ hall
      by_cases hlt : k < E.length
      · have hst := Lib.hid (stF_snoc (E.take k) E[k])
        have htk := Lib.hid (List.take_succ_eq_append_getElem hlt)
        have hck := hcells.out k hlt
        generalize E[k] = x at hst htk hck
        clear i3 i4
        generalize stF (E.take k) = st at hst i1 i2
        obtain ⟨far, n⟩ := st
        simp only at i1 i2
        by_cases hd : digB x = true
        · obtain ⟨d1, d2⟩ := digB_iff.1 hd
          have c1 : ((x.toNat : Int) < 48) = False := by simp; omega
          have c2 : (57 < (x.toNat : Int)) = False := by simp; omega
          have b1 : decide ((x.toNat : Int) < 48) = false := by simp; omega
          have b2 : decide (57 < (x.toNat : Int)) = false := by simp; omega
          have hall' : (E.take (k + 1)).all digB = true := by rw [htk.out, List.all_append, hall]; simp [hd]
          have HALL := Lib.hid hall'
          clear hall hall' hd
          cases far
          · by_cases hm : 288230376151711743 < n
            · have HST : Hid (stF (E.take (k + 1)) = (true, n)) := by rw [Hid, htk.out, hst.out]; simp [hm]
              clear hst htk
              go_wp2_with fail
              go_round
              case rel => exact ⟨k + 1, by omega, by go_num, by rw [HST.out], by rw [HST.out], HALL.out⟩
              case measure => simp [intOf]; omega
            · have HST : Hid (stF (E.take (k + 1)) = (false, 10 * n + digV x)) := by rw [Hid, htk.out, hst.out]; simp [hm]
              have hdv : digV x = (x.toNat : Int) - 48 := rfl
              have hm' : n ≤ 288230376151711743 := by omega
              rw [hdv] at HST
              clear hst htk hdv
              go_wp2_with fail
              go_round
              case rel => exact ⟨k + 1, by omega, by go_num, by rw [HST.out], by rw [HST.out], HALL.out⟩
              case measure => simp [intOf]; omega
          · have HST : Hid (stF (E.take (k + 1)) = (true, n)) := by rw [Hid, htk.out, hst.out]; simp
            clear hst htk
            go_wp2_with fail
            go_round
            case rel => exact ⟨k + 1, by omega, by go_num, by rw [HST.out], by rw [HST.out], HALL.out⟩
            case measure => simp [intOf]; omega
        · have hno : E.all digB = false := by
            rw [← Bool.not_eq_true]
            intro hh
            have := all_take hh (k + 1)
            rw [htk.out, List.all_append, Bool.and_eq_true] at this
            simp only [List.all_cons, List.all_nil, Bool.and_true] at this
            exact hd this.2
          have H6 := Lib.hid (show P = (0, 6) by rw [HL.out, hno]; rfl)
          have hx : x.toNat < 48 ∨ 57 < x.toNat := by
            rcases Nat.lt_or_ge x.toNat 48 with h | h
            · exact .inl h
            · rcases Nat.lt_or_ge 57 x.toNat with h' | h'
              · exact .inr h'
              · exact absurd (digB_iff.2 ⟨h, h'⟩) hd
          clear hst htk hno hd hall
          rcases hx with h | h
          · have b1 : decide ((x.toNat : Int) < 48) = true := by simp; omega
            go_wp2_with fail
            go_ret2
            exact ⟨by rw [HP.out, H6.out]; rfl, hbl⟩
          · have b1 : decide ((x.toNat : Int) < 48) = false := by simp; omega
            have b2 : decide (57 < (x.toNat : Int)) = true := by simp; omega
            go_wp2_with fail
            go_ret2
            exact ⟨by rw [HP.out, H6.out]; rfl, hbl⟩
      · obtain rfl : k = E.length := by omega
        have hge : ¬ (E.length : Int) < (D.length : Int) := by (try simp only [List.length_cons] at hEl); omega
        have hdk : decide ((E.length : Int) < (D.length : Int)) = false := decide_eq_false hge
        rw [List.take_length] at hall i1 i2 i3 i4
        rw [List.take_length]
        have HV : Hid (P = fitL (if false = true then -valL E else valL E)) := by
          rw [Hid, HL.out, hall]; rfl
        have hi3 := Lib.hid i3
        have hi4 := Lib.hid i4
        clear i3 i4 hall
        generalize stF E = st at hi3 hi4 i1 i2
        obtain ⟨far, n⟩ := st
        simp only at i1 i2
        cases far
        · have hn : valL E = n := (hi3.out rfl).symm
          rw [hn] at HV
          clear hn
          go_wp2_with fail
          refine (fit_any _ _).mono ?_
          rintro e w' ⟨rfl, rfl⟩
          have HV2 : Hid (P = fitL n) := HV.out
          generalize fitL n = x at HV2
          obtain ⟨m, e⟩ := x
          rw [resV]
          go_wp2_with fail
          go_ret2
          exact ⟨by rw [HP.out, HV2.out]; rfl, hbl⟩
        · have hn : 1152921504606846976 < valL E := hi4.out rfl
          have H11 := Lib.hid (show P = (0, 11) by
            rw [HV.out, fitL, if_neg]
            rw [num_iff]
            simp
            omega)
          clear hn
          go_wp2_with fail
          go_ret2
          exact ⟨by rw [HP.out, H11.out]; rfl, hbl⟩
  · have H := Lib.hid (show parseL (D) = (0, 6) by
      rw [parseL, hBody, if_neg]
      simp only [okL, Bool.and_eq_true, decide_eq_true_eq]
      exact fun h => hlen h.1)
    have hlen' : ((D).length : Int) < 1 ∨ 30 < ((D).length : Int) := by omega
    clear hlen hBody hNeg hl
    try simp only [List.length_cons] at hlen'
    rcases hlen' with h | h
    · go_enter Tryd.func103, Tryd.ntmps103
      go_wp2_with fail
      go_ret2
      exact ⟨by rw [H.out]; rfl, Below.refl _ _⟩
    · have h' : ¬ ((D).length : Int) < 1 := by simp; omega
      try simp only [List.length_cons] at h'
      go_enter Tryd.func103, Tryd.ntmps103
      go_wp2_with fail
      go_ret2
      exact ⟨by rw [H.out]; rfl, Below.refl _ _⟩

theorem parse_any (s : ByteArray) (w : World) :
    Calls Tryd.prog 103 #[.string s] w fun e w' => e = .returned (resV (parseL s.data.toList)) ∧ Below w.heap.size w w' := by
  obtain ⟨⟨l⟩⟩ := s
  rw [show (ByteArray.mk ⟨l⟩).data.toList = l from rfl]
  rcases l with _ | ⟨c, r⟩
  · have H := Lib.hid (show parseL [] = (0, 6) from rfl)
    go_enter Tryd.func103, Tryd.ntmps103
    go_wp2_with fail
    go_ret2
    exact ⟨by rw [H.out]; rfl, Below.refl _ _⟩
  · by_cases h45 : c = 45
    · subst h45
      exact parse_minus r w
    · by_cases h43 : c = 43
      · subst h43
        exact parse_plus r w
      · exact parse_none (c :: r) c (ba_zero c r) (by simp [bodyL, h45, h43]) (by simp [negL, h45]) (by simp) h45 h43 w
end Go.Proofs.YthighbbikpnpgaaDoor

/-! FR -/
namespace Go.Proofs.YthighbbikpnpgaaDoor
open Go.RowKit

theorem refparse_minus (r : List UInt8) (W : World) :
    Calls Tryd.prog 92 #[.string ⟨⟨45 :: r⟩⟩] W fun e w' => e = .returned (refV (parseL (45 :: r))) ∧ Below W.heap.size W w' := by
  have eb := ba_zero 45 r
  have hext : (⟨⟨45 :: r⟩⟩ : ByteArray).extract 1 (r.length + 1) = ⟨⟨r⟩⟩ := by
    rw [Lib.extract_eq]; simp
  have hBody : bodyL (45 :: r) = r := rfl
  have hNeg : negL (45 :: r) = true := rfl
  have hl : (r).length = (r).length := rfl
  by_cases hlen : 1 ≤ (r).length ∧ (r).length ≤ 30
  · obtain ⟨l1, l2⟩ := hlen
    have l1' : 1 ≤ ((r).length : Int) := by omega
    have l2' : ((r).length : Int) ≤ 30 := by omega
    obtain ⟨P, hP⟩ : ∃ P, parseL (45 :: r) = P := ⟨_, rfl⟩
    have HP := Lib.hid hP
    have HL : Hid (P = if (r).all digB = true then fitL (if true = true then -valL (r) else valL (r)) else (0, 6)) := by
      simp only [Hid]
      rw [← hP, parseL, okL, hBody, hNeg, decide_eq_true l1, decide_eq_true l2]
      rfl
    try simp only [List.length_cons] at l1' l2'
    clear hBody hNeg hl hP
    go_enter Tryd.func92, Tryd.ntmps92
    go_wp2_with fail
    go_loop [5, 6, 7] (fun n f i => ∃ k : Nat, k ≤ (r).length ∧ i = .int .i64 k ∧ f = .bool (stR ((r).take k)).1 ∧ n = .int .i64 (stR ((r).take k)).2 ∧ ((r).take k).all digB = true) (fun _ _ i => (r).length - (intOf i).toNat)
    case atStart => exact ⟨0, by omega, rfl, rfl, rfl, rfl⟩
    case round =>
      obtain ⟨k, hk, rfl, rfl, rfl, hall⟩ := hrel
      obtain ⟨⟨i1, i2⟩, i3, i4⟩ := stR_inv _ hall
      by_cases hlt : k < (r).length
      · have hst := Lib.hid (stR_snoc ((r).take k) (r)[k])
        have htk := Lib.hid (List.take_succ_eq_append_getElem hlt)
        obtain ⟨x, hx0⟩ : ∃ x, (r)[k] = x := ⟨_, rfl⟩
        have hbx : ∀ h : k < (⟨⟨r⟩⟩ : ByteArray).size, (⟨⟨r⟩⟩ : ByteArray)[k]'h = x := fun _ => hx0
        rw [hx0] at hst htk
        clear hx0
        clear i3 i4
        generalize stR ((r).take k) = st at hst i1 i2
        obtain ⟨far, n⟩ := st
        simp only at i1 i2
        by_cases hd : digB x = true
        · obtain ⟨d1, d2⟩ := digB_iff.1 hd
          have c1 : ((x.toNat : Int) < 48) = False := by simp; omega
          have c2 : (57 < (x.toNat : Int)) = False := by simp; omega
          have b1 : decide ((x.toNat : Int) < 48) = false := by simp; omega
          have b2 : decide (57 < (x.toNat : Int)) = false := by simp; omega
          have hall' : ((r).take (k + 1)).all digB = true := by rw [htk.out, List.all_append, hall]; simp [hd]
          have HALL := Lib.hid hall'
          have hdv : digV x = (x.toNat : Int) - 48 := rfl
          clear hall hall' hd
          by_cases hm : 115292150460684697 < n
          · have HST : Hid (stR ((r).take (k + 1)) = (true, digV x)) := by rw [Hid, htk.out, hst.out]; simp [hm]
            rw [hdv] at HST
            clear hst htk hdv
            go_wp2_with fail
            go_round
            case rel => exact ⟨k + 1, by omega, by go_num, by rw [HST.out], by rw [HST.out], HALL.out⟩
            case measure => simp [intOf]; omega
          · have HST : Hid (stR ((r).take (k + 1)) = (far, n * 10 + digV x)) := by rw [Hid, htk.out, hst.out]; simp [hm]
            have hm' : n ≤ 115292150460684697 := by omega
            rw [hdv] at HST
            clear hst htk hdv
            go_wp2_with fail
            go_round
            case rel => exact ⟨k + 1, by omega, by go_num, by rw [HST.out], by rw [HST.out], HALL.out⟩
            case measure => simp [intOf]; omega
        · have hno : (r).all digB = false := by
            rw [← Bool.not_eq_true]
            intro hh
            have := all_take hh (k + 1)
            rw [htk.out, List.all_append, Bool.and_eq_true] at this
            simp only [List.all_cons, List.all_nil, Bool.and_true] at this
            exact hd this.2
          have H6 := Lib.hid (show P = (0, 6) by rw [HL.out, hno]; rfl)
          have hx : x.toNat < 48 ∨ 57 < x.toNat := by
            rcases Nat.lt_or_ge x.toNat 48 with h | h
            · exact .inl h
            · rcases Nat.lt_or_ge 57 x.toNat with h' | h'
              · exact .inr h'
              · exact absurd (digB_iff.2 ⟨h, h'⟩) hd
          clear hst htk hno hd hall
          rcases hx with h | h
          · have b1 : decide ((x.toNat : Int) < 48) = true := by simp; omega
            go_wp2_with fail
            go_ret2
            exact ⟨by rw [HP.out, H6.out]; rfl, Below.refl _ _⟩
          · have b1 : decide ((x.toNat : Int) < 48) = false := by simp; omega
            have b2 : decide (57 < (x.toNat : Int)) = true := by simp; omega
            go_wp2_with fail
            go_ret2
            exact ⟨by rw [HP.out, H6.out]; rfl, Below.refl _ _⟩
      · obtain rfl : k = (r).length := by omega
        rw [List.take_length] at hall i1 i2 i3 i4
        rw [List.take_length]
        have HV : Hid (P = fitL (if true = true then -valL (r) else valL (r))) := by
          rw [Hid, HL.out, hall]; rfl
        have hi3 := Lib.hid i3
        have hi4 := Lib.hid i4
        clear i3 i4 hall
        generalize stR (r) = st at hi3 hi4 i1 i2
        obtain ⟨far, n⟩ := st
        simp only at i1 i2
        cases far
        · have hn : valL (r) = n := (hi3.out rfl).symm
          rw [hn] at HV
          have HV2 : Hid (P = if Num (-n) = true then ((-n), 0) else (0, 11)) := HV.out
          clear hn
          go_wp2_with fail
          refine (refnum_any _ _).mono ?_
          rintro e w' ⟨rfl, rfl⟩
          generalize Num (-n) = q at HV2
          cases q
          all_goals
            have HV3 := Lib.hid HV2.out
            clear HV2
            go_wp2_with fail
            go_ret2
            exact ⟨by rw [HP.out, HV3.out]; rfl, Below.refl _ _⟩
        · have hn : 1152921504606846976 < valL (r) := hi4.out rfl
          have H11 := Lib.hid (show P = (0, 11) by
            rw [HV.out, fitL, if_neg]
            rw [num_iff]
            simp
            omega)
          clear hn
          go_wp2_with fail
          go_ret2
          exact ⟨by rw [HP.out, H11.out]; rfl, Below.refl _ _⟩
  · have H := Lib.hid (show parseL (45 :: r) = (0, 6) by
      rw [parseL, hBody, if_neg]
      simp only [okL, Bool.and_eq_true, decide_eq_true_eq]
      exact fun h => hlen h.1)
    have hlen' : ((r).length : Int) < 1 ∨ 30 < ((r).length : Int) := by omega
    clear hlen hBody hNeg hl
    try simp only [List.length_cons] at hlen'
    rcases hlen' with h | h
    · go_enter Tryd.func92, Tryd.ntmps92
      go_wp2_with fail
      go_ret2
      exact ⟨by rw [H.out]; rfl, Below.refl _ _⟩
    · have h' : ¬ ((r).length : Int) < 1 := by simp; omega
      try simp only [List.length_cons] at h'
      go_enter Tryd.func92, Tryd.ntmps92
      go_wp2_with fail
      go_ret2
      exact ⟨by rw [H.out]; rfl, Below.refl _ _⟩

theorem refparse_plus (r : List UInt8) (W : World) :
    Calls Tryd.prog 92 #[.string ⟨⟨43 :: r⟩⟩] W fun e w' => e = .returned (refV (parseL (43 :: r))) ∧ Below W.heap.size W w' := by
  have eb := ba_zero 43 r
  have hext : (⟨⟨43 :: r⟩⟩ : ByteArray).extract 1 (r.length + 1) = ⟨⟨r⟩⟩ := by
    rw [Lib.extract_eq]; simp
  have hBody : bodyL (43 :: r) = r := rfl
  have hNeg : negL (43 :: r) = false := rfl
  have hl : (r).length = (r).length := rfl
  by_cases hlen : 1 ≤ (r).length ∧ (r).length ≤ 30
  · obtain ⟨l1, l2⟩ := hlen
    have l1' : 1 ≤ ((r).length : Int) := by omega
    have l2' : ((r).length : Int) ≤ 30 := by omega
    obtain ⟨P, hP⟩ : ∃ P, parseL (43 :: r) = P := ⟨_, rfl⟩
    have HP := Lib.hid hP
    have HL : Hid (P = if (r).all digB = true then fitL (if false = true then -valL (r) else valL (r)) else (0, 6)) := by
      simp only [Hid]
      rw [← hP, parseL, okL, hBody, hNeg, decide_eq_true l1, decide_eq_true l2]
      rfl
    try simp only [List.length_cons] at l1' l2'
    clear hBody hNeg hl hP
    go_enter Tryd.func92, Tryd.ntmps92
    go_wp2_with fail
    go_loop [5, 6, 7] (fun n f i => ∃ k : Nat, k ≤ (r).length ∧ i = .int .i64 k ∧ f = .bool (stR ((r).take k)).1 ∧ n = .int .i64 (stR ((r).take k)).2 ∧ ((r).take k).all digB = true) (fun _ _ i => (r).length - (intOf i).toNat)
    case atStart => exact ⟨0, by omega, rfl, rfl, rfl, rfl⟩
    case round =>
      obtain ⟨k, hk, rfl, rfl, rfl, hall⟩ := hrel
      obtain ⟨⟨i1, i2⟩, i3, i4⟩ := stR_inv _ hall
      by_cases hlt : k < (r).length
      · have hst := Lib.hid (stR_snoc ((r).take k) (r)[k])
        have htk := Lib.hid (List.take_succ_eq_append_getElem hlt)
        obtain ⟨x, hx0⟩ : ∃ x, (r)[k] = x := ⟨_, rfl⟩
        have hbx : ∀ h : k < (⟨⟨r⟩⟩ : ByteArray).size, (⟨⟨r⟩⟩ : ByteArray)[k]'h = x := fun _ => hx0
        rw [hx0] at hst htk
        clear hx0
        clear i3 i4
        generalize stR ((r).take k) = st at hst i1 i2
        obtain ⟨far, n⟩ := st
        simp only at i1 i2
        by_cases hd : digB x = true
        · obtain ⟨d1, d2⟩ := digB_iff.1 hd
          have c1 : ((x.toNat : Int) < 48) = False := by simp; omega
          have c2 : (57 < (x.toNat : Int)) = False := by simp; omega
          have b1 : decide ((x.toNat : Int) < 48) = false := by simp; omega
          have b2 : decide (57 < (x.toNat : Int)) = false := by simp; omega
          have hall' : ((r).take (k + 1)).all digB = true := by rw [htk.out, List.all_append, hall]; simp [hd]
          have HALL := Lib.hid hall'
          have hdv : digV x = (x.toNat : Int) - 48 := rfl
          clear hall hall' hd
          by_cases hm : 115292150460684697 < n
          · have HST : Hid (stR ((r).take (k + 1)) = (true, digV x)) := by rw [Hid, htk.out, hst.out]; simp [hm]
            rw [hdv] at HST
            clear hst htk hdv
            go_wp2_with fail
            go_round
            case rel => exact ⟨k + 1, by omega, by go_num, by rw [HST.out], by rw [HST.out], HALL.out⟩
            case measure => simp [intOf]; omega
          · have HST : Hid (stR ((r).take (k + 1)) = (far, n * 10 + digV x)) := by rw [Hid, htk.out, hst.out]; simp [hm]
            have hm' : n ≤ 115292150460684697 := by omega
            rw [hdv] at HST
            clear hst htk hdv
            go_wp2_with fail
            go_round
            case rel => exact ⟨k + 1, by omega, by go_num, by rw [HST.out], by rw [HST.out], HALL.out⟩
            case measure => simp [intOf]; omega
        · have hno : (r).all digB = false := by
            rw [← Bool.not_eq_true]
            intro hh
            have := all_take hh (k + 1)
            rw [htk.out, List.all_append, Bool.and_eq_true] at this
            simp only [List.all_cons, List.all_nil, Bool.and_true] at this
            exact hd this.2
          have H6 := Lib.hid (show P = (0, 6) by rw [HL.out, hno]; rfl)
          have hx : x.toNat < 48 ∨ 57 < x.toNat := by
            rcases Nat.lt_or_ge x.toNat 48 with h | h
            · exact .inl h
            · rcases Nat.lt_or_ge 57 x.toNat with h' | h'
              · exact .inr h'
              · exact absurd (digB_iff.2 ⟨h, h'⟩) hd
          clear hst htk hno hd hall
          rcases hx with h | h
          · have b1 : decide ((x.toNat : Int) < 48) = true := by simp; omega
            go_wp2_with fail
            go_ret2
            exact ⟨by rw [HP.out, H6.out]; rfl, Below.refl _ _⟩
          · have b1 : decide ((x.toNat : Int) < 48) = false := by simp; omega
            have b2 : decide (57 < (x.toNat : Int)) = true := by simp; omega
            go_wp2_with fail
            go_ret2
            exact ⟨by rw [HP.out, H6.out]; rfl, Below.refl _ _⟩
      · obtain rfl : k = (r).length := by omega
        rw [List.take_length] at hall i1 i2 i3 i4
        rw [List.take_length]
        have HV : Hid (P = fitL (if false = true then -valL (r) else valL (r))) := by
          rw [Hid, HL.out, hall]; rfl
        have hi3 := Lib.hid i3
        have hi4 := Lib.hid i4
        clear i3 i4 hall
        generalize stR (r) = st at hi3 hi4 i1 i2
        obtain ⟨far, n⟩ := st
        simp only at i1 i2
        cases far
        · have hn : valL (r) = n := (hi3.out rfl).symm
          rw [hn] at HV
          have HV2 : Hid (P = if Num n = true then (n, 0) else (0, 11)) := HV.out
          clear hn
          go_wp2_with fail
          refine (refnum_any _ _).mono ?_
          rintro e w' ⟨rfl, rfl⟩
          generalize Num n = q at HV2
          cases q
          all_goals
            have HV3 := Lib.hid HV2.out
            clear HV2
            go_wp2_with fail
            go_ret2
            exact ⟨by rw [HP.out, HV3.out]; rfl, Below.refl _ _⟩
        · have hn : 1152921504606846976 < valL (r) := hi4.out rfl
          have H11 := Lib.hid (show P = (0, 11) by
            rw [HV.out, fitL, if_neg]
            rw [num_iff]
            simp
            omega)
          clear hn
          go_wp2_with fail
          go_ret2
          exact ⟨by rw [HP.out, H11.out]; rfl, Below.refl _ _⟩
  · have H := Lib.hid (show parseL (43 :: r) = (0, 6) by
      rw [parseL, hBody, if_neg]
      simp only [okL, Bool.and_eq_true, decide_eq_true_eq]
      exact fun h => hlen h.1)
    have hlen' : ((r).length : Int) < 1 ∨ 30 < ((r).length : Int) := by omega
    clear hlen hBody hNeg hl
    try simp only [List.length_cons] at hlen'
    rcases hlen' with h | h
    · go_enter Tryd.func92, Tryd.ntmps92
      go_wp2_with fail
      go_ret2
      exact ⟨by rw [H.out]; rfl, Below.refl _ _⟩
    · have h' : ¬ ((r).length : Int) < 1 := by simp; omega
      try simp only [List.length_cons] at h'
      go_enter Tryd.func92, Tryd.ntmps92
      go_wp2_with fail
      go_ret2
      exact ⟨by rw [H.out]; rfl, Below.refl _ _⟩

theorem refparse_none (D : List UInt8) (c : UInt8) (eb : ∀ (h : 0 < (⟨⟨D⟩⟩ : ByteArray).size), (⟨⟨D⟩⟩ : ByteArray)[0]'h = c) (hBody : bodyL D = D) (hNeg : negL D = false) (hpos : 0 < D.length) (h45 : c ≠ 45) (h43 : c ≠ 43) (W : World) :
    Calls Tryd.prog 92 #[.string ⟨⟨D⟩⟩] W fun e w' => e = .returned (refV (parseL (D))) ∧ Below W.heap.size W w' := by
  have g45 : ((c.toNat : Int) == 45) = false := (u8beq c 45).trans (by simpa using h45)
  have g43 : ((c.toNat : Int) == 43) = false := (u8beq c 43).trans (by simpa using h43)
  have hem : D.isEmpty = false := by cases D <;> simp at hpos ⊢
  have hl : (D).length = (D).length := rfl
  by_cases hlen : 1 ≤ (D).length ∧ (D).length ≤ 30
  · obtain ⟨l1, l2⟩ := hlen
    have l1' : 1 ≤ ((D).length : Int) := by omega
    have l2' : ((D).length : Int) ≤ 30 := by omega
    obtain ⟨P, hP⟩ : ∃ P, parseL (D) = P := ⟨_, rfl⟩
    have HP := Lib.hid hP
    have HL : Hid (P = if (D).all digB = true then fitL (if false = true then -valL (D) else valL (D)) else (0, 6)) := by
      simp only [Hid]
      rw [← hP, parseL, okL, hBody, hNeg, decide_eq_true l1, decide_eq_true l2]
      rfl
    try simp only [List.length_cons] at l1' l2'
    clear hBody hNeg hl hP
    go_enter Tryd.func92, Tryd.ntmps92
    go_wp2_with fail
    go_loop [5, 6, 7] (fun n f i => ∃ k : Nat, k ≤ (D).length ∧ i = .int .i64 k ∧ f = .bool (stR ((D).take k)).1 ∧ n = .int .i64 (stR ((D).take k)).2 ∧ ((D).take k).all digB = true) (fun _ _ i => (D).length - (intOf i).toNat)
    case atStart => exact ⟨0, by omega, rfl, rfl, rfl, rfl⟩
    case round =>
      obtain ⟨k, hk, rfl, rfl, rfl, hall⟩ := hrel
      obtain ⟨⟨i1, i2⟩, i3, i4⟩ := stR_inv _ hall
      by_cases hlt : k < (D).length
      · have hst := Lib.hid (stR_snoc ((D).take k) (D)[k])
        have htk := Lib.hid (List.take_succ_eq_append_getElem hlt)
        obtain ⟨x, hx0⟩ : ∃ x, (D)[k] = x := ⟨_, rfl⟩
        have hbx : ∀ h : k < (⟨⟨D⟩⟩ : ByteArray).size, (⟨⟨D⟩⟩ : ByteArray)[k]'h = x := fun _ => hx0
        rw [hx0] at hst htk
        clear hx0
        clear i3 i4
        generalize stR ((D).take k) = st at hst i1 i2
        obtain ⟨far, n⟩ := st
        simp only at i1 i2
        by_cases hd : digB x = true
        · obtain ⟨d1, d2⟩ := digB_iff.1 hd
          have c1 : ((x.toNat : Int) < 48) = False := by simp; omega
          have c2 : (57 < (x.toNat : Int)) = False := by simp; omega
          have b1 : decide ((x.toNat : Int) < 48) = false := by simp; omega
          have b2 : decide (57 < (x.toNat : Int)) = false := by simp; omega
          have hall' : ((D).take (k + 1)).all digB = true := by rw [htk.out, List.all_append, hall]; simp [hd]
          have HALL := Lib.hid hall'
          have hdv : digV x = (x.toNat : Int) - 48 := rfl
          clear hall hall' hd
          by_cases hm : 115292150460684697 < n
          · have HST : Hid (stR ((D).take (k + 1)) = (true, digV x)) := by rw [Hid, htk.out, hst.out]; simp [hm]
            rw [hdv] at HST
            clear hst htk hdv
            go_wp2_with fail
            go_round
            case rel => exact ⟨k + 1, by omega, by go_num, by rw [HST.out], by rw [HST.out], HALL.out⟩
            case measure => simp [intOf]; omega
          · have HST : Hid (stR ((D).take (k + 1)) = (far, n * 10 + digV x)) := by rw [Hid, htk.out, hst.out]; simp [hm]
            have hm' : n ≤ 115292150460684697 := by omega
            rw [hdv] at HST
            clear hst htk hdv
            go_wp2_with fail
            go_round
            case rel => exact ⟨k + 1, by omega, by go_num, by rw [HST.out], by rw [HST.out], HALL.out⟩
            case measure => simp [intOf]; omega
        · have hno : (D).all digB = false := by
            rw [← Bool.not_eq_true]
            intro hh
            have := all_take hh (k + 1)
            rw [htk.out, List.all_append, Bool.and_eq_true] at this
            simp only [List.all_cons, List.all_nil, Bool.and_true] at this
            exact hd this.2
          have H6 := Lib.hid (show P = (0, 6) by rw [HL.out, hno]; rfl)
          have hx : x.toNat < 48 ∨ 57 < x.toNat := by
            rcases Nat.lt_or_ge x.toNat 48 with h | h
            · exact .inl h
            · rcases Nat.lt_or_ge 57 x.toNat with h' | h'
              · exact .inr h'
              · exact absurd (digB_iff.2 ⟨h, h'⟩) hd
          clear hst htk hno hd hall
          rcases hx with h | h
          · have b1 : decide ((x.toNat : Int) < 48) = true := by simp; omega
            go_wp2_with fail
            go_ret2
            exact ⟨by rw [HP.out, H6.out]; rfl, Below.refl _ _⟩
          · have b1 : decide ((x.toNat : Int) < 48) = false := by simp; omega
            have b2 : decide (57 < (x.toNat : Int)) = true := by simp; omega
            go_wp2_with fail
            go_ret2
            exact ⟨by rw [HP.out, H6.out]; rfl, Below.refl _ _⟩
      · obtain rfl : k = (D).length := by omega
        rw [List.take_length] at hall i1 i2 i3 i4
        rw [List.take_length]
        have HV : Hid (P = fitL (if false = true then -valL (D) else valL (D))) := by
          rw [Hid, HL.out, hall]; rfl
        have hi3 := Lib.hid i3
        have hi4 := Lib.hid i4
        clear i3 i4 hall
        generalize stR (D) = st at hi3 hi4 i1 i2
        obtain ⟨far, n⟩ := st
        simp only at i1 i2
        cases far
        · have hn : valL (D) = n := (hi3.out rfl).symm
          rw [hn] at HV
          have HV2 : Hid (P = if Num n = true then (n, 0) else (0, 11)) := HV.out
          clear hn
          go_wp2_with fail
          refine (refnum_any _ _).mono ?_
          rintro e w' ⟨rfl, rfl⟩
          generalize Num n = q at HV2
          cases q
          all_goals
            have HV3 := Lib.hid HV2.out
            clear HV2
            go_wp2_with fail
            go_ret2
            exact ⟨by rw [HP.out, HV3.out]; rfl, Below.refl _ _⟩
        · have hn : 1152921504606846976 < valL (D) := hi4.out rfl
          have H11 := Lib.hid (show P = (0, 11) by
            rw [HV.out, fitL, if_neg]
            rw [num_iff]
            simp
            omega)
          clear hn
          go_wp2_with fail
          go_ret2
          exact ⟨by rw [HP.out, H11.out]; rfl, Below.refl _ _⟩
  · have H := Lib.hid (show parseL (D) = (0, 6) by
      rw [parseL, hBody, if_neg]
      simp only [okL, Bool.and_eq_true, decide_eq_true_eq]
      exact fun h => hlen h.1)
    have hlen' : ((D).length : Int) < 1 ∨ 30 < ((D).length : Int) := by omega
    clear hlen hBody hNeg hl
    try simp only [List.length_cons] at hlen'
    rcases hlen' with h | h
    · go_enter Tryd.func92, Tryd.ntmps92
      go_wp2_with fail
      go_ret2
      exact ⟨by rw [H.out]; rfl, Below.refl _ _⟩
    · have h' : ¬ ((D).length : Int) < 1 := by simp; omega
      try simp only [List.length_cons] at h'
      go_enter Tryd.func92, Tryd.ntmps92
      go_wp2_with fail
      go_ret2
      exact ⟨by rw [H.out]; rfl, Below.refl _ _⟩

theorem refparse_any (s : ByteArray) (w : World) :
    Calls Tryd.prog 92 #[.string s] w fun e w' => e = .returned (refV (parseL s.data.toList)) ∧ Below w.heap.size w w' := by
  obtain ⟨⟨l⟩⟩ := s
  rw [show (ByteArray.mk ⟨l⟩).data.toList = l from rfl]
  rcases l with _ | ⟨c, r⟩
  · have H := Lib.hid (show parseL [] = (0, 6) from rfl)
    go_enter Tryd.func92, Tryd.ntmps92
    go_wp2_with fail
    go_ret2
    exact ⟨by rw [H.out]; rfl, Below.refl _ _⟩
  · by_cases h45 : c = 45
    · subst h45
      exact refparse_minus r w
    · by_cases h43 : c = 43
      · subst h43
        exact refparse_plus r w
      · exact refparse_none (c :: r) c (ba_zero c r) (by simp [bodyL, h45, h43]) (by simp [negL, h45]) (by simp) h45 h43 w
end Go.Proofs.YthighbbikpnpgaaDoor

/-! FT -/
namespace Go.Proofs.YthighbbikpnpgaaDoor
open Go.RowKit

/-- The table that strconv reads is as it was laid. -/
def Tab (w : World) : Prop := Lib.TabIs Tryd.prog w "internal/strconv.uint64pow10" .u64 Lib.pow10Tab

theorem tab_below {w w' : World} (h : Tab w) (hb : Below w.heap.size w w') : Tab w' := by
  unfold Tab Lib.TabIs World.var? at *
  cases hg : Tryd.prog.globalNamed "internal/strconv.uint64pow10" with
  | none => simp [hg] at h
  | some g =>
    simp only [hg, Option.bind_some] at h ⊢
    have hlt : g < w.heap.size := by
      rcases Nat.lt_or_ge g w.heap.size with h' | h'
      · exact h'
      · simp [Array.getElem?_eq_none h'] at h
    rw [hb.block g hlt]
    exact h

theorem text_any (n : Int) (w : World) (h0 : -9223372036854775808 ≤ n) (h1 : n ≤ 9223372036854775807) (htab : Tab w) :
    Calls Tryd.prog 63 #[.int .i64 n] w fun e w' => e = .returned (.string ⟨(Lib.itoa n).toArray⟩) ∧ Below w.heap.size w w' := by
  go_enter Tryd.func63, Tryd.ntmps63
  go_wp2_with fail
  refine (Tryd.strconv_Itoa n h0 h1 _ htab).mono ?_
  rintro e w' ⟨rfl, k, os, rfl⟩
  have hb := Lib.below_grow w.heap.size w (Nat.le_refl _) k os
  go_wp2_with fail
  go_ret
  exact ⟨rfl, hb⟩
end Go.Proofs.YthighbbikpnpgaaDoor
