/-
  errors.Is, at kinds of api's and at nil.
-/
import Derived.Test.YtneokkhnjnomdaaDoorW
import Derived.LaidEql
import Derived.Stop.Asserts
import Derived.RowKitTokens
namespace Go
section
variable {P : Program} (w : World)
theorem run_equalIn_kinds (d : Nat) {ti tn : TypeId} {ms : Array (String × TypeId)} {i : TypeInfo} {k : IntKind} (a b : Int)
    (hi : P.underlying ti = some (.interface ms)) (hn : P.underlying tn = some (.int k)) (hinfo : P.info? tn = some i) (hcomp : i.comparable = true) :
    (Op.equalIn (d + 2) ti (.iface tn (.int k a)) (.iface tn (.int k b))).run P w = .ok (a == b) w := by
  simp [Op.equalIn, run_underlying hi, run_underlying hn, typeInfo, hinfo, hcomp]

/-- Two interface values of one integer type are equal as the numbers are. -/
theorem run_eql_kinds {ti tn : TypeId} {ms : Array (String × TypeId)} {i : TypeInfo} {k : IntKind} (a b : Int)
    (hi : P.underlying ti = some (.interface ms)) (hn : P.underlying tn = some (.int k)) (hinfo : P.info? tn = some i) (hcomp : i.comparable = true) :
    (binOp .eql ti (.iface tn (.int k a)) (.iface tn (.int k b))).run P w = .ok (.bool (a == b)) w := by
  simp only [binOp]
  simp [Op.equal, Op.maxDepth, run_equalIn_kinds w 9998 a b hi hn hinfo hcomp]
end
end Go
namespace Go.Proofs.YtneokkhnjnomdaaDoor
open Go.RowKit Go.Stop Go.Extern

/-- A kind as an error. -/
abbrev kindV (k : Int) : Value := .iface 39 (.int .i64 k)

theorem is_typeOf (v : Value) (w : World) : (Extern.ReflectliteType.typeOf #[.iface 39 v]).run Tryd.prog w = .ok (.iface 77 (.agg #[.pointer (some ⟨8, 39, none⟩)])) w := by kernel_rfl
theorem is_comparable (w : World) : (callFunc 107 #[.agg #[.pointer (some ⟨8, 39, none⟩)]]).run Tryd.prog w = .ok (Next.value (.bool true)) w := by
  have h32 := @run_callFunc_extern Tryd.prog 107 _ (Extern.ReflectliteType.method fun t => do Extern.Rtype.noPackHeld "Comparable" t; pure (.bool (← typeInfo t).comparable)) Tryd.func107 (by kernel_rfl) (by kernel_rfl) (by kernel_rfl) (by kernel_rfl)
  have hc : ((Extern.ReflectliteType.method fun t => do Extern.Rtype.noPackHeld "Comparable" t; pure (.bool (← typeInfo t).comparable)) #[.agg #[.pointer (some ⟨8, 39, none⟩)]]).run Tryd.prog w = .ok (.bool true) w := by kernel_rfl
  rw [h32, hc]
  rfl
theorem is_method (v : Value) (w : World) : (Go.method 273 77 v "Comparable").run Tryd.prog w = .ok (107, v) w := by kernel_rfl
theorem is_comp : (Tryd.prog.info? 39).map (·.comparable) = some true := by kernel_rfl

theorem no_is (v : Value) (xT : TypeId) (w : World) : (Instr.typeAssert (.iface 39 v) xT 79 true).run Tryd.prog w = .ok (.tuple #[.nilIface, .bool false]) w := run_typeAssert_lacksB Tryd.underlying79 (by kernel_rfl) (by kernel_rfl) v xT w
theorem no_unwrap (v : Value) (xT : TypeId) (w : World) : (Instr.typeAssert (.iface 39 v) xT 82 true).run Tryd.prog w = .ok (.tuple #[.nilIface, .bool false]) w := run_typeAssert_lacksB Tryd.underlying82 (by kernel_rfl) (by kernel_rfl) v xT w
theorem no_unwraps (v : Value) (xT : TypeId) (w : World) : (Instr.typeAssert (.iface 39 v) xT 84 true).run Tryd.prog w = .ok (.tuple #[.nilIface, .bool false]) w := run_typeAssert_lacksB Tryd.underlying84 (by kernel_rfl) (by kernel_rfl) v xT w

/-- errors.Is(a, b), both kinds. -/
theorem is_kind (a b : Int) (w : World) :
    Calls Tryd.prog 17 #[kindV a, kindV b] w fun e w' => e = .returned (.bool (a == b)) ∧ w' = w := by
  obtain ⟨i, hi, hcmp⟩ := Option.map_eq_some_iff.1 is_comp
  have h8 := @run_callFunc_extern Tryd.prog 33 _ Extern.ReflectliteType.typeOf Tryd.func33 (by kernel_rfl) (by kernel_rfl) (by kernel_rfl) (by kernel_rfl)
  have tT := is_typeOf
  have cT := is_comparable
  have mR := is_method
  have nE := no_is
  have uE := no_unwrap
  have vE := no_unwraps
  have heq := run_eql_kinds (P := Tryd.prog) w a b Tryd.underlying34 Tryd.underlying39 hi hcmp
  cases hab : (a == b)
  all_goals
    rw [hab] at heq
    go_enter Tryd.func17, Tryd.ntmps17
    go_wp2
    refine wp_loop_rounds 1 ?_
    rw [rounds_succ]
    go_wp2
    go_ret
    exact ⟨rfl, rfl⟩

/-- errors.Is(nil, b). -/
theorem is_nil (b : Int) (w : World) :
    Calls Tryd.prog 17 #[.nilIface, kindV b] w fun e w' => e = .returned (.bool false) ∧ w' = w := by
  have hn := run_eql_iface_nil_left (P := Tryd.prog) w 39 (.int .i64 b) Tryd.underlying34
  go_enter Tryd.func17, Tryd.ntmps17
  go_wp2
  go_ret
  exact ⟨rfl, rfl⟩
end Go.Proofs.YtneokkhnjnomdaaDoor
