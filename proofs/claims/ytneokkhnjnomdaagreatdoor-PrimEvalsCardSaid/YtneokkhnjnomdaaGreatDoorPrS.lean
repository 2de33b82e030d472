/-
  errors.Is and errors.As through an error with its name.
-/
import Derived.Test.YtneokkhnjnomdaaGreatDoorGB2
import Derived.Test.YtneokkhnjnomdaaGreatDoorWWords
namespace Go.Proofs.YtneokkhnjnomdaaGreatDoor
open Go.RowKit Go.Stop Go.Extern Go.Extern.Stop Go.Proofs.YtneokkhnjnomdaaGreatDoorW.PrintWords

/-- An error with its name. -/
abbrev abV (s : ByteArray) (k : Int) : Value := .iface 56 (.agg #[.string s, kindV k])

theorem ab_no_is (v : Value) (xT : TypeId) (w : World) : (Instr.typeAssert (.iface 56 v) xT 101 true).run Tryz.prog w = .ok (.tuple #[.nilIface, .bool false]) w := run_typeAssert_lacksB Tryz.underlying101 (by kernel_rfl) (by kernel_rfl) v xT w
theorem ab_unwrap (v : Value) (xT : TypeId) (w : World) : (Instr.typeAssert (.iface 56 v) xT 104 true).run Tryz.prog w = .ok (.tuple #[.iface 56 v, .bool true]) w := run_typeAssert_hasB Tryz.underlying104 (by kernel_rfl) v xT w
theorem ab_method (v : Value) (w : World) : (Go.method 287 56 v "Unwrap").run Tryz.prog w = .ok (128, v) w := by kernel_rfl

set_option maxRecDepth 100000 in
set_option maxHeartbeats 4000000 in
theorem unwrap_ab (s : ByteArray) (k : Int) (w : World) : Calls Tryz.prog 128 #[.agg #[.string s, kindV k]] w fun e w' => e = .returned (kindV k) ∧ Below w.heap.size w w' := by
  go_enter Tryz.func128, Tryz.ntmps128
  go_wp2_with fail
  go_ret
  exact ⟨rfl, below_alloc (Below.refl _ _) _⟩

set_option maxRecDepth 100000 in
set_option maxHeartbeats 4000000 in
/-- errors.Is(an error with its name, b). -/
theorem is_ab (s : ByteArray) (a b : Int) (w : World) :
    Calls Tryz.prog 18 #[abV s a, kindV b] w fun e w' => e = .returned (.bool (a == b)) ∧ Below w.heap.size w w' := by
  obtain ⟨i, hi, hcmp⟩ := Option.map_eq_some_iff.1 is_comp
  have h8 := @run_callFunc_extern Tryz.prog 47 _ Extern.ReflectliteType.typeOf Tryz.func47 (by kernel_rfl) (by kernel_rfl) (by kernel_rfl) (by kernel_rfl)
  have tT := is_typeOf
  have cT := is_comparable
  have mR := is_method
  have nE := no_is
  have uE := no_unwrap
  have vE := no_unwraps
  have nA := ab_no_is
  have uA := ab_unwrap
  have mA := ab_method
  have heq := fun w => run_eql_kinds (P := Tryz.prog) w a b Tryz.underlying30 Tryz.underlying45 hi hcmp
  have heqA := run_eql_iface_types (P := Tryz.prog) 56 45 (.agg #[.string s, kindV a]) (.int .i64 b) Tryz.underlying30 (by decide) w
  cases hab : (a == b)
  all_goals
    rw [hab] at heq
    go_enter Tryz.func18, Tryz.ntmps18
    go_wp2
    refine wp_loop_rounds 2 ?_
    rw [rounds_succ]
    go_wp2_with (first | (go_at_call 128; refine (unwrap_ab s a _).mono ?_; rintro e w' ⟨rfl, hb⟩))
    rw [rounds_succ]
    go_wp2
    go_ret
    exact ⟨rfl, hb⟩

/-! ### errors.As at a name's variable -/
abbrev EtIs (w : World) : Prop := w.cell? ⟨0, 0, none⟩ = some (.iface 99 (.agg #[.pointer (some ⟨8, 30, none⟩)]))

theorem ab_valueP (t : Addr) (w : World) : (ReflectliteValue.unpack (.iface 62 (.pointer (some t)))).run Tryz.prog w
    = .ok (.agg #[.pointer (some ⟨8, 62, none⟩), .pointer (some ⟨w.heap.size, 0, none⟩), .int .u64 150]) (w.alloc (.cells #[.pointer (some t)] 62)) := by kernel_rfl
theorem ab_typeP (a : Addr) (w : World) : (ReflectliteValue.methodAny (ReflectliteValue.valueError "reflectlite.Value.Type" 0) (fun t _ _ _ => ReflectliteType.toType t) #[.agg #[.pointer (some ⟨8, 62, none⟩), .pointer (some a), .int .u64 150]]).run Tryz.prog w
    = .ok (.iface 99 (.agg #[.pointer (some ⟨8, 62, none⟩)])) w := by kernel_rfl
theorem ab_mKind (h : Value) (w : World) : (Go.method 287 99 (.agg #[h]) "Kind").run Tryz.prog w = .ok (123, h) w := by kernel_rfl
theorem ab_kindP (w : World) : ((ReflectliteType.abiMethod fun t => (fun a : Nat => Value.int IntKind.u8 (a : Int)) <$> Rtype.kind t) #[.pointer (some ⟨8, 62, none⟩)]).run Tryz.prog w = .ok (.int .u8 22) w := by kernel_rfl
theorem ab_kindS (w : World) : ((ReflectliteType.abiMethod fun t => (fun a : Nat => Value.int IntKind.u8 (a : Int)) <$> Rtype.kind t) #[.pointer (some ⟨8, 56, none⟩)]).run Tryz.prog w = .ok (.int .u8 25) w := by kernel_rfl
theorem ab_rlm (z : Sem Value) (f : TypeId → Addr → Nat → Nat → Sem Value) (v : Value) :
    ReflectliteValue.method z f #[v] = (do match ← ReflectliteValue.parts v with | none => z | some (t, a, fl) => f t a fl (fl % 32)) := rfl
theorem ab_partsP (a : Addr) (w : World) : (ReflectliteValue.parts (.agg #[.pointer (some ⟨8, 62, none⟩), .pointer (some a), .int .u64 150])).run Tryz.prog w = .ok (some (62, a, 150)) w := by kernel_rfl
theorem ab_isNil (a p : Addr) (W : World) (ha : W.cell? a = some (.pointer (some p))) :
    (ReflectliteValue.method (ReflectliteValue.valueError "reflectlite.Value.IsNil" 0) ReflectliteValue.isNil #[.agg #[.pointer (some ⟨8, 62, none⟩), .pointer (some a), .int .u64 150]]).run Tryz.prog W = .ok (.bool false) W := by
  rw [ab_rlm]
  simp only [Sem.run_bind, ab_partsP, Result.andThen]
  simp [ReflectliteValue.isNil, loadVar, isAgg, underlying, Tryz.underlying62, ha, Result.andThen]
theorem ab_mElem (h : Value) (w : World) : (Go.method 287 99 (.agg #[h]) "Elem").run Tryz.prog w = .ok (135, .agg #[h]) w := by kernel_rfl
theorem ab_mImpl (h : Value) (w : World) : (Go.method 287 99 (.agg #[h]) "Implements").run Tryz.prog w = .ok (136, .agg #[h]) w := by kernel_rfl
theorem ab_mAssign (h : Value) (w : World) : (Go.method 287 99 (.agg #[h]) "AssignableTo").run Tryz.prog w = .ok (133, .agg #[h]) w := by kernel_rfl
theorem ab_elemP (w : World) : (ReflectliteType.method ReflectliteType.elem #[.agg #[.pointer (some ⟨8, 62, none⟩)]]).run Tryz.prog w = .ok (.iface 99 (.agg #[.pointer (some ⟨8, 56, none⟩)])) w := by kernel_rfl
theorem ab_implS (w : World) : (ReflectliteType.relation "Implements" ReflectliteType.implements_ #[.agg #[.pointer (some ⟨8, 56, none⟩)], .iface 99 (.agg #[.pointer (some ⟨8, 30, none⟩)])]).run Tryz.prog w = .ok (.bool true) w := by kernel_rfl
theorem ab_typeS (v : Value) (w : World) : (ReflectliteType.typeOf #[.iface 56 v]).run Tryz.prog w = .ok (.iface 99 (.agg #[.pointer (some ⟨8, 56, none⟩)])) w := by kernel_rfl
theorem ab_typeK (v : Value) (w : World) : (ReflectliteType.typeOf #[.iface 45 v]).run Tryz.prog w = .ok (.iface 99 (.agg #[.pointer (some ⟨8, 45, none⟩)])) w := by kernel_rfl
theorem ab_assignS (w : World) : (ReflectliteType.relation "AssignableTo" ReflectliteType.assignableTo #[.agg #[.pointer (some ⟨8, 56, none⟩)], .iface 99 (.agg #[.pointer (some ⟨8, 56, none⟩)])]).run Tryz.prog w = .ok (.bool true) w := by kernel_rfl
theorem ab_assignK (w : World) : (ReflectliteType.relation "AssignableTo" ReflectliteType.assignableTo #[.agg #[.pointer (some ⟨8, 45, none⟩)], .iface 99 (.agg #[.pointer (some ⟨8, 56, none⟩)])]).run Tryz.prog w = .ok (.bool false) w := by kernel_rfl
theorem ab_valueS (s : ByteArray) (k : Int) (w : World) : (ReflectliteValue.unpack (abV s k)).run Tryz.prog w
    = .ok (.agg #[.pointer (some ⟨8, 56, none⟩), .pointer (some ⟨w.heap.size, 0, none⟩), .int .u64 153]) (w.alloc (.cells #[.string s, kindV k] 56)) := by kernel_rfl
theorem ab_elemOf (w : World) : (Rtype.elem? 62).run Tryz.prog w = .ok (some 56) w := by kernel_rfl
theorem ab_mk (p : Addr) (w : World) : (ReflectliteValue.mk 56 p ReflectliteValue.flagAddr).run Tryz.prog w = .ok (.agg #[.pointer (some ⟨8, 56, none⟩), .pointer (some p), .int .u64 409]) w := by kernel_rfl
theorem ab_elemV (a p : Addr) (W : World) (ha : W.cell? a = some (.pointer (some p))) :
    (ReflectliteValue.method (ReflectliteValue.valueError "reflectlite.Value.Elem" 0) ReflectliteValue.elem #[.agg #[.pointer (some ⟨8, 62, none⟩), .pointer (some a), .int .u64 150]]).run Tryz.prog W
      = .ok (.agg #[.pointer (some ⟨8, 56, none⟩), .pointer (some p), .int .u64 409]) W := by
  rw [ab_rlm]
  simp only [Sem.run_bind, ab_partsP, Result.andThen]
  simp [ReflectliteValue.elem, loadVar, isAgg, underlying, Tryz.underlying62, ha, Result.andThen, ab_elemOf, ab_mk]
theorem ab_rls (v x : Value) : ReflectliteValue.set #[v, x] = (do
    let (some (dst, a, fl), some (src, b, _)) := (← ReflectliteValue.parts v, ← ReflectliteValue.parts x)
      | unsupported (.noEntry "extern/(internal/reflectlite.Value).Set.zeroValue")
    if fl / ReflectliteValue.flagAddr % 2 == 0 then unsupported (.noEntry "extern/(internal/reflectlite.Value).Set.unaddressable")
    let val ← loadVar src b
    if ← Rtype.directlyAssignable dst src then storeVar dst a val
    else if ← Rtype.implements dst src then
      if (← Rtype.kind src) == 20 then
        match val with
        | .nilIface => unsupported (.noEntry "extern/reflectlite: a nil value of one interface type handed on as a value of another")
        | _ => storeVar dst a val
      else storeVar dst a (.iface src val)
    else panicString ("reflectlite.Set: value of type " ++ (← Rtype.spelt src) ++ " is not assignable to type " ++ (← Rtype.spelt dst))
    pure (.tuple #[])) := rfl
theorem ab_partsA (a : Addr) (w : World) : (ReflectliteValue.parts (.agg #[.pointer (some ⟨8, 56, none⟩), .pointer (some a), .int .u64 409])).run Tryz.prog w = .ok (some (56, a, 409)) w := by kernel_rfl
theorem ab_partsB (a : Addr) (w : World) : (ReflectliteValue.parts (.agg #[.pointer (some ⟨8, 56, none⟩), .pointer (some a), .int .u64 153])).run Tryz.prog w = .ok (some (56, a, 153)) w := by kernel_rfl
theorem ab_direct (w : World) : (Rtype.directlyAssignable 56 56).run Tryz.prog w = .ok true w := by kernel_rfl
theorem ab_set (tb b : Nat) (s : ByteArray) (k : Int) (o0 o1 : Value) (W : World) (hb : W.heap[b]? = some (.cells #[.string s, kindV k] 56 (0, 0))) (ht : W.heap[tb]? = some (.cells #[o0, o1] 56 (0, 0))) :
    (ReflectliteValue.set #[.agg #[.pointer (some ⟨8, 56, none⟩), .pointer (some ⟨tb, 0, none⟩), .int .u64 409], .agg #[.pointer (some ⟨8, 56, none⟩), .pointer (some ⟨b, 0, none⟩), .int .u64 153]]).run Tryz.prog W
      = .ok (.tuple #[]) ((W.setCell ⟨tb, 0, none⟩ (.string s)).setCell ⟨tb, 1, none⟩ (kindV k)) := by
  have b0 : W.cell? ⟨b, 0, none⟩ = some (.string s) := blk_cell hb 0
  have b1 : W.cell? ⟨b, 1, none⟩ = some (kindV k) := blk_cell hb 1
  have t0 : W.cell? ⟨tb, 0, none⟩ = some o0 := blk_cell ht 0
  have f0 := blk_frozen ht 0
  have h1 := blk_set ht 0 (.string s)
  have t1 : (W.setCell ⟨tb, 0, none⟩ (.string s)).cell? ⟨tb, 1, none⟩ = some o1 := blk_cell h1 1
  have f1 := blk_frozen h1 1
  rw [ab_rls]
  simp only [Sem.run_bind, ab_partsA, ab_partsB, Result.andThen]
  simp [ReflectliteValue.flagAddr, loadVar, loadCells, loadCellsFrom, b0, b1, Result.andThen, ab_direct, storeVar, Value.cells, storeCells, Addr.add]
  rw [run_store Tryz.prog W _ _ _ (by rfl)]
  simp [t0, f0]
  rw [run_store Tryz.prog _ _ _ _ (by rfl)]
  simp [t1, f1]

/-- errors.As(nil, target) is not asked; errors.As(a kind, target): false. -/
structure AbTo (tb : Nat) (r : Bool) (a : ByteArray) (e' : Value) (w : World) (e : Ending) (w' : World) : Prop where
  ret : e = .returned (.bool r)
  cells : w'.heap[tb]? = some (.cells #[.string a, e'] 56 (0, 0))
  keep : KeepBut w w' tb none
  same : w'.os = w.os ∧ w'.tape = w.tape ∧ w'.output = w.output

theorem AbTo.below {tb : Nat} {r : Bool} {a : ByteArray} {e' : Value} {w : World} {e : Ending} {w' : World} (h : AbTo tb r a e' w e w') {B : Nat} (hB : B ≤ tb) (hw : B ≤ w.heap.size) : Below B w w' := ⟨h.same.1, h.same.2.1, h.same.2.2, h.keep.1, fun i hi => h.keep.2 i (by omega) (by omega) (by simp)⟩

theorem kind_no_as (v : Value) (xT : TypeId) (w : World) : (Instr.typeAssert (.iface 45 v) xT 119 true).run Tryz.prog w = .ok (.tuple #[.nilIface, .bool false]) w := run_typeAssert_lacksB Tryz.underlying119 (by kernel_rfl) (by kernel_rfl) v xT w

abbrev abW (tb : Nat) (w : World) : World := ((w.alloc (.cells #[.pointer (some ⟨tb, 0, none⟩)] 62)).alloc (.cells #[.pointer (some ⟨8, 62, none⟩), .pointer (some ⟨w.heap.size, 0, none⟩), .int .u64 150] 88)).alloc (.cells #[.pointer (some ⟨8, 62, none⟩), .pointer (some ⟨w.heap.size, 0, none⟩), .int .u64 150] 88)

set_option maxRecDepth 100000 in
set_option maxHeartbeats 4000000 in
theorem ab_kind (k : Int) (tb : Nat) (a : ByteArray) (e' : Value) (w : World) (hg : EtIs w) (ht : w.heap[tb]? = some (.cells #[.string a, e'] 56 (0, 0))) :
    Calls Tryz.prog 35 #[kindV k, .iface 62 (.pointer (some ⟨tb, 0, none⟩))] w (AbTo tb false a e' w) := by
  have h6 := @run_callFunc_extern Tryz.prog 68 _ (fun args => ReflectliteValue.unpack (args.getD 0 (.tuple #[]))) Tryz.func68 (by kernel_rfl) (by kernel_rfl) (by kernel_rfl) (by kernel_rfl)
  have h7 := @run_callFunc_extern Tryz.prog 69 _ (ReflectliteValue.methodAny (ReflectliteValue.valueError "reflectlite.Value.Type" 0) (fun t _ _ _ => ReflectliteType.toType t)) Tryz.func69 (by kernel_rfl) (by kernel_rfl) (by kernel_rfl) (by kernel_rfl)
  have h8 := @run_callFunc_extern Tryz.prog 70 _ (ReflectliteValue.method (ReflectliteValue.valueError "reflectlite.Value.IsNil" 0) ReflectliteValue.isNil) Tryz.func70 (by kernel_rfl) (by kernel_rfl) (by kernel_rfl) (by kernel_rfl)
  have h27 := @run_callFunc_extern Tryz.prog 123 _ (ReflectliteType.abiMethod fun t => do pure (.int .u8 (← Rtype.kind t))) Tryz.func123 (by kernel_rfl) (by kernel_rfl) (by kernel_rfl) (by kernel_rfl)
  have h37 := @run_callFunc_extern Tryz.prog 135 _ (ReflectliteType.method ReflectliteType.elem) Tryz.func135 (by kernel_rfl) (by kernel_rfl) (by kernel_rfl) (by kernel_rfl)
  have h38 := @run_callFunc_extern Tryz.prog 136 _ (ReflectliteType.relation "Implements" ReflectliteType.implements_) Tryz.func136 (by kernel_rfl) (by kernel_rfl) (by kernel_rfl) (by kernel_rfl)
  have h10 := @run_callFunc_extern Tryz.prog 47 _ ReflectliteType.typeOf Tryz.func47 (by kernel_rfl) (by kernel_rfl) (by kernel_rfl) (by kernel_rfl)
  have h35 := @run_callFunc_extern Tryz.prog 133 _ (ReflectliteType.relation "AssignableTo" ReflectliteType.assignableTo) Tryz.func133 (by kernel_rfl) (by kernel_rfl) (by kernel_rfl) (by kernel_rfl)
  have tO := ab_typeK
  have mA := ab_mAssign
  have a25 := ab_assignK
  have f6 := ab_valueP
  have f7 := ab_typeP
  have mK := ab_mKind
  have mE := ab_mElem
  have mI := ab_mImpl
  have k27 := ab_kindP
  have k25 := ab_kindS
  have e27 := ab_elemP
  have i25 := ab_implS
  have nS := kind_no_as
  have uE := no_unwrap
  have vE := no_unwraps
  have n8 := ab_isNil ⟨w.heap.size, 0, none⟩ ⟨tb, 0, none⟩ ((w.alloc (.cells #[.pointer (some ⟨tb, 0, none⟩)] 62)).alloc (.cells #[.pointer (some ⟨8, 62, none⟩), .pointer (some ⟨w.heap.size, 0, none⟩), .int .u64 150] 88)) (by simp)
  have hlt : 0 < w.heap.size := by
    rcases Nat.lt_or_ge 0 w.heap.size with h | h
    · exact h
    · simp [EtIs, World.cell?, Array.getElem?_eq_none h] at hg
  have hg2 : ((w.alloc (.cells #[.pointer (some ⟨tb, 0, none⟩)] 62)).alloc (.cells #[.pointer (some ⟨8, 62, none⟩), .pointer (some ⟨w.heap.size, 0, none⟩), .int .u64 150] 88)).cell? ⟨0, 0, none⟩ = some (.iface 99 (.agg #[.pointer (some ⟨8, 30, none⟩)])) := by
    rw [World.cell?_alloc_lt _ _ ⟨0, 0, none⟩ (by simp), World.cell?_alloc_lt _ _ ⟨0, 0, none⟩ hlt]; exact hg
  have HT := Lib.hid ht
  clear ht
  go_enter Tryz.func35, Tryz.ntmps35
  go_wp2
  refine wp_loop_rounds 1 ?_
  rw [rounds_succ]
  go_wp2
  go_ret
  exact ⟨rfl, blk_alloc (blk_alloc (blk_alloc HT.out _) _) _, keep_alloc (keep_alloc (keep_alloc (KeepBut.refl w tb none) _) _) _, rfl, rfl, rfl⟩

set_option maxRecDepth 100000 in
set_option maxHeartbeats 4000000 in
theorem ab_as (s : ByteArray) (k : Int) (tb : Nat) (a : ByteArray) (e' : Value) (w : World) (hg : EtIs w) (ht : w.heap[tb]? = some (.cells #[.string a, e'] 56 (0, 0))) :
    Calls Tryz.prog 35 #[abV s k, .iface 62 (.pointer (some ⟨tb, 0, none⟩))] w (AbTo tb true s (kindV k) w) := by
  have h6 := @run_callFunc_extern Tryz.prog 68 _ (fun args => ReflectliteValue.unpack (args.getD 0 (.tuple #[]))) Tryz.func68 (by kernel_rfl) (by kernel_rfl) (by kernel_rfl) (by kernel_rfl)
  have h7 := @run_callFunc_extern Tryz.prog 69 _ (ReflectliteValue.methodAny (ReflectliteValue.valueError "reflectlite.Value.Type" 0) (fun t _ _ _ => ReflectliteType.toType t)) Tryz.func69 (by kernel_rfl) (by kernel_rfl) (by kernel_rfl) (by kernel_rfl)
  have h8 := @run_callFunc_extern Tryz.prog 70 _ (ReflectliteValue.method (ReflectliteValue.valueError "reflectlite.Value.IsNil" 0) ReflectliteValue.isNil) Tryz.func70 (by kernel_rfl) (by kernel_rfl) (by kernel_rfl) (by kernel_rfl)
  have h27 := @run_callFunc_extern Tryz.prog 123 _ (ReflectliteType.abiMethod fun t => do pure (.int .u8 (← Rtype.kind t))) Tryz.func123 (by kernel_rfl) (by kernel_rfl) (by kernel_rfl) (by kernel_rfl)
  have h37 := @run_callFunc_extern Tryz.prog 135 _ (ReflectliteType.method ReflectliteType.elem) Tryz.func135 (by kernel_rfl) (by kernel_rfl) (by kernel_rfl) (by kernel_rfl)
  have h38 := @run_callFunc_extern Tryz.prog 136 _ (ReflectliteType.relation "Implements" ReflectliteType.implements_) Tryz.func136 (by kernel_rfl) (by kernel_rfl) (by kernel_rfl) (by kernel_rfl)
  have h10 := @run_callFunc_extern Tryz.prog 47 _ ReflectliteType.typeOf Tryz.func47 (by kernel_rfl) (by kernel_rfl) (by kernel_rfl) (by kernel_rfl)
  have h35 := @run_callFunc_extern Tryz.prog 133 _ (ReflectliteType.relation "AssignableTo" ReflectliteType.assignableTo) Tryz.func133 (by kernel_rfl) (by kernel_rfl) (by kernel_rfl) (by kernel_rfl)
  have h11 := @run_callFunc_extern Tryz.prog 86 _ (ReflectliteValue.method (ReflectliteValue.valueError "reflectlite.Value.Elem" 0) ReflectliteValue.elem) Tryz.func86 (by kernel_rfl) (by kernel_rfl) (by kernel_rfl) (by kernel_rfl)
  have h12 := @run_callFunc_extern Tryz.prog 87 _ ReflectliteValue.set Tryz.func87 (by kernel_rfl) (by kernel_rfl) (by kernel_rfl) (by kernel_rfl)
  have tO := ab_typeS
  have mA := ab_mAssign
  have a25 := ab_assignS
  have v25 := ab_valueS
  have f6 := ab_valueP
  have f7 := ab_typeP
  have mK := ab_mKind
  have mE := ab_mElem
  have mI := ab_mImpl
  have k27 := ab_kindP
  have k25 := ab_kindS
  have e27 := ab_elemP
  have i25 := ab_implS
  have n8 := ab_isNil ⟨w.heap.size, 0, none⟩ ⟨tb, 0, none⟩ ((w.alloc (.cells #[.pointer (some ⟨tb, 0, none⟩)] 62)).alloc (.cells #[.pointer (some ⟨8, 62, none⟩), .pointer (some ⟨w.heap.size, 0, none⟩), .int .u64 150] 88)) (by simp)
  have hlt : 0 < w.heap.size := by
    rcases Nat.lt_or_ge 0 w.heap.size with h | h
    · exact h
    · simp [EtIs, World.cell?, Array.getElem?_eq_none h] at hg
  have hg2 : ((w.alloc (.cells #[.pointer (some ⟨tb, 0, none⟩)] 62)).alloc (.cells #[.pointer (some ⟨8, 62, none⟩), .pointer (some ⟨w.heap.size, 0, none⟩), .int .u64 150] 88)).cell? ⟨0, 0, none⟩ = some (.iface 99 (.agg #[.pointer (some ⟨8, 30, none⟩)])) := by
    rw [World.cell?_alloc_lt _ _ ⟨0, 0, none⟩ (by simp), World.cell?_alloc_lt _ _ ⟨0, 0, none⟩ hlt]; exact hg
  have htl : tb < w.heap.size := blk_lt ht
  have el := ab_elemV ⟨w.heap.size, 0, none⟩ ⟨tb, 0, none⟩ (abW tb w) (by rw [World.cell?_alloc_lt _ _ ⟨w.heap.size, 0, none⟩ (by simp; omega)]; simp)
  have HT := Lib.hid (show ((abW tb w).alloc (.cells #[.string s, kindV k] 56)).heap[tb]? = some (.cells #[.string a, e'] 56 (0, 0)) from blk_alloc (blk_alloc (blk_alloc (blk_alloc ht _) _) _) _)
  have HN : ((abW tb w).alloc (.cells #[.string s, kindV k] 56)).heap[w.heap.size + 1 + 1 + 1]? = some (.cells #[.string s, kindV k] 56 (0, 0)) := by
    have := blk_new (abW tb w) (.cells #[.string s, kindV k] 56 (0, 0))
    rw [show (abW tb w).heap.size = w.heap.size + 1 + 1 + 1 by simp] at this
    exact this
  have st := ab_set tb (w.heap.size + 1 + 1 + 1) s k _ _ _ HN HT.out
  clear HN ht
  go_enter Tryz.func35, Tryz.ntmps35
  go_wp2
  refine wp_loop_rounds 1 ?_
  rw [rounds_succ]
  go_wp2
  go_ret
  exact ⟨rfl, blk_set (blk_set HT.out 0 _) 1 _, ((keep_alloc (keep_alloc (keep_alloc (keep_alloc (KeepBut.refl w tb none) _) _) _) _).set_ 0 _).set_ 1 _, rfl, rfl, rfl⟩
end Go.Proofs.YtneokkhnjnomdaaGreatDoor
