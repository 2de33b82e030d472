/-
  Two tokens are held against one another.
-/
import Derived.Test.YthighbbikpnpgaaDoorLB5
import Derived.Test.YthighbbikpnpgaaDoorWEqStruct
namespace Go.Proofs.YthighbbikpnpgaaDoor
open Go.RowKit Go.Proofs.YthighbbikpnpgaaDoorW.PrintWords

theorem tok_eq_in (d : Nat) (t : TokR) (w : World) : (Op.equalIn (d + 3) TT (tokV t) (tokV t)).run Tryd.prog w = .ok true w := by
  have i3 : ∀ (a : Int) (d : Nat), (Op.equalIn (d + 1) 3 (.int .i64 a) (.int .i64 a)).run Tryd.prog w = .ok true w := fun a d => by
    simp [Op.equalIn, run_underlying Tryd.underlying3]
  have i9 : ∀ (a : ByteArray) (d : Nat), (Op.equalIn (d + 1) 9 (.string a) (.string a)).run Tryd.prog w = .ok true w := fun a d => by
    simp [Op.equalIn, run_underlying Tryd.underlying9]
    cases a with
    | mk d => show (d == d) = true; simp
  refine eqA_of (P := Tryd.prog) Tryd.underlying60 (by kernel_rfl) ?_
  refine eqf_end (a := .int .i64 t.k) (b := .int .i64 t.k) (by kernel_rfl) (by kernel_rfl) (by kernel_rfl) (i3 _ _) ?_
  refine eqf_end (a := .int .i64 t.n) (b := .int .i64 t.n) (by kernel_rfl) (by kernel_rfl) (by kernel_rfl) (i3 _ _) ?_
  refine eqf_end (a := .string ⟨t.x.toArray⟩) (b := .string ⟨t.x.toArray⟩) (by kernel_rfl) (by kernel_rfl) (by kernel_rfl) (i9 _ _) ?_
  refine eqf_end (a := .int .i64 t.ln) (b := .int .i64 t.ln) (by kernel_rfl) (by kernel_rfl) (by kernel_rfl) (i3 _ _) ?_
  refine eqf_end (a := .int .i64 t.cl) (b := .int .i64 t.cl) (by kernel_rfl) (by kernel_rfl) (by kernel_rfl) (i3 _ _) ?_
  refine eqf_end (a := .int .i64 (t.nx : Nat)) (b := .int .i64 (t.nx : Nat)) (by kernel_rfl) (by kernel_rfl) (by kernel_rfl) (i3 _ _) ?_
  exact eqf_nil

theorem tok_eql (t : TokR) (w : World) : (binOp .eql TT (tokV t) (tokV t)).run Tryd.prog w = .ok (.bool true) w := by
  have h := tok_eq_in 9997 t w
  unfold tokV at h ⊢
  simp only [binOp]
  simp [Op.equal, Op.maxDepth, h]
theorem tok_neq (t : TokR) (w : World) : (binOp .neq TT (tokV t) (tokV t)).run Tryd.prog w = .ok (.bool false) w := by
  have h := tok_eq_in 9997 t w
  unfold tokV at h ⊢
  simp only [binOp]
  simp [Op.equal, Op.maxDepth, h]
end Go.Proofs.YthighbbikpnpgaaDoor
