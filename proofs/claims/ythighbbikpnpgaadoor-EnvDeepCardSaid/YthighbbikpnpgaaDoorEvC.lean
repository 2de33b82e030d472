/-
  Layer 11: what a table that is none answers; an error's number.
-/
import Derived.Test.YthighbbikpnpgaaDoorEvB
namespace Go.Proofs.YthighbbikpnpgaaDoor
open Go.RowKit Go.Maps

theorem extend_nil (at_ : Int) (s : ByteArray) (k n : Int) (W : World) :
    Calls Tryd.prog 19 #[.pointer none, .int .i64 at_, .string s, .agg #[.int .i64 k, .int .i64 n]] W fun e w' => e = .returned (.tuple #[.int .i64 0, kindV 1]) ∧ Below W.heap.size W w' := by
  go_enter Tryd.func19, Tryd.ntmps19
  go_wp2_with fail
  refine (there_nil _ _ _).mono ?_
  rintro e w' ⟨rfl, rfl⟩
  go_wp2_with fail
  go_ret2
  exact ⟨rfl, by first | exact Below.refl _ _ | exact (Below.refl _ _).alloc (Nat.le_refl _) _⟩

theorem alias_nil (at_ : Int) (s : ByteArray) (W : World) :
    Calls Tryd.prog 26 #[.pointer none, .string s, .int .i64 at_] W fun e w' => e = .returned (.tuple #[.string ⟨#[]⟩, kindV 1]) ∧ w' = W := by
  go_enter Tryd.func26, Tryd.ntmps26
  go_wp2_with fail
  refine (there_nil _ _ _).mono ?_
  rintro e w' ⟨rfl, rfl⟩
  go_wp2_with fail
  go_ret2
  exact ⟨rfl, rfl⟩

theorem find_nil (at_ : Int) (s : ByteArray) (W : World) :
    Calls Tryd.prog 20 #[.pointer none, .int .i64 at_, .string s] W fun e w' => e = .returned (.tuple #[.agg #[.int .i64 0, .int .i64 0], kindV 1]) ∧ Below W.heap.size W w' := by
  go_enter Tryd.func20, Tryd.ntmps20
  go_wp2_with fail
  refine (there_nil _ _ _).mono ?_
  rintro e w' ⟨rfl, rfl⟩
  go_wp2_with fail
  exact bodyPost_ret (v := .tuple #[.agg #[.int .i64 0, .int .i64 0], kindV 1]) (by simp [results, Tryd.results20, go_sem]) rfl ⟨rfl, by first | exact Below.refl _ _ | exact (Below.refl _ _).alloc (Nat.le_refl _) _⟩

theorem same_nil (a b : Int) (s t : ByteArray) (W : World) :
    Calls Tryd.prog 28 #[.pointer none, .int .i64 a, .string s, .int .i64 b, .string t] W fun e w' => e = .returned (.bool false) ∧ w' = W := by
  go_enter Tryd.func28, Tryd.ntmps28
  go_wp2_with fail
  refine (there_nil _ _ _).mono ?_
  rintro e w' ⟨rfl, rfl⟩
  go_wp2_with fail
  go_ret
  exact ⟨rfl, rfl⟩

theorem strip_nil (s : ByteArray) (W : World) :
    Calls Tryd.prog 29 #[.pointer none, .string s] W fun e w' => e = .returned (.string ⟨#[]⟩) ∧ w' = W := by
  go_enter Tryd.func29, Tryd.ntmps29
  go_wp2_with fail
  go_ret
  exact ⟨rfl, rfl⟩

theorem top_nil (s : ByteArray) (k n : Int) (W : World) :
    Calls Tryd.prog 23 #[.pointer none, .string s, .agg #[.int .i64 k, .int .i64 n]] W fun e w' => e = .returned (kindV 1) ∧ Below W.heap.size W w' := by
  go_enter Tryd.func23, Tryd.ntmps23
  go_wp2_with fail
  go_ret
  exact ⟨rfl, by first | exact Below.refl _ _ | exact (Below.refl _ _).alloc (Nat.le_refl _) _⟩

theorem kind_one (W : World) :
    Calls Tryd.prog 30 #[kindV 1] W fun e w' => e = .returned (.int .i64 1) ∧ Below W.heap.size W w' := by
  go_enter Tryd.func30, Tryd.ntmps30
  go_wp2_with fail
  go_loop [9] (fun i => i = .int .i64 0) (fun _ => 0)
  case atStart => rfl
  case round =>
    subst hrel
    go_wp2_with fail
    refine (is_kind _ _ _).mono ?_
    rintro e w' ⟨rfl, rfl⟩
    go_wp2_with fail
    go_ret
    exact ⟨rfl, (Below.refl _ _).alloc (Nat.le_refl _) _⟩
end Go.Proofs.YthighbbikpnpgaaDoor
