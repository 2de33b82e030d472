/-
  What a pure procedure takes; what comes to numbers.
-/
import Derived.Test.YtneokkhnjnomdaaGreatDoorPrD
import Derived.Test.YtneokkhnjnomdaaGreatDoorGB2
namespace Go.Proofs.YtneokkhnjnomdaaGreatDoor
open Go.RowKit Go.Proofs.YtneokkhnjnomdaaGreatDoorW.PrintWords

structure KTo (K : List Int) (w : World) (e : Ending) (w' : World) : Prop where
  ret : ∃ v, e = .returned v ∧ IntsAt K v w'
  below : Below w.heap.size w w'
theorem ints_new (w : World) (K : List Int) : IntsAt K (.slice (some ⟨w.heap.size, 0, none⟩) K.length K.length) (w.alloc (.cells (K.map (Value.int .i64)).toArray 3)) := by
  refine ⟨⟨w.heap.size, K.length, rfl, by simp, fun j hj => ?_⟩⟩
  rw [blk_cell (blk_new w (.cells (K.map (Value.int .i64)).toArray 3 (0, 0))) j]
  simp [hj]

def kindsN (n : Int) : List Int :=
  if n = 29 ∨ n = 35 ∨ n = 37 then [4] else if n = 30 then [4, 1] else if n = 31 ∨ n = 32 then [4, 4] else if n = 33 then [4, 1, 1]
  else if n = 34 ∨ n = 39 then [1] else if n = 36 then [5] else if n = 38 then [3] else [1, 1]

set_option maxRecDepth 100000 in
set_option maxHeartbeats 4000000 in
theorem kinds_1 (w : World) : Calls Tryz.prog 30 #[.string ⟨#[43]⟩] w (KTo [1, 1] w) := by
  go_enter Tryz.func30, Tryz.ntmps30
  go_wp2_with fail
  go_ret
  exact ⟨⟨_, rfl, ints_new w [1, 1]⟩, below_alloc (Below.refl _ _) _⟩
set_option maxRecDepth 100000 in
set_option maxHeartbeats 4000000 in
theorem kinds_2 (w : World) : Calls Tryz.prog 30 #[.string ⟨#[45]⟩] w (KTo [1, 1] w) := by
  go_enter Tryz.func30, Tryz.ntmps30
  go_wp2_with fail
  go_ret
  exact ⟨⟨_, rfl, ints_new w [1, 1]⟩, below_alloc (Below.refl _ _) _⟩
set_option maxRecDepth 100000 in
set_option maxHeartbeats 4000000 in
theorem kinds_3 (w : World) : Calls Tryz.prog 30 #[.string ⟨#[42]⟩] w (KTo [1, 1] w) := by
  go_enter Tryz.func30, Tryz.ntmps30
  go_wp2_with fail
  go_ret
  exact ⟨⟨_, rfl, ints_new w [1, 1]⟩, below_alloc (Below.refl _ _) _⟩
set_option maxRecDepth 100000 in
set_option maxHeartbeats 4000000 in
theorem kinds_4 (w : World) : Calls Tryz.prog 30 #[.string ⟨#[113, 117, 111, 116, 105, 101, 110, 116]⟩] w (KTo [1, 1] w) := by
  go_enter Tryz.func30, Tryz.ntmps30
  go_wp2_with fail
  go_ret
  exact ⟨⟨_, rfl, ints_new w [1, 1]⟩, below_alloc (Below.refl _ _) _⟩
set_option maxRecDepth 100000 in
set_option maxHeartbeats 4000000 in
theorem kinds_5 (w : World) : Calls Tryz.prog 30 #[.string ⟨#[114, 101, 109, 97, 105, 110, 100, 101, 114]⟩] w (KTo [1, 1] w) := by
  go_enter Tryz.func30, Tryz.ntmps30
  go_wp2_with fail
  go_ret
  exact ⟨⟨_, rfl, ints_new w [1, 1]⟩, below_alloc (Below.refl _ _) _⟩
set_option maxRecDepth 100000 in
set_option maxHeartbeats 4000000 in
theorem kinds_6 (w : World) : Calls Tryz.prog 30 #[.string ⟨#[109, 111, 100, 117, 108, 111]⟩] w (KTo [1, 1] w) := by
  go_enter Tryz.func30, Tryz.ntmps30
  go_wp2_with fail
  go_ret
  exact ⟨⟨_, rfl, ints_new w [1, 1]⟩, below_alloc (Below.refl _ _) _⟩
set_option maxRecDepth 100000 in
set_option maxHeartbeats 4000000 in
theorem kinds_7 (w : World) : Calls Tryz.prog 30 #[.string ⟨#[61]⟩] w (KTo [1, 1] w) := by
  go_enter Tryz.func30, Tryz.ntmps30
  go_wp2_with fail
  go_ret
  exact ⟨⟨_, rfl, ints_new w [1, 1]⟩, below_alloc (Below.refl _ _) _⟩
set_option maxRecDepth 100000 in
set_option maxHeartbeats 4000000 in
theorem kinds_8 (w : World) : Calls Tryz.prog 30 #[.string ⟨#[60]⟩] w (KTo [1, 1] w) := by
  go_enter Tryz.func30, Tryz.ntmps30
  go_wp2_with fail
  go_ret
  exact ⟨⟨_, rfl, ints_new w [1, 1]⟩, below_alloc (Below.refl _ _) _⟩
set_option maxRecDepth 100000 in
set_option maxHeartbeats 4000000 in
theorem kinds_29 (w : World) : Calls Tryz.prog 30 #[.string ⟨#[115, 116, 114, 105, 110, 103, 45, 108, 101, 110, 103, 116, 104]⟩] w (KTo [4] w) := by
  go_enter Tryz.func30, Tryz.ntmps30
  go_wp2_with fail
  go_ret
  exact ⟨⟨_, rfl, ints_new w [4]⟩, below_alloc (Below.refl _ _) _⟩
set_option maxRecDepth 100000 in
set_option maxHeartbeats 4000000 in
theorem kinds_30 (w : World) : Calls Tryz.prog 30 #[.string ⟨#[115, 116, 114, 105, 110, 103, 45, 114, 101, 102]⟩] w (KTo [4, 1] w) := by
  go_enter Tryz.func30, Tryz.ntmps30
  go_wp2_with fail
  go_ret
  exact ⟨⟨_, rfl, ints_new w [4, 1]⟩, below_alloc (Below.refl _ _) _⟩
set_option maxRecDepth 100000 in
set_option maxHeartbeats 4000000 in
theorem kinds_31 (w : World) : Calls Tryz.prog 30 #[.string ⟨#[115, 116, 114, 105, 110, 103, 45, 97, 112, 112, 101, 110, 100]⟩] w (KTo [4, 4] w) := by
  go_enter Tryz.func30, Tryz.ntmps30
  go_wp2_with fail
  go_ret
  exact ⟨⟨_, rfl, ints_new w [4, 4]⟩, below_alloc (Below.refl _ _) _⟩
set_option maxRecDepth 100000 in
set_option maxHeartbeats 4000000 in
theorem kinds_32 (w : World) : Calls Tryz.prog 30 #[.string ⟨#[115, 116, 114, 105, 110, 103, 61, 63]⟩] w (KTo [4, 4] w) := by
  go_enter Tryz.func30, Tryz.ntmps30
  go_wp2_with fail
  go_ret
  exact ⟨⟨_, rfl, ints_new w [4, 4]⟩, below_alloc (Below.refl _ _) _⟩
set_option maxRecDepth 100000 in
set_option maxHeartbeats 4000000 in
theorem kinds_33 (w : World) : Calls Tryz.prog 30 #[.string ⟨#[115, 117, 98, 115, 116, 114, 105, 110, 103]⟩] w (KTo [4, 1, 1] w) := by
  go_enter Tryz.func30, Tryz.ntmps30
  go_wp2_with fail
  go_ret
  exact ⟨⟨_, rfl, ints_new w [4, 1, 1]⟩, below_alloc (Below.refl _ _) _⟩
set_option maxRecDepth 100000 in
set_option maxHeartbeats 4000000 in
theorem kinds_34 (w : World) : Calls Tryz.prog 30 #[.string ⟨#[110, 117, 109, 98, 101, 114, 45, 62, 115, 116, 114, 105, 110, 103]⟩] w (KTo [1] w) := by
  go_enter Tryz.func30, Tryz.ntmps30
  go_wp2_with fail
  go_ret
  exact ⟨⟨_, rfl, ints_new w [1]⟩, below_alloc (Below.refl _ _) _⟩
set_option maxRecDepth 100000 in
set_option maxHeartbeats 4000000 in
theorem kinds_35 (w : World) : Calls Tryz.prog 30 #[.string ⟨#[115, 116, 114, 105, 110, 103, 45, 62, 110, 117, 109, 98, 101, 114]⟩] w (KTo [4] w) := by
  go_enter Tryz.func30, Tryz.ntmps30
  go_wp2_with fail
  go_ret
  exact ⟨⟨_, rfl, ints_new w [4]⟩, below_alloc (Below.refl _ _) _⟩
set_option maxRecDepth 100000 in
set_option maxHeartbeats 4000000 in
theorem kinds_36 (w : World) : Calls Tryz.prog 30 #[.string ⟨#[115, 121, 109, 98, 111, 108, 45, 62, 115, 116, 114, 105, 110, 103]⟩] w (KTo [5] w) := by
  go_enter Tryz.func30, Tryz.ntmps30
  go_wp2_with fail
  go_ret
  exact ⟨⟨_, rfl, ints_new w [5]⟩, below_alloc (Below.refl _ _) _⟩
set_option maxRecDepth 100000 in
set_option maxHeartbeats 4000000 in
theorem kinds_37 (w : World) : Calls Tryz.prog 30 #[.string ⟨#[115, 116, 114, 105, 110, 103, 45, 62, 115, 121, 109, 98, 111, 108]⟩] w (KTo [4] w) := by
  go_enter Tryz.func30, Tryz.ntmps30
  go_wp2_with fail
  go_ret
  exact ⟨⟨_, rfl, ints_new w [4]⟩, below_alloc (Below.refl _ _) _⟩
set_option maxRecDepth 100000 in
set_option maxHeartbeats 4000000 in
theorem kinds_38 (w : World) : Calls Tryz.prog 30 #[.string ⟨#[99, 104, 97, 114, 45, 62, 105, 110, 116, 101, 103, 101, 114]⟩] w (KTo [3] w) := by
  go_enter Tryz.func30, Tryz.ntmps30
  go_wp2_with fail
  go_ret
  exact ⟨⟨_, rfl, ints_new w [3]⟩, below_alloc (Below.refl _ _) _⟩
set_option maxRecDepth 100000 in
set_option maxHeartbeats 4000000 in
theorem kinds_39 (w : World) : Calls Tryz.prog 30 #[.string ⟨#[105, 110, 116, 101, 103, 101, 114, 45, 62, 99, 104, 97, 114]⟩] w (KTo [1] w) := by
  go_enter Tryz.func30, Tryz.ntmps30
  go_wp2_with fail
  go_ret
  exact ⟨⟨_, rfl, ints_new w [1]⟩, below_alloc (Below.refl _ _) _⟩

theorem pure_cases {n : Int} (h : pureB n = true) : n = 1 ∨ n = 2 ∨ n = 3 ∨ n = 4 ∨ n = 5 ∨ n = 6 ∨ n = 7 ∨ n = 8 ∨ n = 29 ∨ n = 30 ∨ n = 31 ∨ n = 32 ∨ n = 33 ∨ n = 34 ∨ n = 35 ∨ n = 36 ∨ n = 37 ∨ n = 38 ∨ n = 39 := by
  have := of_decide_eq_true h
  omega
theorem kinds_of (n : Int) (w : World) (h : pureB n = true) : Calls Tryz.prog 30 #[.string (nameS (nameN n))] w (KTo (kindsN n) w) := by
  rcases pure_cases h with rfl | rfl | rfl | rfl | rfl | rfl | rfl | rfl | rfl | rfl | rfl | rfl | rfl | rfl | rfl | rfl | rfl | rfl | rfl
  · exact kinds_1 w
  · exact kinds_2 w
  · exact kinds_3 w
  · exact kinds_4 w
  · exact kinds_5 w
  · exact kinds_6 w
  · exact kinds_7 w
  · exact kinds_8 w
  · exact kinds_29 w
  · exact kinds_30 w
  · exact kinds_31 w
  · exact kinds_32 w
  · exact kinds_33 w
  · exact kinds_34 w
  · exact kinds_35 w
  · exact kinds_36 w
  · exact kinds_37 w
  · exact kinds_38 w
  · exact kinds_39 w

theorem dat_put {b : Nat} {k n : Int} {t : ByteArray} {W : World} (h : W.heap[b]? = some (.cells #[.int .i64 k, .int .i64 n, .string t, .slice none 0 0] 26 (0, 0))) (k' n' : Int) (t' : ByteArray) :
    ((((W.setCell ⟨b, 0, none⟩ (.int .i64 k')).setCell ⟨b, 1, none⟩ (.int .i64 n')).setCell ⟨b, 2, none⟩ (.string t')).setCell ⟨b, 3, none⟩ (.slice none 0 0)).heap[b]? = some (.cells #[.int .i64 k', .int .i64 n', .string t', .slice none 0 0] 26 (0, 0)) :=
  blk_put (blk_put (blk_put (blk_put h 0 _ rfl) 1 _ rfl) 2 _ rfl) 3 _ rfl
theorem below_put {w W : World} (h : Below w.heap.size w W) (k' n' : Int) (t' : ByteArray) :
    Below w.heap.size w ((((W.setCell ⟨w.heap.size, 0, none⟩ (.int .i64 k')).setCell ⟨w.heap.size, 1, none⟩ (.int .i64 n')).setCell ⟨w.heap.size, 2, none⟩ (.string t')).setCell ⟨w.heap.size, 3, none⟩ (.slice none 0 0)) :=
  below_set (below_set (below_set (below_set h (Nat.le_refl _)) (Nat.le_refl _)) (Nat.le_refl _)) (Nat.le_refl _)
abbrev datV (k n : Int) (t : ByteArray) : Value := .agg #[.int .i64 k, .int .i64 n, .string t, .slice none 0 0]

set_option maxRecDepth 100000 in
set_option maxHeartbeats 4000000 in
theorem truth_of (b : Bool) (w : World) : Calls Tryz.prog 63 #[.bool b] w (Giv (datV 2 (if b = true then 1 else 0) ⟨#[]⟩) w) := by
  cases b
  · go_enter Tryz.func63, Tryz.ntmps63
    go_wp2_with fail
    go_returns
    exact ⟨rfl, below_alloc (Below.refl _ _) _⟩
  · go_enter Tryz.func63, Tryz.ntmps63
    go_wp2_with fail
    go_returns
    exact ⟨rfl, below_alloc (Below.refl _ _) _⟩
set_option maxRecDepth 100000 in
set_option maxHeartbeats 4000000 in
theorem str_of (s : ByteArray) (w : World) : Calls Tryz.prog 64 #[.string s] w (Giv (datV 4 0 s) w) := by
  go_enter Tryz.func64, Tryz.ntmps64
  go_wp2_with fail
  go_returns
  exact ⟨rfl, below_alloc (Below.refl _ _) _⟩

set_option maxRecDepth 100000 in
set_option maxHeartbeats 4000000 in
theorem math_1 (a b : Int) (w : World) : Calls Tryz.prog 33 #[.string ⟨#[43]⟩, .int .i64 a, .int .i64 b] w (Giv (.tuple #[datV 1 (addL a b).1 ⟨#[]⟩, errV (addL a b).2]) w) := by
  have hc := Lib.hid (fun w => add_any a b w)
  obtain ⟨N, E, hr⟩ : ∃ N E, addL a b = (N, E) := ⟨_, _, rfl⟩
  rw [hr] at hc ⊢
  rw [show resV (N, E) = .tuple #[.int .i64 N, errV E] from rfl] at hc
  clear hr
  generalize errV E = x at hc ⊢
  go_enter Tryz.func33, Tryz.ntmps33
  go_wp2_with fail
  refine (hc.out _).mono ?_
  rintro e w2 ⟨rfl, rfl⟩
  go_wp2_with fail
  go_returns
  exact ⟨rfl, below_alloc (Below.refl _ _) _⟩
set_option maxRecDepth 100000 in
set_option maxHeartbeats 4000000 in
theorem math_2 (a b : Int) (w : World) : Calls Tryz.prog 33 #[.string ⟨#[45]⟩, .int .i64 a, .int .i64 b] w (Giv (.tuple #[datV 1 (subL a b).1 ⟨#[]⟩, errV (subL a b).2]) w) := by
  have hc := Lib.hid (fun w => sub_any a b w)
  obtain ⟨N, E, hr⟩ : ∃ N E, subL a b = (N, E) := ⟨_, _, rfl⟩
  rw [hr] at hc ⊢
  rw [show resV (N, E) = .tuple #[.int .i64 N, errV E] from rfl] at hc
  clear hr
  generalize errV E = x at hc ⊢
  go_enter Tryz.func33, Tryz.ntmps33
  go_wp2_with fail
  refine (hc.out _).mono ?_
  rintro e w2 ⟨rfl, rfl⟩
  go_wp2_with fail
  go_returns
  exact ⟨rfl, below_alloc (Below.refl _ _) _⟩
set_option maxRecDepth 100000 in
set_option maxHeartbeats 4000000 in
theorem math_3 (a b : Int) (w : World) : Calls Tryz.prog 33 #[.string ⟨#[42]⟩, .int .i64 a, .int .i64 b] w (Giv (.tuple #[datV 1 (mulL a b).1 ⟨#[]⟩, errV (mulL a b).2]) w) := by
  have hc := Lib.hid (fun w => mul_any a b w)
  obtain ⟨N, E, hr⟩ : ∃ N E, mulL a b = (N, E) := ⟨_, _, rfl⟩
  rw [hr] at hc ⊢
  rw [show resV (N, E) = .tuple #[.int .i64 N, errV E] from rfl] at hc
  clear hr
  generalize errV E = x at hc ⊢
  go_enter Tryz.func33, Tryz.ntmps33
  go_wp2_with fail
  refine (hc.out _).mono ?_
  rintro e w2 ⟨rfl, rfl⟩
  go_wp2_with fail
  go_returns
  exact ⟨rfl, below_alloc (Below.refl _ _) _⟩
set_option maxRecDepth 100000 in
set_option maxHeartbeats 4000000 in
theorem math_4 (a b : Int) (w : World) : Calls Tryz.prog 33 #[.string ⟨#[113, 117, 111, 116, 105, 101, 110, 116]⟩, .int .i64 a, .int .i64 b] w (Giv (.tuple #[datV 1 (quoL a b).1 ⟨#[]⟩, errV (quoL a b).2]) w) := by
  have hc := Lib.hid (fun w => quotient_any a b w)
  obtain ⟨N, E, hr⟩ : ∃ N E, quoL a b = (N, E) := ⟨_, _, rfl⟩
  rw [hr] at hc ⊢
  rw [show resV (N, E) = .tuple #[.int .i64 N, errV E] from rfl] at hc
  clear hr
  generalize errV E = x at hc ⊢
  go_enter Tryz.func33, Tryz.ntmps33
  go_wp2_with fail
  refine (hc.out _).mono ?_
  rintro e w2 ⟨rfl, rfl⟩
  go_wp2_with fail
  go_returns
  exact ⟨rfl, below_alloc (Below.refl _ _) _⟩
set_option maxRecDepth 100000 in
set_option maxHeartbeats 4000000 in
theorem math_5 (a b : Int) (w : World) : Calls Tryz.prog 33 #[.string ⟨#[114, 101, 109, 97, 105, 110, 100, 101, 114]⟩, .int .i64 a, .int .i64 b] w (Giv (.tuple #[datV 1 (remL a b).1 ⟨#[]⟩, errV (remL a b).2]) w) := by
  have hc := Lib.hid (fun w => remainder_any a b w)
  obtain ⟨N, E, hr⟩ : ∃ N E, remL a b = (N, E) := ⟨_, _, rfl⟩
  rw [hr] at hc ⊢
  rw [show resV (N, E) = .tuple #[.int .i64 N, errV E] from rfl] at hc
  clear hr
  generalize errV E = x at hc ⊢
  go_enter Tryz.func33, Tryz.ntmps33
  go_wp2_with fail
  refine (hc.out _).mono ?_
  rintro e w2 ⟨rfl, rfl⟩
  go_wp2_with fail
  go_returns
  exact ⟨rfl, below_alloc (Below.refl _ _) _⟩
set_option maxRecDepth 100000 in
set_option maxHeartbeats 4000000 in
theorem math_6 (a b : Int) (w : World) : Calls Tryz.prog 33 #[.string ⟨#[109, 111, 100, 117, 108, 111]⟩, .int .i64 a, .int .i64 b] w (Giv (.tuple #[datV 1 (modL a b).1 ⟨#[]⟩, errV (modL a b).2]) w) := by
  have hc := Lib.hid (fun w => modulo_any a b w)
  obtain ⟨N, E, hr⟩ : ∃ N E, modL a b = (N, E) := ⟨_, _, rfl⟩
  rw [hr] at hc ⊢
  rw [show resV (N, E) = .tuple #[.int .i64 N, errV E] from rfl] at hc
  clear hr
  generalize errV E = x at hc ⊢
  go_enter Tryz.func33, Tryz.ntmps33
  go_wp2_with fail
  refine (hc.out _).mono ?_
  rintro e w2 ⟨rfl, rfl⟩
  go_wp2_with fail
  go_returns
  exact ⟨rfl, below_alloc (Below.refl _ _) _⟩
set_option maxRecDepth 100000 in
set_option maxHeartbeats 4000000 in
theorem math_7 (a b : Int) (w : World) : Calls Tryz.prog 33 #[.string ⟨#[61]⟩, .int .i64 a, .int .i64 b] w (Giv (.tuple #[datV 2 (if (a == b) = true then 1 else 0) ⟨#[]⟩, .nilIface]) w) := by
  have hc := Lib.hid (fun w => truth_of (a == b) w)
  obtain ⟨N, hr⟩ : ∃ N : Int, (if (a == b) = true then 1 else 0) = N := ⟨_, rfl⟩
  rw [hr] at hc ⊢
  clear hr
  go_enter Tryz.func33, Tryz.ntmps33
  go_wp2_with fail
  have HD := Lib.hid (blk_new w (.cells #[.int .i64 1, .int .i64 0, .string ⟨#[]⟩, .slice none 0 0] 26 (0, 0)))
  have HB := Lib.hid (below_alloc (Below.refl w.heap.size w) (.cells #[.int .i64 1, .int .i64 0, .string ⟨#[]⟩, .slice none 0 0] 26))
  refine (hc.out _).mono ?_
  rintro e w2 ⟨rfl, hb2⟩
  have HD2 := Lib.hid (blk_below HD.out hb2)
  have HB2 := Lib.hid (below_step HB.out hb2)
  clear hb2 HD HB
  have r0 : w2.cell? ⟨w.heap.size, 0, none⟩ = some (.int .i64 1) := blk_cell HD2.out 0
  have r1 : w2.cell? ⟨w.heap.size, 1, none⟩ = some (.int .i64 0) := blk_cell HD2.out 1
  have r2 : w2.cell? ⟨w.heap.size, 2, none⟩ = some (.string ⟨#[]⟩) := blk_cell HD2.out 2
  have r3 : w2.cell? ⟨w.heap.size, 3, none⟩ = some (.slice none 0 0) := blk_cell HD2.out 3
  have s0 := blk_frozen HD2.out 0
  have s1 := blk_frozen HD2.out 1
  have s2 := blk_frozen HD2.out 2
  have s3 := blk_frozen HD2.out 3
  go_wp2_with fail
  have H4 := dat_put HD2.out 2 N ⟨#[]⟩
  have H8 := dat_put H4 2 N ⟨#[]⟩
  have HB8 := Lib.hid (below_put (below_put HB2.out 2 N ⟨#[]⟩) 2 N ⟨#[]⟩)
  have q0 := blk_cell H8 0
  have q1 := blk_cell H8 1
  have q2 := blk_cell H8 2
  have q3 := blk_cell H8 3
  clear r0 r1 r2 r3 s0 s1 s2 s3 H4
  (try simp only [Exit.inBlock, Exit.then])
  refine bodyPost_ret (by simp [results, Tryz.results33, go_sem, q0, q1, q2, q3]; rfl) rfl ?_
  exact ⟨rfl, HB8.out⟩
set_option maxRecDepth 100000 in
set_option maxHeartbeats 4000000 in
theorem math_8 (a b : Int) (w : World) : Calls Tryz.prog 33 #[.string ⟨#[60]⟩, .int .i64 a, .int .i64 b] w (Giv (.tuple #[datV 2 (if decide (a < b) = true then 1 else 0) ⟨#[]⟩, .nilIface]) w) := by
  have hc := Lib.hid (fun w => truth_of (decide (a < b)) w)
  obtain ⟨N, hr⟩ : ∃ N : Int, (if decide (a < b) = true then 1 else 0) = N := ⟨_, rfl⟩
  rw [hr] at hc ⊢
  clear hr
  go_enter Tryz.func33, Tryz.ntmps33
  go_wp2_with fail
  have HD := Lib.hid (blk_new w (.cells #[.int .i64 1, .int .i64 0, .string ⟨#[]⟩, .slice none 0 0] 26 (0, 0)))
  have HB := Lib.hid (below_alloc (Below.refl w.heap.size w) (.cells #[.int .i64 1, .int .i64 0, .string ⟨#[]⟩, .slice none 0 0] 26))
  refine (hc.out _).mono ?_
  rintro e w2 ⟨rfl, hb2⟩
  have HD2 := Lib.hid (blk_below HD.out hb2)
  have HB2 := Lib.hid (below_step HB.out hb2)
  clear hb2 HD HB
  have r0 : w2.cell? ⟨w.heap.size, 0, none⟩ = some (.int .i64 1) := blk_cell HD2.out 0
  have r1 : w2.cell? ⟨w.heap.size, 1, none⟩ = some (.int .i64 0) := blk_cell HD2.out 1
  have r2 : w2.cell? ⟨w.heap.size, 2, none⟩ = some (.string ⟨#[]⟩) := blk_cell HD2.out 2
  have r3 : w2.cell? ⟨w.heap.size, 3, none⟩ = some (.slice none 0 0) := blk_cell HD2.out 3
  have s0 := blk_frozen HD2.out 0
  have s1 := blk_frozen HD2.out 1
  have s2 := blk_frozen HD2.out 2
  have s3 := blk_frozen HD2.out 3
  go_wp2_with fail
  have H4 := dat_put HD2.out 2 N ⟨#[]⟩
  have H8 := dat_put H4 2 N ⟨#[]⟩
  have HB8 := Lib.hid (below_put (below_put HB2.out 2 N ⟨#[]⟩) 2 N ⟨#[]⟩)
  have q0 := blk_cell H8 0
  have q1 := blk_cell H8 1
  have q2 := blk_cell H8 2
  have q3 := blk_cell H8 3
  clear r0 r1 r2 r3 s0 s1 s2 s3 H4
  (try simp only [Exit.inBlock, Exit.then])
  refine bodyPost_ret (by simp [results, Tryz.results33, go_sem, q0, q1, q2, q3]; rfl) rfl ?_
  exact ⟨rfl, HB8.out⟩
end Go.Proofs.YtneokkhnjnomdaaGreatDoor
