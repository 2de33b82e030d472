/-
  How many arguments each pure procedure takes.
-/
import Derived.Test.YtneokkhnjnomdaaGreatDoorPrE
namespace Go.Proofs.YtneokkhnjnomdaaGreatDoor
open Go.RowKit Go.Proofs.YtneokkhnjnomdaaGreatDoorW.PrintWords

set_option maxRecDepth 100000 in
set_option maxHeartbeats 4000000 in
theorem arityP_1 (w : World) (h : SpT w) : Calls Tryz.prog 20 #[.int .i64 1] w (Giv (.tuple #[.int .i64 2, .int .i64 2]) w) := by
  go_enter Tryz.func20, Tryz.ntmps20
  go_wp2_with fail
  refine (name_of 1 _ h).mono ?_
  rintro e w2 ⟨rfl, hb⟩
  have HB := Lib.hid hb
  clear hb
  rw [show nameS (nameN 1) = ⟨#[43]⟩ from rfl]
  go_wp2_with fail
  go_ret2
  exact ⟨rfl, HB.out⟩
set_option maxRecDepth 100000 in
set_option maxHeartbeats 4000000 in
theorem arityP_2 (w : World) (h : SpT w) : Calls Tryz.prog 20 #[.int .i64 2] w (Giv (.tuple #[.int .i64 2, .int .i64 2]) w) := by
  go_enter Tryz.func20, Tryz.ntmps20
  go_wp2_with fail
  refine (name_of 2 _ h).mono ?_
  rintro e w2 ⟨rfl, hb⟩
  have HB := Lib.hid hb
  clear hb
  rw [show nameS (nameN 2) = ⟨#[45]⟩ from rfl]
  go_wp2_with fail
  go_ret2
  exact ⟨rfl, HB.out⟩
set_option maxRecDepth 100000 in
set_option maxHeartbeats 4000000 in
theorem arityP_3 (w : World) (h : SpT w) : Calls Tryz.prog 20 #[.int .i64 3] w (Giv (.tuple #[.int .i64 2, .int .i64 2]) w) := by
  go_enter Tryz.func20, Tryz.ntmps20
  go_wp2_with fail
  refine (name_of 3 _ h).mono ?_
  rintro e w2 ⟨rfl, hb⟩
  have HB := Lib.hid hb
  clear hb
  rw [show nameS (nameN 3) = ⟨#[42]⟩ from rfl]
  go_wp2_with fail
  go_ret2
  exact ⟨rfl, HB.out⟩
set_option maxRecDepth 100000 in
set_option maxHeartbeats 4000000 in
theorem arityP_4 (w : World) (h : SpT w) : Calls Tryz.prog 20 #[.int .i64 4] w (Giv (.tuple #[.int .i64 2, .int .i64 2]) w) := by
  go_enter Tryz.func20, Tryz.ntmps20
  go_wp2_with fail
  refine (name_of 4 _ h).mono ?_
  rintro e w2 ⟨rfl, hb⟩
  have HB := Lib.hid hb
  clear hb
  rw [show nameS (nameN 4) = ⟨#[113, 117, 111, 116, 105, 101, 110, 116]⟩ from rfl]
  go_wp2_with fail
  go_ret2
  exact ⟨rfl, HB.out⟩
set_option maxRecDepth 100000 in
set_option maxHeartbeats 4000000 in
theorem arityP_5 (w : World) (h : SpT w) : Calls Tryz.prog 20 #[.int .i64 5] w (Giv (.tuple #[.int .i64 2, .int .i64 2]) w) := by
  go_enter Tryz.func20, Tryz.ntmps20
  go_wp2_with fail
  refine (name_of 5 _ h).mono ?_
  rintro e w2 ⟨rfl, hb⟩
  have HB := Lib.hid hb
  clear hb
  rw [show nameS (nameN 5) = ⟨#[114, 101, 109, 97, 105, 110, 100, 101, 114]⟩ from rfl]
  go_wp2_with fail
  go_ret2
  exact ⟨rfl, HB.out⟩
set_option maxRecDepth 100000 in
set_option maxHeartbeats 4000000 in
theorem arityP_6 (w : World) (h : SpT w) : Calls Tryz.prog 20 #[.int .i64 6] w (Giv (.tuple #[.int .i64 2, .int .i64 2]) w) := by
  go_enter Tryz.func20, Tryz.ntmps20
  go_wp2_with fail
  refine (name_of 6 _ h).mono ?_
  rintro e w2 ⟨rfl, hb⟩
  have HB := Lib.hid hb
  clear hb
  rw [show nameS (nameN 6) = ⟨#[109, 111, 100, 117, 108, 111]⟩ from rfl]
  go_wp2_with fail
  go_ret2
  exact ⟨rfl, HB.out⟩
set_option maxRecDepth 100000 in
set_option maxHeartbeats 4000000 in
theorem arityP_7 (w : World) (h : SpT w) : Calls Tryz.prog 20 #[.int .i64 7] w (Giv (.tuple #[.int .i64 2, .int .i64 2]) w) := by
  go_enter Tryz.func20, Tryz.ntmps20
  go_wp2_with fail
  refine (name_of 7 _ h).mono ?_
  rintro e w2 ⟨rfl, hb⟩
  have HB := Lib.hid hb
  clear hb
  rw [show nameS (nameN 7) = ⟨#[61]⟩ from rfl]
  go_wp2_with fail
  go_ret2
  exact ⟨rfl, HB.out⟩
set_option maxRecDepth 100000 in
set_option maxHeartbeats 4000000 in
theorem arityP_8 (w : World) (h : SpT w) : Calls Tryz.prog 20 #[.int .i64 8] w (Giv (.tuple #[.int .i64 2, .int .i64 2]) w) := by
  go_enter Tryz.func20, Tryz.ntmps20
  go_wp2_with fail
  refine (name_of 8 _ h).mono ?_
  rintro e w2 ⟨rfl, hb⟩
  have HB := Lib.hid hb
  clear hb
  rw [show nameS (nameN 8) = ⟨#[60]⟩ from rfl]
  go_wp2_with fail
  go_ret2
  exact ⟨rfl, HB.out⟩
set_option maxRecDepth 100000 in
set_option maxHeartbeats 4000000 in
theorem arityP_29 (w : World) (h : SpT w) : Calls Tryz.prog 20 #[.int .i64 29] w (Giv (.tuple #[.int .i64 1, .int .i64 1]) w) := by
  go_enter Tryz.func20, Tryz.ntmps20
  go_wp2_with fail
  refine (name_of 29 _ h).mono ?_
  rintro e w2 ⟨rfl, hb⟩
  have HB := Lib.hid hb
  clear hb
  rw [show nameS (nameN 29) = ⟨#[115, 116, 114, 105, 110, 103, 45, 108, 101, 110, 103, 116, 104]⟩ from rfl]
  go_wp2_with fail
  go_ret2
  exact ⟨rfl, HB.out⟩
set_option maxRecDepth 100000 in
set_option maxHeartbeats 4000000 in
theorem arityP_30 (w : World) (h : SpT w) : Calls Tryz.prog 20 #[.int .i64 30] w (Giv (.tuple #[.int .i64 2, .int .i64 2]) w) := by
  go_enter Tryz.func20, Tryz.ntmps20
  go_wp2_with fail
  refine (name_of 30 _ h).mono ?_
  rintro e w2 ⟨rfl, hb⟩
  have HB := Lib.hid hb
  clear hb
  rw [show nameS (nameN 30) = ⟨#[115, 116, 114, 105, 110, 103, 45, 114, 101, 102]⟩ from rfl]
  go_wp2_with fail
  go_ret2
  exact ⟨rfl, HB.out⟩
set_option maxRecDepth 100000 in
set_option maxHeartbeats 4000000 in
theorem arityP_31 (w : World) (h : SpT w) : Calls Tryz.prog 20 #[.int .i64 31] w (Giv (.tuple #[.int .i64 2, .int .i64 2]) w) := by
  go_enter Tryz.func20, Tryz.ntmps20
  go_wp2_with fail
  refine (name_of 31 _ h).mono ?_
  rintro e w2 ⟨rfl, hb⟩
  have HB := Lib.hid hb
  clear hb
  rw [show nameS (nameN 31) = ⟨#[115, 116, 114, 105, 110, 103, 45, 97, 112, 112, 101, 110, 100]⟩ from rfl]
  go_wp2_with fail
  go_ret2
  exact ⟨rfl, HB.out⟩
set_option maxRecDepth 100000 in
set_option maxHeartbeats 4000000 in
theorem arityP_32 (w : World) (h : SpT w) : Calls Tryz.prog 20 #[.int .i64 32] w (Giv (.tuple #[.int .i64 2, .int .i64 2]) w) := by
  go_enter Tryz.func20, Tryz.ntmps20
  go_wp2_with fail
  refine (name_of 32 _ h).mono ?_
  rintro e w2 ⟨rfl, hb⟩
  have HB := Lib.hid hb
  clear hb
  rw [show nameS (nameN 32) = ⟨#[115, 116, 114, 105, 110, 103, 61, 63]⟩ from rfl]
  go_wp2_with fail
  go_ret2
  exact ⟨rfl, HB.out⟩
set_option maxRecDepth 100000 in
set_option maxHeartbeats 4000000 in
theorem arityP_33 (w : World) (h : SpT w) : Calls Tryz.prog 20 #[.int .i64 33] w (Giv (.tuple #[.int .i64 3, .int .i64 3]) w) := by
  go_enter Tryz.func20, Tryz.ntmps20
  go_wp2_with fail
  refine (name_of 33 _ h).mono ?_
  rintro e w2 ⟨rfl, hb⟩
  have HB := Lib.hid hb
  clear hb
  rw [show nameS (nameN 33) = ⟨#[115, 117, 98, 115, 116, 114, 105, 110, 103]⟩ from rfl]
  go_wp2_with fail
  go_ret2
  exact ⟨rfl, HB.out⟩
set_option maxRecDepth 100000 in
set_option maxHeartbeats 4000000 in
theorem arityP_34 (w : World) (h : SpT w) : Calls Tryz.prog 20 #[.int .i64 34] w (Giv (.tuple #[.int .i64 1, .int .i64 1]) w) := by
  go_enter Tryz.func20, Tryz.ntmps20
  go_wp2_with fail
  refine (name_of 34 _ h).mono ?_
  rintro e w2 ⟨rfl, hb⟩
  have HB := Lib.hid hb
  clear hb
  rw [show nameS (nameN 34) = ⟨#[110, 117, 109, 98, 101, 114, 45, 62, 115, 116, 114, 105, 110, 103]⟩ from rfl]
  go_wp2_with fail
  go_ret2
  exact ⟨rfl, HB.out⟩
set_option maxRecDepth 100000 in
set_option maxHeartbeats 4000000 in
theorem arityP_35 (w : World) (h : SpT w) : Calls Tryz.prog 20 #[.int .i64 35] w (Giv (.tuple #[.int .i64 1, .int .i64 1]) w) := by
  go_enter Tryz.func20, Tryz.ntmps20
  go_wp2_with fail
  refine (name_of 35 _ h).mono ?_
  rintro e w2 ⟨rfl, hb⟩
  have HB := Lib.hid hb
  clear hb
  rw [show nameS (nameN 35) = ⟨#[115, 116, 114, 105, 110, 103, 45, 62, 110, 117, 109, 98, 101, 114]⟩ from rfl]
  go_wp2_with fail
  go_ret2
  exact ⟨rfl, HB.out⟩
set_option maxRecDepth 100000 in
set_option maxHeartbeats 4000000 in
theorem arityP_36 (w : World) (h : SpT w) : Calls Tryz.prog 20 #[.int .i64 36] w (Giv (.tuple #[.int .i64 1, .int .i64 1]) w) := by
  go_enter Tryz.func20, Tryz.ntmps20
  go_wp2_with fail
  refine (name_of 36 _ h).mono ?_
  rintro e w2 ⟨rfl, hb⟩
  have HB := Lib.hid hb
  clear hb
  rw [show nameS (nameN 36) = ⟨#[115, 121, 109, 98, 111, 108, 45, 62, 115, 116, 114, 105, 110, 103]⟩ from rfl]
  go_wp2_with fail
  go_ret2
  exact ⟨rfl, HB.out⟩
set_option maxRecDepth 100000 in
set_option maxHeartbeats 4000000 in
theorem arityP_37 (w : World) (h : SpT w) : Calls Tryz.prog 20 #[.int .i64 37] w (Giv (.tuple #[.int .i64 1, .int .i64 1]) w) := by
  go_enter Tryz.func20, Tryz.ntmps20
  go_wp2_with fail
  refine (name_of 37 _ h).mono ?_
  rintro e w2 ⟨rfl, hb⟩
  have HB := Lib.hid hb
  clear hb
  rw [show nameS (nameN 37) = ⟨#[115, 116, 114, 105, 110, 103, 45, 62, 115, 121, 109, 98, 111, 108]⟩ from rfl]
  go_wp2_with fail
  go_ret2
  exact ⟨rfl, HB.out⟩
set_option maxRecDepth 100000 in
set_option maxHeartbeats 4000000 in
theorem arityP_38 (w : World) (h : SpT w) : Calls Tryz.prog 20 #[.int .i64 38] w (Giv (.tuple #[.int .i64 1, .int .i64 1]) w) := by
  go_enter Tryz.func20, Tryz.ntmps20
  go_wp2_with fail
  refine (name_of 38 _ h).mono ?_
  rintro e w2 ⟨rfl, hb⟩
  have HB := Lib.hid hb
  clear hb
  rw [show nameS (nameN 38) = ⟨#[99, 104, 97, 114, 45, 62, 105, 110, 116, 101, 103, 101, 114]⟩ from rfl]
  go_wp2_with fail
  go_ret2
  exact ⟨rfl, HB.out⟩
set_option maxRecDepth 100000 in
set_option maxHeartbeats 4000000 in
theorem arityP_39 (w : World) (h : SpT w) : Calls Tryz.prog 20 #[.int .i64 39] w (Giv (.tuple #[.int .i64 1, .int .i64 1]) w) := by
  go_enter Tryz.func20, Tryz.ntmps20
  go_wp2_with fail
  refine (name_of 39 _ h).mono ?_
  rintro e w2 ⟨rfl, hb⟩
  have HB := Lib.hid hb
  clear hb
  rw [show nameS (nameN 39) = ⟨#[105, 110, 116, 101, 103, 101, 114, 45, 62, 99, 104, 97, 114]⟩ from rfl]
  go_wp2_with fail
  go_ret2
  exact ⟨rfl, HB.out⟩

theorem arity_pure (n : Int) (w : World) (h : SpT w) (hp : pureB n = true) : Calls Tryz.prog 20 #[.int .i64 n] w (Giv (.tuple #[.int .i64 ((kindsN n).length : Nat), .int .i64 ((kindsN n).length : Nat)]) w) := by
  rcases pure_cases hp with rfl | rfl | rfl | rfl | rfl | rfl | rfl | rfl | rfl | rfl | rfl | rfl | rfl | rfl | rfl | rfl | rfl | rfl | rfl
  · exact arityP_1 w h
  · exact arityP_2 w h
  · exact arityP_3 w h
  · exact arityP_4 w h
  · exact arityP_5 w h
  · exact arityP_6 w h
  · exact arityP_7 w h
  · exact arityP_8 w h
  · exact arityP_29 w h
  · exact arityP_30 w h
  · exact arityP_31 w h
  · exact arityP_32 w h
  · exact arityP_33 w h
  · exact arityP_34 w h
  · exact arityP_35 w h
  · exact arityP_36 w h
  · exact arityP_37 w h
  · exact arityP_38 w h
  · exact arityP_39 w h
end Go.Proofs.YtneokkhnjnomdaaGreatDoor
