/-
  How many arguments each procedure takes.
-/
import Derived.Test.YtneokkhnjnomdaaDoorPrB
namespace Go.Proofs.YtneokkhnjnomdaaDoor
open Go.RowKit Go.Proofs.YtneokkhnjnomdaaDoorW.PrintWords

set_option maxRecDepth 100000 in
set_option maxHeartbeats 4000000 in
theorem arityN_1 (w : World) (h : SpT w) : Calls Tryd.prog 6 #[.int .i64 1] w (Giv (.tuple #[.int .i64 2, .int .i64 2]) w) := by
  go_enter Tryd.func6, Tryd.ntmps6
  go_wp2_with fail
  refine (name_of 1 _ h).mono ?_
  rintro e w2 ⟨rfl, hb⟩
  have HB := Lib.hid hb
  clear hb
  rw [show nameS (nameN 1) = ⟨#[43]⟩ from rfl]
  go_wp2_with fail
  go_ret2
  exact ⟨rfl, HB.out⟩
set_option maxRecDepth 100000 in
set_option maxHeartbeats 4000000 in
theorem arityN_2 (w : World) (h : SpT w) : Calls Tryd.prog 6 #[.int .i64 2] w (Giv (.tuple #[.int .i64 2, .int .i64 2]) w) := by
  go_enter Tryd.func6, Tryd.ntmps6
  go_wp2_with fail
  refine (name_of 2 _ h).mono ?_
  rintro e w2 ⟨rfl, hb⟩
  have HB := Lib.hid hb
  clear hb
  rw [show nameS (nameN 2) = ⟨#[45]⟩ from rfl]
  go_wp2_with fail
  go_ret2
  exact ⟨rfl, HB.out⟩
set_option maxRecDepth 100000 in
set_option maxHeartbeats 4000000 in
theorem arityN_3 (w : World) (h : SpT w) : Calls Tryd.prog 6 #[.int .i64 3] w (Giv (.tuple #[.int .i64 2, .int .i64 2]) w) := by
  go_enter Tryd.func6, Tryd.ntmps6
  go_wp2_with fail
  refine (name_of 3 _ h).mono ?_
  rintro e w2 ⟨rfl, hb⟩
  have HB := Lib.hid hb
  clear hb
  rw [show nameS (nameN 3) = ⟨#[42]⟩ from rfl]
  go_wp2_with fail
  go_ret2
  exact ⟨rfl, HB.out⟩
set_option maxRecDepth 100000 in
set_option maxHeartbeats 4000000 in
theorem arityN_4 (w : World) (h : SpT w) : Calls Tryd.prog 6 #[.int .i64 4] w (Giv (.tuple #[.int .i64 2, .int .i64 2]) w) := by
  go_enter Tryd.func6, Tryd.ntmps6
  go_wp2_with fail
  refine (name_of 4 _ h).mono ?_
  rintro e w2 ⟨rfl, hb⟩
  have HB := Lib.hid hb
  clear hb
  rw [show nameS (nameN 4) = ⟨#[113, 117, 111, 116, 105, 101, 110, 116]⟩ from rfl]
  go_wp2_with fail
  go_ret2
  exact ⟨rfl, HB.out⟩
set_option maxRecDepth 100000 in
set_option maxHeartbeats 4000000 in
theorem arityN_5 (w : World) (h : SpT w) : Calls Tryd.prog 6 #[.int .i64 5] w (Giv (.tuple #[.int .i64 2, .int .i64 2]) w) := by
  go_enter Tryd.func6, Tryd.ntmps6
  go_wp2_with fail
  refine (name_of 5 _ h).mono ?_
  rintro e w2 ⟨rfl, hb⟩
  have HB := Lib.hid hb
  clear hb
  rw [show nameS (nameN 5) = ⟨#[114, 101, 109, 97, 105, 110, 100, 101, 114]⟩ from rfl]
  go_wp2_with fail
  go_ret2
  exact ⟨rfl, HB.out⟩
set_option maxRecDepth 100000 in
set_option maxHeartbeats 4000000 in
theorem arityN_6 (w : World) (h : SpT w) : Calls Tryd.prog 6 #[.int .i64 6] w (Giv (.tuple #[.int .i64 2, .int .i64 2]) w) := by
  go_enter Tryd.func6, Tryd.ntmps6
  go_wp2_with fail
  refine (name_of 6 _ h).mono ?_
  rintro e w2 ⟨rfl, hb⟩
  have HB := Lib.hid hb
  clear hb
  rw [show nameS (nameN 6) = ⟨#[109, 111, 100, 117, 108, 111]⟩ from rfl]
  go_wp2_with fail
  go_ret2
  exact ⟨rfl, HB.out⟩
set_option maxRecDepth 100000 in
set_option maxHeartbeats 4000000 in
theorem arityN_7 (w : World) (h : SpT w) : Calls Tryd.prog 6 #[.int .i64 7] w (Giv (.tuple #[.int .i64 2, .int .i64 2]) w) := by
  go_enter Tryd.func6, Tryd.ntmps6
  go_wp2_with fail
  refine (name_of 7 _ h).mono ?_
  rintro e w2 ⟨rfl, hb⟩
  have HB := Lib.hid hb
  clear hb
  rw [show nameS (nameN 7) = ⟨#[61]⟩ from rfl]
  go_wp2_with fail
  go_ret2
  exact ⟨rfl, HB.out⟩
set_option maxRecDepth 100000 in
set_option maxHeartbeats 4000000 in
theorem arityN_8 (w : World) (h : SpT w) : Calls Tryd.prog 6 #[.int .i64 8] w (Giv (.tuple #[.int .i64 2, .int .i64 2]) w) := by
  go_enter Tryd.func6, Tryd.ntmps6
  go_wp2_with fail
  refine (name_of 8 _ h).mono ?_
  rintro e w2 ⟨rfl, hb⟩
  have HB := Lib.hid hb
  clear hb
  rw [show nameS (nameN 8) = ⟨#[60]⟩ from rfl]
  go_wp2_with fail
  go_ret2
  exact ⟨rfl, HB.out⟩
set_option maxRecDepth 100000 in
set_option maxHeartbeats 4000000 in
theorem arityN_9 (w : World) (h : SpT w) : Calls Tryd.prog 6 #[.int .i64 9] w (Giv (.tuple #[.int .i64 2, .int .i64 2]) w) := by
  go_enter Tryd.func6, Tryd.ntmps6
  go_wp2_with fail
  refine (name_of 9 _ h).mono ?_
  rintro e w2 ⟨rfl, hb⟩
  have HB := Lib.hid hb
  clear hb
  rw [show nameS (nameN 9) = ⟨#[99, 111, 110, 115]⟩ from rfl]
  go_wp2_with fail
  go_ret2
  exact ⟨rfl, HB.out⟩
set_option maxRecDepth 100000 in
set_option maxHeartbeats 4000000 in
theorem arityN_10 (w : World) (h : SpT w) : Calls Tryd.prog 6 #[.int .i64 10] w (Giv (.tuple #[.int .i64 1, .int .i64 1]) w) := by
  go_enter Tryd.func6, Tryd.ntmps6
  go_wp2_with fail
  refine (name_of 10 _ h).mono ?_
  rintro e w2 ⟨rfl, hb⟩
  have HB := Lib.hid hb
  clear hb
  rw [show nameS (nameN 10) = ⟨#[99, 97, 114]⟩ from rfl]
  go_wp2_with fail
  go_ret2
  exact ⟨rfl, HB.out⟩
set_option maxRecDepth 100000 in
set_option maxHeartbeats 4000000 in
theorem arityN_11 (w : World) (h : SpT w) : Calls Tryd.prog 6 #[.int .i64 11] w (Giv (.tuple #[.int .i64 1, .int .i64 1]) w) := by
  go_enter Tryd.func6, Tryd.ntmps6
  go_wp2_with fail
  refine (name_of 11 _ h).mono ?_
  rintro e w2 ⟨rfl, hb⟩
  have HB := Lib.hid hb
  clear hb
  rw [show nameS (nameN 11) = ⟨#[99, 100, 114]⟩ from rfl]
  go_wp2_with fail
  go_ret2
  exact ⟨rfl, HB.out⟩
set_option maxRecDepth 100000 in
set_option maxHeartbeats 4000000 in
theorem arityN_12 (w : World) (h : SpT w) : Calls Tryd.prog 6 #[.int .i64 12] w (Giv (.tuple #[.int .i64 2, .int .i64 2]) w) := by
  go_enter Tryd.func6, Tryd.ntmps6
  go_wp2_with fail
  refine (name_of 12 _ h).mono ?_
  rintro e w2 ⟨rfl, hb⟩
  have HB := Lib.hid hb
  clear hb
  rw [show nameS (nameN 12) = ⟨#[115, 101, 116, 45, 99, 97, 114, 33]⟩ from rfl]
  go_wp2_with fail
  go_ret2
  exact ⟨rfl, HB.out⟩
set_option maxRecDepth 100000 in
set_option maxHeartbeats 4000000 in
theorem arityN_13 (w : World) (h : SpT w) : Calls Tryd.prog 6 #[.int .i64 13] w (Giv (.tuple #[.int .i64 2, .int .i64 2]) w) := by
  go_enter Tryd.func6, Tryd.ntmps6
  go_wp2_with fail
  refine (name_of 13 _ h).mono ?_
  rintro e w2 ⟨rfl, hb⟩
  have HB := Lib.hid hb
  clear hb
  rw [show nameS (nameN 13) = ⟨#[115, 101, 116, 45, 99, 100, 114, 33]⟩ from rfl]
  go_wp2_with fail
  go_ret2
  exact ⟨rfl, HB.out⟩
set_option maxRecDepth 100000 in
set_option maxHeartbeats 4000000 in
theorem arityN_14 (w : World) (h : SpT w) : Calls Tryd.prog 6 #[.int .i64 14] w (Giv (.tuple #[.int .i64 1, .int .i64 1]) w) := by
  go_enter Tryd.func6, Tryd.ntmps6
  go_wp2_with fail
  refine (name_of 14 _ h).mono ?_
  rintro e w2 ⟨rfl, hb⟩
  have HB := Lib.hid hb
  clear hb
  rw [show nameS (nameN 14) = ⟨#[110, 117, 108, 108, 63]⟩ from rfl]
  go_wp2_with fail
  go_ret2
  exact ⟨rfl, HB.out⟩
set_option maxRecDepth 100000 in
set_option maxHeartbeats 4000000 in
theorem arityN_15 (w : World) (h : SpT w) : Calls Tryd.prog 6 #[.int .i64 15] w (Giv (.tuple #[.int .i64 1, .int .i64 1]) w) := by
  go_enter Tryd.func6, Tryd.ntmps6
  go_wp2_with fail
  refine (name_of 15 _ h).mono ?_
  rintro e w2 ⟨rfl, hb⟩
  have HB := Lib.hid hb
  clear hb
  rw [show nameS (nameN 15) = ⟨#[112, 97, 105, 114, 63]⟩ from rfl]
  go_wp2_with fail
  go_ret2
  exact ⟨rfl, HB.out⟩
set_option maxRecDepth 100000 in
set_option maxHeartbeats 4000000 in
theorem arityN_16 (w : World) (h : SpT w) : Calls Tryd.prog 6 #[.int .i64 16] w (Giv (.tuple #[.int .i64 1, .int .i64 1]) w) := by
  go_enter Tryd.func6, Tryd.ntmps6
  go_wp2_with fail
  refine (name_of 16 _ h).mono ?_
  rintro e w2 ⟨rfl, hb⟩
  have HB := Lib.hid hb
  clear hb
  rw [show nameS (nameN 16) = ⟨#[115, 121, 109, 98, 111, 108, 63]⟩ from rfl]
  go_wp2_with fail
  go_ret2
  exact ⟨rfl, HB.out⟩
set_option maxRecDepth 100000 in
set_option maxHeartbeats 4000000 in
theorem arityN_17 (w : World) (h : SpT w) : Calls Tryd.prog 6 #[.int .i64 17] w (Giv (.tuple #[.int .i64 1, .int .i64 1]) w) := by
  go_enter Tryd.func6, Tryd.ntmps6
  go_wp2_with fail
  refine (name_of 17 _ h).mono ?_
  rintro e w2 ⟨rfl, hb⟩
  have HB := Lib.hid hb
  clear hb
  rw [show nameS (nameN 17) = ⟨#[115, 116, 114, 105, 110, 103, 63]⟩ from rfl]
  go_wp2_with fail
  go_ret2
  exact ⟨rfl, HB.out⟩
set_option maxRecDepth 100000 in
set_option maxHeartbeats 4000000 in
theorem arityN_18 (w : World) (h : SpT w) : Calls Tryd.prog 6 #[.int .i64 18] w (Giv (.tuple #[.int .i64 1, .int .i64 1]) w) := by
  go_enter Tryd.func6, Tryd.ntmps6
  go_wp2_with fail
  refine (name_of 18 _ h).mono ?_
  rintro e w2 ⟨rfl, hb⟩
  have HB := Lib.hid hb
  clear hb
  rw [show nameS (nameN 18) = ⟨#[99, 104, 97, 114, 63]⟩ from rfl]
  go_wp2_with fail
  go_ret2
  exact ⟨rfl, HB.out⟩
set_option maxRecDepth 100000 in
set_option maxHeartbeats 4000000 in
theorem arityN_19 (w : World) (h : SpT w) : Calls Tryd.prog 6 #[.int .i64 19] w (Giv (.tuple #[.int .i64 1, .int .i64 1]) w) := by
  go_enter Tryd.func6, Tryd.ntmps6
  go_wp2_with fail
  refine (name_of 19 _ h).mono ?_
  rintro e w2 ⟨rfl, hb⟩
  have HB := Lib.hid hb
  clear hb
  rw [show nameS (nameN 19) = ⟨#[118, 101, 99, 116, 111, 114, 63]⟩ from rfl]
  go_wp2_with fail
  go_ret2
  exact ⟨rfl, HB.out⟩
set_option maxRecDepth 100000 in
set_option maxHeartbeats 4000000 in
theorem arityN_20 (w : World) (h : SpT w) : Calls Tryd.prog 6 #[.int .i64 20] w (Giv (.tuple #[.int .i64 1, .int .i64 1]) w) := by
  go_enter Tryd.func6, Tryd.ntmps6
  go_wp2_with fail
  refine (name_of 20 _ h).mono ?_
  rintro e w2 ⟨rfl, hb⟩
  have HB := Lib.hid hb
  clear hb
  rw [show nameS (nameN 20) = ⟨#[112, 114, 111, 99, 101, 100, 117, 114, 101, 63]⟩ from rfl]
  go_wp2_with fail
  go_ret2
  exact ⟨rfl, HB.out⟩
set_option maxRecDepth 100000 in
set_option maxHeartbeats 4000000 in
theorem arityN_21 (w : World) (h : SpT w) : Calls Tryd.prog 6 #[.int .i64 21] w (Giv (.tuple #[.int .i64 1, .int .i64 1]) w) := by
  go_enter Tryd.func6, Tryd.ntmps6
  go_wp2_with fail
  refine (name_of 21 _ h).mono ?_
  rintro e w2 ⟨rfl, hb⟩
  have HB := Lib.hid hb
  clear hb
  rw [show nameS (nameN 21) = ⟨#[98, 111, 111, 108, 101, 97, 110, 63]⟩ from rfl]
  go_wp2_with fail
  go_ret2
  exact ⟨rfl, HB.out⟩
set_option maxRecDepth 100000 in
set_option maxHeartbeats 4000000 in
theorem arityN_22 (w : World) (h : SpT w) : Calls Tryd.prog 6 #[.int .i64 22] w (Giv (.tuple #[.int .i64 1, .int .i64 1]) w) := by
  go_enter Tryd.func6, Tryd.ntmps6
  go_wp2_with fail
  refine (name_of 22 _ h).mono ?_
  rintro e w2 ⟨rfl, hb⟩
  have HB := Lib.hid hb
  clear hb
  rw [show nameS (nameN 22) = ⟨#[105, 110, 116, 101, 103, 101, 114, 63]⟩ from rfl]
  go_wp2_with fail
  go_ret2
  exact ⟨rfl, HB.out⟩
set_option maxRecDepth 100000 in
set_option maxHeartbeats 4000000 in
theorem arityN_23 (w : World) (h : SpT w) : Calls Tryd.prog 6 #[.int .i64 23] w (Giv (.tuple #[.int .i64 2, .int .i64 2]) w) := by
  go_enter Tryd.func6, Tryd.ntmps6
  go_wp2_with fail
  refine (name_of 23 _ h).mono ?_
  rintro e w2 ⟨rfl, hb⟩
  have HB := Lib.hid hb
  clear hb
  rw [show nameS (nameN 23) = ⟨#[101, 113, 63]⟩ from rfl]
  go_wp2_with fail
  go_ret2
  exact ⟨rfl, HB.out⟩
set_option maxRecDepth 100000 in
set_option maxHeartbeats 4000000 in
theorem arityN_24 (w : World) (h : SpT w) : Calls Tryd.prog 6 #[.int .i64 24] w (Giv (.tuple #[.int .i64 2, .int .i64 2]) w) := by
  go_enter Tryd.func6, Tryd.ntmps6
  go_wp2_with fail
  refine (name_of 24 _ h).mono ?_
  rintro e w2 ⟨rfl, hb⟩
  have HB := Lib.hid hb
  clear hb
  rw [show nameS (nameN 24) = ⟨#[101, 113, 118, 63]⟩ from rfl]
  go_wp2_with fail
  go_ret2
  exact ⟨rfl, HB.out⟩
set_option maxRecDepth 100000 in
set_option maxHeartbeats 4000000 in
theorem arityN_25 (w : World) (h : SpT w) : Calls Tryd.prog 6 #[.int .i64 25] w (Giv (.tuple #[.int .i64 2, .int .i64 2]) w) := by
  go_enter Tryd.func6, Tryd.ntmps6
  go_wp2_with fail
  refine (name_of 25 _ h).mono ?_
  rintro e w2 ⟨rfl, hb⟩
  have HB := Lib.hid hb
  clear hb
  rw [show nameS (nameN 25) = ⟨#[109, 97, 107, 101, 45, 118, 101, 99, 116, 111, 114]⟩ from rfl]
  go_wp2_with fail
  go_ret2
  exact ⟨rfl, HB.out⟩
set_option maxRecDepth 100000 in
set_option maxHeartbeats 4000000 in
theorem arityN_26 (w : World) (h : SpT w) : Calls Tryd.prog 6 #[.int .i64 26] w (Giv (.tuple #[.int .i64 1, .int .i64 1]) w) := by
  go_enter Tryd.func6, Tryd.ntmps6
  go_wp2_with fail
  refine (name_of 26 _ h).mono ?_
  rintro e w2 ⟨rfl, hb⟩
  have HB := Lib.hid hb
  clear hb
  rw [show nameS (nameN 26) = ⟨#[118, 101, 99, 116, 111, 114, 45, 108, 101, 110, 103, 116, 104]⟩ from rfl]
  go_wp2_with fail
  go_ret2
  exact ⟨rfl, HB.out⟩
set_option maxRecDepth 100000 in
set_option maxHeartbeats 4000000 in
theorem arityN_27 (w : World) (h : SpT w) : Calls Tryd.prog 6 #[.int .i64 27] w (Giv (.tuple #[.int .i64 2, .int .i64 2]) w) := by
  go_enter Tryd.func6, Tryd.ntmps6
  go_wp2_with fail
  refine (name_of 27 _ h).mono ?_
  rintro e w2 ⟨rfl, hb⟩
  have HB := Lib.hid hb
  clear hb
  rw [show nameS (nameN 27) = ⟨#[118, 101, 99, 116, 111, 114, 45, 114, 101, 102]⟩ from rfl]
  go_wp2_with fail
  go_ret2
  exact ⟨rfl, HB.out⟩
end Go.Proofs.YtneokkhnjnomdaaDoor
