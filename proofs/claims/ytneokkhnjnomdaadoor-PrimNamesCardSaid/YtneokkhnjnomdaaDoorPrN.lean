/-
  How many arguments each procedure takes.
-/
import Derived.Test.YtneokkhnjnomdaaDoorPrB
namespace Go.Proofs.YtneokkhnjnomdaaDoor
open Go.RowKit Go.Proofs.YtneokkhnjnomdaaDoorW.PrintWords

set_option maxRecDepth 100000 in
set_option maxHeartbeats 4000000 in
theorem arityN_28 (w : World) (h : SpT w) : Calls Tryd.prog 6 #[.int .i64 28] w (Giv (.tuple #[.int .i64 3, .int .i64 3]) w) := by
  go_enter Tryd.func6, Tryd.ntmps6
  go_wp2_with fail
  refine (name_of 28 _ h).mono ?_
  rintro e w2 ⟨rfl, hb⟩
  have HB := Lib.hid hb
  clear hb
  rw [show nameS (nameN 28) = ⟨#[118, 101, 99, 116, 111, 114, 45, 115, 101, 116, 33]⟩ from rfl]
  go_wp2_with fail
  go_ret2
  exact ⟨rfl, HB.out⟩
set_option maxRecDepth 100000 in
set_option maxHeartbeats 4000000 in
theorem arityN_29 (w : World) (h : SpT w) : Calls Tryd.prog 6 #[.int .i64 29] w (Giv (.tuple #[.int .i64 1, .int .i64 1]) w) := by
  go_enter Tryd.func6, Tryd.ntmps6
  go_wp2_with fail
  refine (name_of 29 _ h).mono ?_
  rintro e w2 ⟨rfl, hb⟩
  have HB := Lib.hid hb
  clear hb
  rw [show nameS (nameN 29) = ⟨#[115, 116, 114, 105, 110, 103, 45, 108, 101, 110, 103, 116, 104]⟩ from rfl]
  go_wp2_with fail
  go_ret2
  exact ⟨rfl, HB.out⟩
set_option maxRecDepth 100000 in
set_option maxHeartbeats 4000000 in
theorem arityN_30 (w : World) (h : SpT w) : Calls Tryd.prog 6 #[.int .i64 30] w (Giv (.tuple #[.int .i64 2, .int .i64 2]) w) := by
  go_enter Tryd.func6, Tryd.ntmps6
  go_wp2_with fail
  refine (name_of 30 _ h).mono ?_
  rintro e w2 ⟨rfl, hb⟩
  have HB := Lib.hid hb
  clear hb
  rw [show nameS (nameN 30) = ⟨#[115, 116, 114, 105, 110, 103, 45, 114, 101, 102]⟩ from rfl]
  go_wp2_with fail
  go_ret2
  exact ⟨rfl, HB.out⟩
set_option maxRecDepth 100000 in
set_option maxHeartbeats 4000000 in
theorem arityN_31 (w : World) (h : SpT w) : Calls Tryd.prog 6 #[.int .i64 31] w (Giv (.tuple #[.int .i64 2, .int .i64 2]) w) := by
  go_enter Tryd.func6, Tryd.ntmps6
  go_wp2_with fail
  refine (name_of 31 _ h).mono ?_
  rintro e w2 ⟨rfl, hb⟩
  have HB := Lib.hid hb
  clear hb
  rw [show nameS (nameN 31) = ⟨#[115, 116, 114, 105, 110, 103, 45, 97, 112, 112, 101, 110, 100]⟩ from rfl]
  go_wp2_with fail
  go_ret2
  exact ⟨rfl, HB.out⟩
set_option maxRecDepth 100000 in
set_option maxHeartbeats 4000000 in
theorem arityN_32 (w : World) (h : SpT w) : Calls Tryd.prog 6 #[.int .i64 32] w (Giv (.tuple #[.int .i64 2, .int .i64 2]) w) := by
  go_enter Tryd.func6, Tryd.ntmps6
  go_wp2_with fail
  refine (name_of 32 _ h).mono ?_
  rintro e w2 ⟨rfl, hb⟩
  have HB := Lib.hid hb
  clear hb
  rw [show nameS (nameN 32) = ⟨#[115, 116, 114, 105, 110, 103, 61, 63]⟩ from rfl]
  go_wp2_with fail
  go_ret2
  exact ⟨rfl, HB.out⟩
set_option maxRecDepth 100000 in
set_option maxHeartbeats 4000000 in
theorem arityN_33 (w : World) (h : SpT w) : Calls Tryd.prog 6 #[.int .i64 33] w (Giv (.tuple #[.int .i64 3, .int .i64 3]) w) := by
  go_enter Tryd.func6, Tryd.ntmps6
  go_wp2_with fail
  refine (name_of 33 _ h).mono ?_
  rintro e w2 ⟨rfl, hb⟩
  have HB := Lib.hid hb
  clear hb
  rw [show nameS (nameN 33) = ⟨#[115, 117, 98, 115, 116, 114, 105, 110, 103]⟩ from rfl]
  go_wp2_with fail
  go_ret2
  exact ⟨rfl, HB.out⟩
set_option maxRecDepth 100000 in
set_option maxHeartbeats 4000000 in
theorem arityN_34 (w : World) (h : SpT w) : Calls Tryd.prog 6 #[.int .i64 34] w (Giv (.tuple #[.int .i64 1, .int .i64 1]) w) := by
  go_enter Tryd.func6, Tryd.ntmps6
  go_wp2_with fail
  refine (name_of 34 _ h).mono ?_
  rintro e w2 ⟨rfl, hb⟩
  have HB := Lib.hid hb
  clear hb
  rw [show nameS (nameN 34) = ⟨#[110, 117, 109, 98, 101, 114, 45, 62, 115, 116, 114, 105, 110, 103]⟩ from rfl]
  go_wp2_with fail
  go_ret2
  exact ⟨rfl, HB.out⟩
set_option maxRecDepth 100000 in
set_option maxHeartbeats 4000000 in
theorem arityN_35 (w : World) (h : SpT w) : Calls Tryd.prog 6 #[.int .i64 35] w (Giv (.tuple #[.int .i64 1, .int .i64 1]) w) := by
  go_enter Tryd.func6, Tryd.ntmps6
  go_wp2_with fail
  refine (name_of 35 _ h).mono ?_
  rintro e w2 ⟨rfl, hb⟩
  have HB := Lib.hid hb
  clear hb
  rw [show nameS (nameN 35) = ⟨#[115, 116, 114, 105, 110, 103, 45, 62, 110, 117, 109, 98, 101, 114]⟩ from rfl]
  go_wp2_with fail
  go_ret2
  exact ⟨rfl, HB.out⟩
set_option maxRecDepth 100000 in
set_option maxHeartbeats 4000000 in
theorem arityN_36 (w : World) (h : SpT w) : Calls Tryd.prog 6 #[.int .i64 36] w (Giv (.tuple #[.int .i64 1, .int .i64 1]) w) := by
  go_enter Tryd.func6, Tryd.ntmps6
  go_wp2_with fail
  refine (name_of 36 _ h).mono ?_
  rintro e w2 ⟨rfl, hb⟩
  have HB := Lib.hid hb
  clear hb
  rw [show nameS (nameN 36) = ⟨#[115, 121, 109, 98, 111, 108, 45, 62, 115, 116, 114, 105, 110, 103]⟩ from rfl]
  go_wp2_with fail
  go_ret2
  exact ⟨rfl, HB.out⟩
set_option maxRecDepth 100000 in
set_option maxHeartbeats 4000000 in
theorem arityN_37 (w : World) (h : SpT w) : Calls Tryd.prog 6 #[.int .i64 37] w (Giv (.tuple #[.int .i64 1, .int .i64 1]) w) := by
  go_enter Tryd.func6, Tryd.ntmps6
  go_wp2_with fail
  refine (name_of 37 _ h).mono ?_
  rintro e w2 ⟨rfl, hb⟩
  have HB := Lib.hid hb
  clear hb
  rw [show nameS (nameN 37) = ⟨#[115, 116, 114, 105, 110, 103, 45, 62, 115, 121, 109, 98, 111, 108]⟩ from rfl]
  go_wp2_with fail
  go_ret2
  exact ⟨rfl, HB.out⟩
set_option maxRecDepth 100000 in
set_option maxHeartbeats 4000000 in
theorem arityN_38 (w : World) (h : SpT w) : Calls Tryd.prog 6 #[.int .i64 38] w (Giv (.tuple #[.int .i64 1, .int .i64 1]) w) := by
  go_enter Tryd.func6, Tryd.ntmps6
  go_wp2_with fail
  refine (name_of 38 _ h).mono ?_
  rintro e w2 ⟨rfl, hb⟩
  have HB := Lib.hid hb
  clear hb
  rw [show nameS (nameN 38) = ⟨#[99, 104, 97, 114, 45, 62, 105, 110, 116, 101, 103, 101, 114]⟩ from rfl]
  go_wp2_with fail
  go_ret2
  exact ⟨rfl, HB.out⟩
set_option maxRecDepth 100000 in
set_option maxHeartbeats 4000000 in
theorem arityN_39 (w : World) (h : SpT w) : Calls Tryd.prog 6 #[.int .i64 39] w (Giv (.tuple #[.int .i64 1, .int .i64 1]) w) := by
  go_enter Tryd.func6, Tryd.ntmps6
  go_wp2_with fail
  refine (name_of 39 _ h).mono ?_
  rintro e w2 ⟨rfl, hb⟩
  have HB := Lib.hid hb
  clear hb
  rw [show nameS (nameN 39) = ⟨#[105, 110, 116, 101, 103, 101, 114, 45, 62, 99, 104, 97, 114]⟩ from rfl]
  go_wp2_with fail
  go_ret2
  exact ⟨rfl, HB.out⟩
set_option maxRecDepth 100000 in
set_option maxHeartbeats 4000000 in
theorem arityN_40 (w : World) (h : SpT w) : Calls Tryd.prog 6 #[.int .i64 40] w (Giv (.tuple #[.int .i64 1, .int .i64 1]) w) := by
  go_enter Tryd.func6, Tryd.ntmps6
  go_wp2_with fail
  refine (name_of 40 _ h).mono ?_
  rintro e w2 ⟨rfl, hb⟩
  have HB := Lib.hid hb
  clear hb
  rw [show nameS (nameN 40) = ⟨#[100, 105, 115, 112, 108, 97, 121]⟩ from rfl]
  go_wp2_with fail
  go_ret2
  exact ⟨rfl, HB.out⟩
set_option maxRecDepth 100000 in
set_option maxHeartbeats 4000000 in
theorem arityN_41 (w : World) (h : SpT w) : Calls Tryd.prog 6 #[.int .i64 41] w (Giv (.tuple #[.int .i64 1, .int .i64 1]) w) := by
  go_enter Tryd.func6, Tryd.ntmps6
  go_wp2_with fail
  refine (name_of 41 _ h).mono ?_
  rintro e w2 ⟨rfl, hb⟩
  have HB := Lib.hid hb
  clear hb
  rw [show nameS (nameN 41) = ⟨#[119, 114, 105, 116, 101]⟩ from rfl]
  go_wp2_with fail
  go_ret2
  exact ⟨rfl, HB.out⟩
set_option maxRecDepth 100000 in
set_option maxHeartbeats 4000000 in
theorem arityN_42 (w : World) (h : SpT w) : Calls Tryd.prog 6 #[.int .i64 42] w (Giv (.tuple #[.int .i64 0, .int .i64 0]) w) := by
  go_enter Tryd.func6, Tryd.ntmps6
  go_wp2_with fail
  refine (name_of 42 _ h).mono ?_
  rintro e w2 ⟨rfl, hb⟩
  have HB := Lib.hid hb
  clear hb
  rw [show nameS (nameN 42) = ⟨#[110, 101, 119, 108, 105, 110, 101]⟩ from rfl]
  go_wp2_with fail
  go_ret2
  exact ⟨rfl, HB.out⟩
set_option maxRecDepth 100000 in
set_option maxHeartbeats 4000000 in
theorem arityN_43 (w : World) (h : SpT w) : Calls Tryd.prog 6 #[.int .i64 43] w (Giv (.tuple #[.int .i64 2, .int .i64 2]) w) := by
  go_enter Tryd.func6, Tryd.ntmps6
  go_wp2_with fail
  refine (name_of 43 _ h).mono ?_
  rintro e w2 ⟨rfl, hb⟩
  have HB := Lib.hid hb
  clear hb
  rw [show nameS (nameN 43) = ⟨#[101, 114, 114, 111, 114]⟩ from rfl]
  go_wp2_with fail
  go_ret2
  exact ⟨rfl, HB.out⟩
set_option maxRecDepth 100000 in
set_option maxHeartbeats 4000000 in
theorem arityN_44 (w : World) (h : SpT w) : Calls Tryd.prog 6 #[.int .i64 44] w (Giv (.tuple #[.int .i64 1, .int .i64 1]) w) := by
  go_enter Tryd.func6, Tryd.ntmps6
  go_wp2_with fail
  refine (name_of 44 _ h).mono ?_
  rintro e w2 ⟨rfl, hb⟩
  have HB := Lib.hid hb
  clear hb
  rw [show nameS (nameN 44) = ⟨#[114, 97, 105, 115, 101]⟩ from rfl]
  go_wp2_with fail
  go_ret2
  exact ⟨rfl, HB.out⟩
set_option maxRecDepth 100000 in
set_option maxHeartbeats 4000000 in
theorem arityN_45 (w : World) (h : SpT w) : Calls Tryd.prog 6 #[.int .i64 45] w (Giv (.tuple #[.int .i64 2, .int .i64 2]) w) := by
  go_enter Tryd.func6, Tryd.ntmps6
  go_wp2_with fail
  refine (name_of 45 _ h).mono ?_
  rintro e w2 ⟨rfl, hb⟩
  have HB := Lib.hid hb
  clear hb
  rw [show nameS (nameN 45) = ⟨#[119, 105, 116, 104, 45, 101, 120, 99, 101, 112, 116, 105, 111, 110, 45, 104, 97, 110, 100, 108, 101, 114]⟩ from rfl]
  go_wp2_with fail
  go_ret2
  exact ⟨rfl, HB.out⟩
set_option maxRecDepth 100000 in
set_option maxHeartbeats 4000000 in
theorem arityN_46 (w : World) (h : SpT w) : Calls Tryd.prog 6 #[.int .i64 46] w (Giv (.tuple #[.int .i64 1, .int .i64 1]) w) := by
  go_enter Tryd.func6, Tryd.ntmps6
  go_wp2_with fail
  refine (name_of 46 _ h).mono ?_
  rintro e w2 ⟨rfl, hb⟩
  have HB := Lib.hid hb
  clear hb
  rw [show nameS (nameN 46) = ⟨#[99, 97, 108, 108, 47, 99, 99]⟩ from rfl]
  go_wp2_with fail
  go_ret2
  exact ⟨rfl, HB.out⟩
set_option maxRecDepth 100000 in
set_option maxHeartbeats 4000000 in
theorem arityN_47 (w : World) (h : SpT w) : Calls Tryd.prog 6 #[.int .i64 47] w (Giv (.tuple #[.int .i64 3, .int .i64 3]) w) := by
  go_enter Tryd.func6, Tryd.ntmps6
  go_wp2_with fail
  refine (name_of 47 _ h).mono ?_
  rintro e w2 ⟨rfl, hb⟩
  have HB := Lib.hid hb
  clear hb
  rw [show nameS (nameN 47) = ⟨#[100, 121, 110, 97, 109, 105, 99, 45, 119, 105, 110, 100]⟩ from rfl]
  go_wp2_with fail
  go_ret2
  exact ⟨rfl, HB.out⟩
set_option maxRecDepth 100000 in
set_option maxHeartbeats 4000000 in
theorem arityN_48 (w : World) (h : SpT w) : Calls Tryd.prog 6 #[.int .i64 48] w (Giv (.tuple #[.int .i64 0, .int .i64 28]) w) := by
  go_enter Tryd.func6, Tryd.ntmps6
  go_wp2_with fail
  refine (name_of 48 _ h).mono ?_
  rintro e w2 ⟨rfl, hb⟩
  have HB := Lib.hid hb
  clear hb
  rw [show nameS (nameN 48) = ⟨#[118, 97, 108, 117, 101, 115]⟩ from rfl]
  go_wp2_with fail
  go_ret2
  exact ⟨rfl, HB.out⟩
set_option maxRecDepth 100000 in
set_option maxHeartbeats 4000000 in
theorem arityN_49 (w : World) (h : SpT w) : Calls Tryd.prog 6 #[.int .i64 49] w (Giv (.tuple #[.int .i64 2, .int .i64 2]) w) := by
  go_enter Tryd.func6, Tryd.ntmps6
  go_wp2_with fail
  refine (name_of 49 _ h).mono ?_
  rintro e w2 ⟨rfl, hb⟩
  have HB := Lib.hid hb
  clear hb
  rw [show nameS (nameN 49) = ⟨#[99, 97, 108, 108, 45, 119, 105, 116, 104, 45, 118, 97, 108, 117, 101, 115]⟩ from rfl]
  go_wp2_with fail
  go_ret2
  exact ⟨rfl, HB.out⟩
set_option maxRecDepth 100000 in
set_option maxHeartbeats 4000000 in
theorem arityN_50 (w : World) (h : SpT w) : Calls Tryd.prog 6 #[.int .i64 50] w (Giv (.tuple #[.int .i64 2, .int .i64 2]) w) := by
  go_enter Tryd.func6, Tryd.ntmps6
  go_wp2_with fail
  refine (name_of 50 _ h).mono ?_
  rintro e w2 ⟨rfl, hb⟩
  have HB := Lib.hid hb
  clear hb
  rw [show nameS (nameN 50) = ⟨#[97, 112, 112, 108, 121]⟩ from rfl]
  go_wp2_with fail
  go_ret2
  exact ⟨rfl, HB.out⟩
set_option maxRecDepth 100000 in
set_option maxHeartbeats 4000000 in
theorem arityN_51 (w : World) (h : SpT w) : Calls Tryd.prog 6 #[.int .i64 51] w (Giv (.tuple #[.int .i64 1, .int .i64 1]) w) := by
  go_enter Tryd.func6, Tryd.ntmps6
  go_wp2_with fail
  refine (name_of 51 _ h).mono ?_
  rintro e w2 ⟨rfl, hb⟩
  have HB := Lib.hid hb
  clear hb
  rw [show nameS (nameN 51) = ⟨#[111, 110, 45, 116, 105, 99, 107]⟩ from rfl]
  go_wp2_with fail
  go_ret2
  exact ⟨rfl, HB.out⟩
set_option maxRecDepth 100000 in
set_option maxHeartbeats 4000000 in
theorem arityN_52 (w : World) (h : SpT w) : Calls Tryd.prog 6 #[.int .i64 52] w (Giv (.tuple #[.int .i64 1, .int .i64 1]) w) := by
  go_enter Tryd.func6, Tryd.ntmps6
  go_wp2_with fail
  refine (name_of 52 _ h).mono ?_
  rintro e w2 ⟨rfl, hb⟩
  have HB := Lib.hid hb
  clear hb
  rw [show nameS (nameN 52) = ⟨#[111, 110, 45, 107, 101, 121]⟩ from rfl]
  go_wp2_with fail
  go_ret2
  exact ⟨rfl, HB.out⟩
set_option maxRecDepth 100000 in
set_option maxHeartbeats 4000000 in
theorem arityN_53 (w : World) (h : SpT w) : Calls Tryd.prog 6 #[.int .i64 53] w (Giv (.tuple #[.int .i64 1, .int .i64 1]) w) := by
  go_enter Tryd.func6, Tryd.ntmps6
  go_wp2_with fail
  refine (name_of 53 _ h).mono ?_
  rintro e w2 ⟨rfl, hb⟩
  have HB := Lib.hid hb
  clear hb
  rw [show nameS (nameN 53) = ⟨#[101, 114, 114, 111, 114, 45, 107, 105, 110, 100]⟩ from rfl]
  go_wp2_with fail
  go_ret2
  exact ⟨rfl, HB.out⟩
set_option maxRecDepth 100000 in
set_option maxHeartbeats 4000000 in
theorem arityN_54 (w : World) (h : SpT w) : Calls Tryd.prog 6 #[.int .i64 54] w (Giv (.tuple #[.int .i64 1, .int .i64 1]) w) := by
  go_enter Tryd.func6, Tryd.ntmps6
  go_wp2_with fail
  refine (name_of 54 _ h).mono ?_
  rintro e w2 ⟨rfl, hb⟩
  have HB := Lib.hid hb
  clear hb
  rw [show nameS (nameN 54) = ⟨#[101, 114, 114, 111, 114, 45, 118, 97, 108, 117, 101]⟩ from rfl]
  go_wp2_with fail
  go_ret2
  exact ⟨rfl, HB.out⟩
end Go.Proofs.YtneokkhnjnomdaaDoor
