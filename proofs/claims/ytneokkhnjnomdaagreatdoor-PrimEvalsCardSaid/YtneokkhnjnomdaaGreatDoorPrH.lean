/-
  The law's own data; what Eval comes to, of few of them.
-/
import Derived.Test.YtneokkhnjnomdaaGreatDoorPrG
namespace Go.Proofs.YtneokkhnjnomdaaGreatDoor
open Go.RowKit Go.Proofs.YtneokkhnjnomdaaGreatDoorW.PrintWords

abbrev numN (n : Int) : Nd := ⟨1, n, ⟨#[]⟩, none, 0, 0⟩
abbrev strN (s : ByteArray) : Nd := ⟨4, 0, s, none, 0, 0⟩

set_option maxRecDepth 100000 in
set_option maxHeartbeats 4000000 in
theorem num_of (n : Int) (w : World) : Calls Tryz.prog 16 #[.int .i64 n] w (Giv (datV 1 n ⟨#[]⟩) w) := by
  go_enter Tryz.func16, Tryz.ntmps16
  go_wp2_with fail
  go_returns
  exact ⟨rfl, below_alloc (Below.refl _ _) _⟩
set_option maxRecDepth 100000 in
set_option maxHeartbeats 4000000 in
theorem lawstr_of (s : ByteArray) (w : World) : Calls Tryz.prog 17 #[.string s] w (Giv (datV 4 0 s) w) := by
  go_enter Tryz.func17, Tryz.ntmps17
  go_wp2_with fail
  go_returns
  exact ⟨rfl, below_alloc (Below.refl _ _) _⟩

theorem nd_ok (d : Nd) (w : World) (hm : d.m = 0) (h0 : -9223372036854775808 ≤ d.n) (h1 : d.n ≤ 9223372036854775807) : NdOk d 1 w :=
  ⟨h0, h1, by omega, fun w' _ => parts_nil d w' hm⟩

theorem args_new1 (d : Nd) (w : World) : ArgsAt [d] (.slice (some ⟨w.heap.size, 0, none⟩) 1 1) (w.alloc (.cells #[.int .i64 d.k, .int .i64 d.n, .string d.t, .slice d.a d.m d.c] 26)) := by
  have h := blk_new w (.cells #[.int .i64 d.k, .int .i64 d.n, .string d.t, .slice d.a d.m d.c] 26 (0, 0))
  refine ⟨⟨_, 1, rfl, fun j hj => ⟨w.heap.size, 0, rfl, by simp, ?_⟩⟩⟩
  obtain rfl : j = 0 := by simpa using hj
  exact ⟨blk_cell h 0, blk_cell h 1, blk_cell h 2, blk_cell h 3⟩
theorem args_new2 (d e : Nd) (w : World) : ArgsAt [d, e] (.slice (some ⟨w.heap.size, 0, none⟩) 2 2) (w.alloc (.cells #[.int .i64 d.k, .int .i64 d.n, .string d.t, .slice d.a d.m d.c, .int .i64 e.k, .int .i64 e.n, .string e.t, .slice e.a e.m e.c] 26)) := by
  have h := blk_new w (.cells #[.int .i64 d.k, .int .i64 d.n, .string d.t, .slice d.a d.m d.c, .int .i64 e.k, .int .i64 e.n, .string e.t, .slice e.a e.m e.c] 26 (0, 0))
  refine ⟨⟨_, 2, rfl, fun j hj => ⟨w.heap.size, 0, rfl, by simp, ?_⟩⟩⟩
  have hj2 : j = 0 ∨ j = 1 := by simp at hj; omega
  rcases hj2 with rfl | rfl
  · exact ⟨blk_cell h 0, blk_cell h 1, blk_cell h 2, blk_cell h 3⟩
  · exact ⟨blk_cell h 4, blk_cell h 5, blk_cell h 6, blk_cell h 7⟩
theorem args_new3 (d e f : Nd) (w : World) : ArgsAt [d, e, f] (.slice (some ⟨w.heap.size, 0, none⟩) 3 3) (w.alloc (.cells #[.int .i64 d.k, .int .i64 d.n, .string d.t, .slice d.a d.m d.c, .int .i64 e.k, .int .i64 e.n, .string e.t, .slice e.a e.m e.c, .int .i64 f.k, .int .i64 f.n, .string f.t, .slice f.a f.m f.c] 26)) := by
  have h := blk_new w (.cells #[.int .i64 d.k, .int .i64 d.n, .string d.t, .slice d.a d.m d.c, .int .i64 e.k, .int .i64 e.n, .string e.t, .slice e.a e.m e.c, .int .i64 f.k, .int .i64 f.n, .string f.t, .slice f.a f.m f.c] 26 (0, 0))
  refine ⟨⟨_, 3, rfl, fun j hj => ⟨w.heap.size, 0, rfl, by simp, ?_⟩⟩⟩
  have hj2 : j = 0 ∨ j = 1 ∨ j = 2 := by simp at hj; omega
  rcases hj2 with rfl | rfl | rfl
  · exact ⟨blk_cell h 0, blk_cell h 1, blk_cell h 2, blk_cell h 3⟩
  · exact ⟨blk_cell h 4, blk_cell h 5, blk_cell h 6, blk_cell h 7⟩
  · exact ⟨blk_cell h 8, blk_cell h 9, blk_cell h 10, blk_cell h 11⟩

/-- What the law's data need. -/
structure Laid18 (w : World) : Prop where
  spt : SpT w
  tab : Tab w
  et : EtIs w
theorem Laid18.later {w w' : World} (h : Laid18 w) (hb : Below w.heap.size w w') : Laid18 w' := ⟨spt_below h.spt hb, tab_below h.tab hb, et_below h.et hb⟩

theorem ev_args {L : List Nd} {v : Value} {w : World} (hL : Laid18 w) (hA : ArgsAt L v w) (hf : L.length ≤ 1000000000) (ho : ∀ d ∈ L, d.m = 0 ∧ -9223372036854775808 ≤ d.n ∧ d.n ≤ 9223372036854775807) : EvArgs L v w :=
  ⟨hA, fun d hd => ⟨1, nd_ok d w (ho d hd).1 (ho d hd).2.1 (ho d hd).2.2⟩, hf, hL.spt, hL.tab⟩

def i64 (n : Int) : Prop := -9223372036854775808 ≤ n ∧ n ≤ 9223372036854775807

theorem plain_num (n : Int) : plainN (numN n) = Num n := by
  simp only [plainN, Num]
  rw [Bool.eq_iff_iff]
  simp
  omega
theorem plain_str (s : ByteArray) : plainN (strN s) = decide (s.size ≤ 500) := by
  simp [plainN]

/-- Eval of two numbers, by what comes to numbers. -/
theorem ev_num2 (n : Int) (h1 : 1 ≤ n) (h8 : n ≤ 8) (a b : Int) (ha : i64 a) (hb : i64 b) (hpl : Num a = true ∧ Num b = true) (v : Value) (w : World) (hL : Laid18 w) (hA : ArgsAt [numN a, numN b] v w) (k N : Int) (t : ByteArray)
    (hc : ∀ w', Calls Tryz.prog 33 #[.string (nameS (nameN n)), .int .i64 a, .int .i64 b] w' (Giv (.tuple #[datV k N t, .nilIface]) w')) :
    Calls Tryz.prog 10 #[.int .i64 n, v] w (Giv (.tuple #[datV k N t, .nilIface]) w) := by
  have hk : kindsN n = [1, 1] := by
    unfold kindsN
    rw [if_neg (by omega), if_neg (by omega), if_neg (by omega), if_neg (by omega), if_neg (by omega), if_neg (by omega), if_neg (by omega)]
  refine eval_math_ok n [numN a, numN b] v w (ev_args hL hA (by simp) (fun d hd => ?_)) h8 (decide_eq_true (by omega)) ?_ (by rw [hk]; rfl) (by rw [hk]; exact decide_eq_true rfl) (numN a) (numN b) rfl k N t hc
  · rcases List.mem_cons.1 hd with rfl | hd
    · exact ⟨rfl, ha⟩
    · obtain rfl := List.mem_singleton.1 hd
      exact ⟨rfl, hb⟩
  · simp [plain_num, hpl.1, hpl.2]
end Go.Proofs.YtneokkhnjnomdaaGreatDoor
