/-
  Eval.
-/
import Derived.Test.YtneokkhnjnomdaaGreatDoorPrF
namespace Go.Proofs.YtneokkhnjnomdaaGreatDoor
open Go.RowKit Go.Proofs.YtneokkhnjnomdaaGreatDoorW.PrintWords

def DZ (b : Nat) (k n : Int) (t : ByteArray) (w : World) : Prop := w.heap[b]? = some (.cells #[.int .i64 k, .int .i64 n, .string t, .slice none 0 0] 26 (0, 0))
structure EvI (w : World) (w' : World) : Prop where
  res : DZ w.heap.size 0 0 ⟨#[]⟩ w'
  plain : PlainAt (w.heap.size + 1) w'
  below : Below w.heap.size w w'
theorem EvI.step {w w1 w2 : World} (h : EvI w w1) (hb : Below w1.heap.size w1 w2) : EvI w w2 := ⟨blk_below h.res hb, blk_below h.plain hb, below_step h.below hb⟩
theorem ev_store (w : World) : ∃ w0, (store ⟨w.heap.size + 1, 0, none⟩ (.func (.func 26) #[] #[])).run Tryz.prog ((w.alloc (.cells #[.int .i64 0, .int .i64 0, .string ⟨#[]⟩, .slice none 0 0] 26)).alloc (.cells #[.nilFunc] 28)) = .ok () w0 ∧ EvI w w0 := by
  have h1 := blk_new (w.alloc (.cells #[.int .i64 0, .int .i64 0, .string ⟨#[]⟩, .slice none 0 0] 26)) (.cells #[.nilFunc] 28 (0, 0))
  rw [show (w.alloc (.cells #[.int .i64 0, .int .i64 0, .string ⟨#[]⟩, .slice none 0 0] 26)).heap.size = w.heap.size + 1 by simp] at h1
  refine ⟨((w.alloc (.cells #[.int .i64 0, .int .i64 0, .string ⟨#[]⟩, .slice none 0 0] 26)).alloc (.cells #[.nilFunc] 28)).setCell ⟨w.heap.size + 1, 0, none⟩ (.func (.func 26) #[] #[]), ?_, ?_⟩
  · have c0 := blk_cell h1 0
    have f0 := blk_frozen h1 0
    rw [run_store Tryz.prog _ _ _ _ (by rfl)]
    simp [c0, f0]
  · exact ⟨blk_far (blk_alloc (blk_new w _) _) (by simp) _, blk_put h1 0 _ rfl, below_set (below_alloc (below_alloc (Below.refl _ _) _) _) (by omega)⟩

structure EvR (w : World) (w' : World) : Prop where
  res : DZ w.heap.size 0 0 ⟨#[]⟩ w'
  below : Below w.heap.size w w'

/-- What Eval is called with. -/
structure EvArgs (L : List Nd) (v : Value) (w : World) : Prop where
  args : ArgsAt L v w
  ok : ∀ d ∈ L, ∃ p, NdOk d p w
  few : L.length ≤ 1000000000
  spt : SpT w
  tab : Tab w

set_option maxRecDepth 100000 in
set_option maxHeartbeats 8000000 in
theorem eval_impure (n : Int) (L : List Nd) (v : Value) (w : World) (h : EvArgs L v w) (hp : pureB n = false) : Calls Tryz.prog 10 #[.int .i64 n, v] w (Giv (.tuple #[datV 0 0 ⟨#[]⟩, kindV 2]) w) := by
  have HPU := Lib.hid hp
  clear hp
  obtain ⟨A, cap, hv, -⟩ := h.args.row
  subst hv
  have HA := Lib.hid h.args
  have HN := Lib.hid h.ok
  have HS := Lib.hid h.spt
  have HTB := Lib.hid h.tab
  have hfew := h.few
  clear h
  obtain ⟨w0, hst, hE⟩ := ev_store w
  have HE := Lib.hid hE
  clear hE
  go_enter Tryz.func10, Tryz.ntmps10
  go_wp2_with fail
  clear hst
  refine (pure_of n _).mono ?_
  rintro e w1 ⟨rfl, rfl⟩
  rw [HPU.out]
  have r0 : w1.cell? ⟨w.heap.size, 0, none⟩ = some (.int .i64 0) := blk_cell HE.out.res 0
  have s0 := blk_frozen HE.out.res 0
  have r1 : w1.cell? ⟨w.heap.size, 1, none⟩ = some (.int .i64 0) := blk_cell HE.out.res 1
  have s1 := blk_frozen HE.out.res 1
  have r2 : w1.cell? ⟨w.heap.size, 2, none⟩ = some (.string ⟨#[]⟩) := blk_cell HE.out.res 2
  have s2 := blk_frozen HE.out.res 2
  have r3 : w1.cell? ⟨w.heap.size, 3, none⟩ = some (.slice none 0 0) := blk_cell HE.out.res 3
  have s3 := blk_frozen HE.out.res 3
  go_wp2_with fail
  have H4 := dat_put HE.out.res (0) (0) (⟨#[]⟩)
  have HB4 := Lib.hid (below_put HE.out.below (0) (0) (⟨#[]⟩))
  have q0 := blk_cell H4 0
  have q1 := blk_cell H4 1
  have q2 := blk_cell H4 2
  have q3 := blk_cell H4 3
  clear r0 r1 r2 r3 s0 s1 s2 s3
  (try simp only [Exit.inBlock, Exit.then])
  refine bodyPost_ret (by simp [results, Tryz.results10, go_sem, q0, q1, q2, q3]; rfl) rfl ?_
  exact ⟨rfl, HB4.out⟩
set_option maxRecDepth 100000 in
set_option maxHeartbeats 8000000 in
theorem eval_unplain (n : Int) (L : List Nd) (v : Value) (w : World) (h : EvArgs L v w) (hp : pureB n = true) (hl : L.any (fun d => !plainN d) = true) : Calls Tryz.prog 10 #[.int .i64 n, v] w (Giv (.tuple #[datV 0 0 ⟨#[]⟩, kindV 2]) w) := by
  have HPU := Lib.hid hp
  have HPL := Lib.hid hl
  clear hp hl
  obtain ⟨A, cap, hv, -⟩ := h.args.row
  subst hv
  have HA := Lib.hid h.args
  have HN := Lib.hid h.ok
  have HS := Lib.hid h.spt
  have HTB := Lib.hid h.tab
  have hfew := h.few
  clear h
  obtain ⟨w0, hst, hE⟩ := ev_store w
  have HE := Lib.hid hE
  clear hE
  go_enter Tryz.func10, Tryz.ntmps10
  go_wp2_with fail
  clear hst
  refine (pure_of n _).mono ?_
  rintro e w1 ⟨rfl, rfl⟩
  rw [HPU.out]
  go_wp2_with fail
  refine (contains_plain L _ (w.heap.size + 1) _ (HA.out.later HE.out.below) HE.out.plain (fun d hd => by obtain ⟨p, hp⟩ := HN.out d hd; exact ⟨p, hp.later HE.out.below⟩) hfew).mono ?_
  rintro e w2 ⟨rfl, hb2⟩
  have HE2 := Lib.hid (HE.out.step hb2)
  clear hb2
  rw [HPL.out]
  have r0 : w2.cell? ⟨w.heap.size, 0, none⟩ = some (.int .i64 0) := blk_cell HE2.out.res 0
  have s0 := blk_frozen HE2.out.res 0
  have r1 : w2.cell? ⟨w.heap.size, 1, none⟩ = some (.int .i64 0) := blk_cell HE2.out.res 1
  have s1 := blk_frozen HE2.out.res 1
  have r2 : w2.cell? ⟨w.heap.size, 2, none⟩ = some (.string ⟨#[]⟩) := blk_cell HE2.out.res 2
  have s2 := blk_frozen HE2.out.res 2
  have r3 : w2.cell? ⟨w.heap.size, 3, none⟩ = some (.slice none 0 0) := blk_cell HE2.out.res 3
  have s3 := blk_frozen HE2.out.res 3
  go_wp2_with fail
  have H4 := dat_put HE2.out.res (0) (0) (⟨#[]⟩)
  have HB4 := Lib.hid (below_put HE2.out.below (0) (0) (⟨#[]⟩))
  have q0 := blk_cell H4 0
  have q1 := blk_cell H4 1
  have q2 := blk_cell H4 2
  have q3 := blk_cell H4 3
  clear r0 r1 r2 r3 s0 s1 s2 s3
  (try simp only [Exit.inBlock, Exit.then])
  refine bodyPost_ret (by simp [results, Tryz.results10, go_sem, q0, q1, q2, q3]; rfl) rfl ?_
  exact ⟨rfl, HB4.out⟩
set_option maxRecDepth 100000 in
set_option maxHeartbeats 8000000 in
theorem eval_arity (n : Int) (L : List Nd) (v : Value) (w : World) (h : EvArgs L v w) (hp : pureB n = true) (hl : L.any (fun d => !plainN d) = false) (hlen : L.length ≠ (kindsN n).length) : Calls Tryz.prog 10 #[.int .i64 n, v] w (Giv (.tuple #[datV 0 0 ⟨#[]⟩, abV (nameS (nameN n)) 10]) w) := by
  have hle : ¬ (L.length : Int) = ((kindsN n).length : Nat) := by omega
  have hlb : ((L.length : Int) == ((kindsN n).length : Nat)) = false := beq_eq_false_iff_ne.2 hle
  have HPU := Lib.hid hp
  have HPL := Lib.hid hl
  clear hp hl hlen
  obtain ⟨A, cap, hv, -⟩ := h.args.row
  subst hv
  have HA := Lib.hid h.args
  have HN := Lib.hid h.ok
  have HS := Lib.hid h.spt
  have HTB := Lib.hid h.tab
  have hfew := h.few
  clear h
  obtain ⟨w0, hst, hE⟩ := ev_store w
  have HE := Lib.hid hE
  clear hE
  go_enter Tryz.func10, Tryz.ntmps10
  go_wp2_with fail
  clear hst
  refine (pure_of n _).mono ?_
  rintro e w1 ⟨rfl, rfl⟩
  rw [HPU.out]
  go_wp2_with fail
  refine (contains_plain L _ (w.heap.size + 1) _ (HA.out.later HE.out.below) HE.out.plain (fun d hd => by obtain ⟨p, hp⟩ := HN.out d hd; exact ⟨p, hp.later HE.out.below⟩) hfew).mono ?_
  rintro e w2 ⟨rfl, hb2⟩
  have HE2 := Lib.hid (HE.out.step hb2)
  clear hb2
  rw [HPL.out]
  go_wp2_with fail
  refine (name_of n _ (spt_below HS.out HE2.out.below)).mono ?_
  rintro e w3 ⟨rfl, hb3⟩
  have HE3 := Lib.hid (HE2.out.step hb3)
  clear hb3
  go_wp2_with fail
  refine (kinds_of n _ HPU.out).mono ?_
  rintro e w4 ⟨⟨u, rfl, hk⟩, hb4⟩
  have HE4 := Lib.hid (HE3.out.step hb4)
  have HK := Lib.hid hk
  obtain ⟨gk, capk, rfl, -, -⟩ := hk.row
  clear hk hb4
  have r0 : w4.cell? ⟨w.heap.size, 0, none⟩ = some (.int .i64 0) := blk_cell HE4.out.res 0
  have s0 := blk_frozen HE4.out.res 0
  have r1 : w4.cell? ⟨w.heap.size, 1, none⟩ = some (.int .i64 0) := blk_cell HE4.out.res 1
  have s1 := blk_frozen HE4.out.res 1
  have r2 : w4.cell? ⟨w.heap.size, 2, none⟩ = some (.string ⟨#[]⟩) := blk_cell HE4.out.res 2
  have s2 := blk_frozen HE4.out.res 2
  have r3 : w4.cell? ⟨w.heap.size, 3, none⟩ = some (.slice none 0 0) := blk_cell HE4.out.res 3
  have s3 := blk_frozen HE4.out.res 3
  go_wp2_with fail
  have H4 := dat_put HE4.out.res (0) (0) (⟨#[]⟩)
  have HB4 := Lib.hid (below_put HE4.out.below (0) (0) (⟨#[]⟩))
  have q0 := blk_cell H4 0
  have q1 := blk_cell H4 1
  have q2 := blk_cell H4 2
  have q3 := blk_cell H4 3
  clear r0 r1 r2 r3 s0 s1 s2 s3
  (try simp only [Exit.inBlock, Exit.then])
  refine bodyPost_ret (by simp [results, Tryz.results10, go_sem, q0, q1, q2, q3]; rfl) rfl ?_
  exact ⟨rfl, HB4.out⟩
set_option maxRecDepth 100000 in
set_option maxHeartbeats 8000000 in
theorem eval_type (n : Int) (L : List Nd) (v : Value) (w : World) (h : EvArgs L v w) (hp : pureB n = true) (hl : L.any (fun d => !plainN d) = false) (hlen : L.length = (kindsN n).length) (hk : eqK L (kindsN n) = false) : Calls Tryz.prog 10 #[.int .i64 n, v] w (Giv (.tuple #[datV 0 0 ⟨#[]⟩, abV (nameS (nameN n)) 9]) w) := by
  have hle : (L.length : Int) = ((kindsN n).length : Nat) := by omega
  have hlb : ((L.length : Int) == ((kindsN n).length : Nat)) = true := by simp [hle]
  have HLE := Lib.hid hlen
  have HPU := Lib.hid hp
  have HPL := Lib.hid hl
  have HKK := Lib.hid hk
  clear hp hl hlen hk
  obtain ⟨A, cap, hv, -⟩ := h.args.row
  subst hv
  have HA := Lib.hid h.args
  have HN := Lib.hid h.ok
  have HS := Lib.hid h.spt
  have HTB := Lib.hid h.tab
  have hfew := h.few
  clear h
  obtain ⟨w0, hst, hE⟩ := ev_store w
  have HE := Lib.hid hE
  clear hE
  go_enter Tryz.func10, Tryz.ntmps10
  go_wp2_with fail
  clear hst
  refine (pure_of n _).mono ?_
  rintro e w1 ⟨rfl, rfl⟩
  rw [HPU.out]
  go_wp2_with fail
  refine (contains_plain L _ (w.heap.size + 1) _ (HA.out.later HE.out.below) HE.out.plain (fun d hd => by obtain ⟨p, hp⟩ := HN.out d hd; exact ⟨p, hp.later HE.out.below⟩) hfew).mono ?_
  rintro e w2 ⟨rfl, hb2⟩
  have HE2 := Lib.hid (HE.out.step hb2)
  clear hb2
  rw [HPL.out]
  go_wp2_with fail
  refine (name_of n _ (spt_below HS.out HE2.out.below)).mono ?_
  rintro e w3 ⟨rfl, hb3⟩
  have HE3 := Lib.hid (HE2.out.step hb3)
  clear hb3
  go_wp2_with fail
  refine (kinds_of n _ HPU.out).mono ?_
  rintro e w4 ⟨⟨u, rfl, hk⟩, hb4⟩
  have HE4 := Lib.hid (HE3.out.step hb4)
  have HK := Lib.hid hk
  obtain ⟨gk, capk, rfl, -, -⟩ := hk.row
  clear hk hb4
  go_upto_region 9 with (fail)
  clear hle hlb
  have HD5 := Lib.hid (blk_new w4 (.cells #[.int .i64 0, .int .i64 0, .string ⟨#[]⟩, .slice none 0 0] 26))
  have HE5 := Lib.hid (HE4.out.step (below_alloc (Below.refl w4.heap.size w4) (.cells #[.int .i64 0, .int .i64 0, .string ⟨#[]⟩, .slice none 0 0] 26)))
  have HK5 := Lib.hid (HK.out.later (below_alloc (Below.refl w4.heap.size w4) (.cells #[.int .i64 0, .int .i64 0, .string ⟨#[]⟩, .slice none 0 0] 26)))
  generalize w4.alloc (.cells #[.int .i64 0, .int .i64 0, .string ⟨#[]⟩, .slice none 0 0] 26) = w5 at HD5 HE5 HK5 ⊢
  have hdb : w.heap.size < w4.heap.size := blk_lt HE4.out.res
  generalize w4.heap.size = db at HD5 hdb ⊢
  go_wp2_with fail
  refine (equal_kinds L (kindsN n) _ _ _ (HA.out.later HE5.out.below) HK5.out hfew HLE.out).mono ?_
  rintro e w6 ⟨rfl, hb6⟩
  have HE6 := Lib.hid (HE5.out.step hb6)
  have HD6 := Lib.hid (blk_below HD5.out hb6)
  clear hb6
  rw [HKK.out]
  have r0 : w6.cell? ⟨w.heap.size, 0, none⟩ = some (.int .i64 0) := blk_cell HE6.out.res 0
  have s0 := blk_frozen HE6.out.res 0
  have r1 : w6.cell? ⟨w.heap.size, 1, none⟩ = some (.int .i64 0) := blk_cell HE6.out.res 1
  have s1 := blk_frozen HE6.out.res 1
  have r2 : w6.cell? ⟨w.heap.size, 2, none⟩ = some (.string ⟨#[]⟩) := blk_cell HE6.out.res 2
  have s2 := blk_frozen HE6.out.res 2
  have r3 : w6.cell? ⟨w.heap.size, 3, none⟩ = some (.slice none 0 0) := blk_cell HE6.out.res 3
  have s3 := blk_frozen HE6.out.res 3
  go_wp2_with fail
  have H4 := dat_put HE6.out.res (0) (0) (⟨#[]⟩)
  have HB4 := Lib.hid (below_put HE6.out.below (0) (0) (⟨#[]⟩))
  have q0 := blk_cell H4 0
  have q1 := blk_cell H4 1
  have q2 := blk_cell H4 2
  have q3 := blk_cell H4 3
  clear r0 r1 r2 r3 s0 s1 s2 s3
  (try simp only [Exit.inBlock, Exit.then])
  refine bodyPost_ret (by simp [results, Tryz.results10, go_sem, q0, q1, q2, q3]; rfl) rfl ?_
  exact ⟨rfl, HB4.out⟩
set_option maxRecDepth 100000 in
set_option maxHeartbeats 8000000 in
theorem eval_text_ok (n : Int) (L : List Nd) (v : Value) (w : World) (h : EvArgs L v w) (h8 : ¬ n ≤ 8) (hp : pureB n = true) (hl : L.any (fun d => !plainN d) = false) (hlen : L.length = (kindsN n).length) (hk : eqK L (kindsN n) = true) (k N : Int) (t : ByteArray) (hc : ∀ w', Below w.heap.size w w' → Calls Tryz.prog 34 #[.string (nameS (nameN n)), v] w' (Giv (.tuple #[datV k N t, .nilIface]) w')) : Calls Tryz.prog 10 #[.int .i64 n, v] w (Giv (.tuple #[datV k N t, .nilIface]) w) := by
  have hle : (L.length : Int) = ((kindsN n).length : Nat) := by omega
  have hlb : ((L.length : Int) == ((kindsN n).length : Nat)) = true := by simp [hle]
  have HLE := Lib.hid hlen
  have b8 : decide (n ≤ 8) = false := decide_eq_false h8
  have HPU := Lib.hid hp
  have HPL := Lib.hid hl
  have HKK := Lib.hid hk
  have HC := Lib.hid hc
  clear hp hl hlen hk hc
  obtain ⟨A, cap, hv, -⟩ := h.args.row
  subst hv
  have HA := Lib.hid h.args
  have HN := Lib.hid h.ok
  have HS := Lib.hid h.spt
  have HTB := Lib.hid h.tab
  have hfew := h.few
  clear h
  obtain ⟨w0, hst, hE⟩ := ev_store w
  have HE := Lib.hid hE
  clear hE
  go_enter Tryz.func10, Tryz.ntmps10
  go_wp2_with fail
  clear hst
  refine (pure_of n _).mono ?_
  rintro e w1 ⟨rfl, rfl⟩
  rw [HPU.out]
  go_wp2_with fail
  refine (contains_plain L _ (w.heap.size + 1) _ (HA.out.later HE.out.below) HE.out.plain (fun d hd => by obtain ⟨p, hp⟩ := HN.out d hd; exact ⟨p, hp.later HE.out.below⟩) hfew).mono ?_
  rintro e w2 ⟨rfl, hb2⟩
  have HE2 := Lib.hid (HE.out.step hb2)
  clear hb2
  rw [HPL.out]
  go_wp2_with fail
  refine (name_of n _ (spt_below HS.out HE2.out.below)).mono ?_
  rintro e w3 ⟨rfl, hb3⟩
  have HE3 := Lib.hid (HE2.out.step hb3)
  clear hb3
  go_wp2_with fail
  refine (kinds_of n _ HPU.out).mono ?_
  rintro e w4 ⟨⟨u, rfl, hk⟩, hb4⟩
  have HE4 := Lib.hid (HE3.out.step hb4)
  have HK := Lib.hid hk
  obtain ⟨gk, capk, rfl, -, -⟩ := hk.row
  clear hk hb4
  go_upto_region 9 with (fail)
  clear hle hlb
  have HD5 := Lib.hid (blk_new w4 (.cells #[.int .i64 0, .int .i64 0, .string ⟨#[]⟩, .slice none 0 0] 26))
  have HE5 := Lib.hid (HE4.out.step (below_alloc (Below.refl w4.heap.size w4) (.cells #[.int .i64 0, .int .i64 0, .string ⟨#[]⟩, .slice none 0 0] 26)))
  have HK5 := Lib.hid (HK.out.later (below_alloc (Below.refl w4.heap.size w4) (.cells #[.int .i64 0, .int .i64 0, .string ⟨#[]⟩, .slice none 0 0] 26)))
  generalize w4.alloc (.cells #[.int .i64 0, .int .i64 0, .string ⟨#[]⟩, .slice none 0 0] 26) = w5 at HD5 HE5 HK5 ⊢
  have hdb : w.heap.size < w4.heap.size := blk_lt HE4.out.res
  generalize w4.heap.size = db at HD5 hdb ⊢
  go_wp2_with fail
  refine (equal_kinds L (kindsN n) _ _ _ (HA.out.later HE5.out.below) HK5.out hfew HLE.out).mono ?_
  rintro e6 w6 ⟨rfl, hb6⟩
  have HE6 := Lib.hid (HE5.out.step hb6)
  have HD6 := Lib.hid (show DZ db 0 0 ⟨#[]⟩ w6 from blk_below HD5.out hb6)
  clear hb6
  rw [HKK.out]
  go_wp2_with fail
  refine (HC.out _ HE6.out.below).mono ?_
  rintro e7 w7 ⟨rfl, hb7⟩
  have HE7 := Lib.hid (HE6.out.step hb7)
  have HD7 := Lib.hid (show DZ db 0 0 ⟨#[]⟩ w7 from blk_below HD6.out hb7)
  clear hb7
  have p0 : w7.cell? ⟨db, 0, none⟩ = some (.int .i64 0) := blk_cell HD7.out 0
  have z0 := blk_frozen HD7.out 0
  have p1 : w7.cell? ⟨db, 1, none⟩ = some (.int .i64 0) := blk_cell HD7.out 1
  have z1 := blk_frozen HD7.out 1
  have p2 : w7.cell? ⟨db, 2, none⟩ = some (.string ⟨#[]⟩) := blk_cell HD7.out 2
  have z2 := blk_frozen HD7.out 2
  have p3 : w7.cell? ⟨db, 3, none⟩ = some (.slice none 0 0) := blk_cell HD7.out 3
  have z3 := blk_frozen HD7.out 3
  go_upto_region 15 with (fail)
  have HD8 := Lib.hid (show DZ db k N t ((((w7.setCell ⟨db, 0, none⟩ (.int .i64 k)).setCell ⟨db, 1, none⟩ (.int .i64 N)).setCell ⟨db, 2, none⟩ (.string t)).setCell ⟨db, 3, none⟩ (.slice none 0 0)) from dat_put HD7.out k N t)
  have HE8 := Lib.hid (show EvR w ((((w7.setCell ⟨db, 0, none⟩ (.int .i64 k)).setCell ⟨db, 1, none⟩ (.int .i64 N)).setCell ⟨db, 2, none⟩ (.string t)).setCell ⟨db, 3, none⟩ (.slice none 0 0)) from ⟨blk_far (blk_far (blk_far (blk_far HE7.out.res (by show w.heap.size ≠ db; omega) _) (by show w.heap.size ≠ db; omega) _) (by show w.heap.size ≠ db; omega) _) (by show w.heap.size ≠ db; omega) _, below_set (below_set (below_set (below_set HE7.out.below (by omega)) (by omega)) (by omega)) (by omega)⟩)
  clear p0 p1 p2 p3 z0 z1 z2 z3 HE7 HD7
  generalize ((((w7.setCell ⟨db, 0, none⟩ (.int .i64 k)).setCell ⟨db, 1, none⟩ (.int .i64 N)).setCell ⟨db, 2, none⟩ (.string t)).setCell ⟨db, 3, none⟩ (.slice none 0 0)) = w8 at HD8 HE8 ⊢
  have r0 : w8.cell? ⟨w.heap.size, 0, none⟩ = some (.int .i64 0) := blk_cell HE8.out.res 0
  have s0 := blk_frozen HE8.out.res 0
  have r1 : w8.cell? ⟨w.heap.size, 1, none⟩ = some (.int .i64 0) := blk_cell HE8.out.res 1
  have s1 := blk_frozen HE8.out.res 1
  have r2 : w8.cell? ⟨w.heap.size, 2, none⟩ = some (.string ⟨#[]⟩) := blk_cell HE8.out.res 2
  have s2 := blk_frozen HE8.out.res 2
  have r3 : w8.cell? ⟨w.heap.size, 3, none⟩ = some (.slice none 0 0) := blk_cell HE8.out.res 3
  have s3 := blk_frozen HE8.out.res 3
  have d0 : w8.cell? ⟨db, 0, none⟩ = some (.int .i64 k) := blk_cell HD8.out 0
  have d1 : w8.cell? ⟨db, 1, none⟩ = some (.int .i64 N) := blk_cell HD8.out 1
  have d2 : w8.cell? ⟨db, 2, none⟩ = some (.string t) := blk_cell HD8.out 2
  have d3 : w8.cell? ⟨db, 3, none⟩ = some (.slice none 0 0) := blk_cell HD8.out 3
  go_wp2_with fail
  have H4 := dat_put HE8.out.res (k) (N) (t)
  have HB4 := Lib.hid (below_put HE8.out.below (k) (N) (t))
  have q0 := blk_cell H4 0
  have q1 := blk_cell H4 1
  have q2 := blk_cell H4 2
  have q3 := blk_cell H4 3
  clear r0 r1 r2 r3 s0 s1 s2 s3
  (try simp only [Exit.inBlock, Exit.then])
  refine bodyPost_ret (by simp [results, Tryz.results10, go_sem, q0, q1, q2, q3]; rfl) rfl ?_
  exact ⟨rfl, HB4.out⟩
set_option maxRecDepth 100000 in
set_option maxHeartbeats 8000000 in
theorem eval_text_err (n : Int) (L : List Nd) (v : Value) (w : World) (h : EvArgs L v w) (h8 : ¬ n ≤ 8) (hp : pureB n = true) (hl : L.any (fun d => !plainN d) = false) (hlen : L.length = (kindsN n).length) (hk : eqK L (kindsN n) = true) (k N : Int) (t : ByteArray) (E : Int) (hc : ∀ w', Below w.heap.size w w' → Calls Tryz.prog 34 #[.string (nameS (nameN n)), v] w' (Giv (.tuple #[datV k N t, kindV E]) w')) : Calls Tryz.prog 10 #[.int .i64 n, v] w (Giv (.tuple #[datV 0 0 ⟨#[]⟩, abV (nameS (nameN n)) E]) w) := by
  have hle : (L.length : Int) = ((kindsN n).length : Nat) := by omega
  have hlb : ((L.length : Int) == ((kindsN n).length : Nat)) = true := by simp [hle]
  have HLE := Lib.hid hlen
  have b8 : decide (n ≤ 8) = false := decide_eq_false h8
  have HPU := Lib.hid hp
  have HPL := Lib.hid hl
  have HKK := Lib.hid hk
  have HC := Lib.hid hc
  clear hp hl hlen hk hc
  obtain ⟨A, cap, hv, -⟩ := h.args.row
  subst hv
  have HA := Lib.hid h.args
  have HN := Lib.hid h.ok
  have HS := Lib.hid h.spt
  have HTB := Lib.hid h.tab
  have hfew := h.few
  clear h
  obtain ⟨w0, hst, hE⟩ := ev_store w
  have HE := Lib.hid hE
  clear hE
  go_enter Tryz.func10, Tryz.ntmps10
  go_wp2_with fail
  clear hst
  refine (pure_of n _).mono ?_
  rintro e w1 ⟨rfl, rfl⟩
  rw [HPU.out]
  go_wp2_with fail
  refine (contains_plain L _ (w.heap.size + 1) _ (HA.out.later HE.out.below) HE.out.plain (fun d hd => by obtain ⟨p, hp⟩ := HN.out d hd; exact ⟨p, hp.later HE.out.below⟩) hfew).mono ?_
  rintro e w2 ⟨rfl, hb2⟩
  have HE2 := Lib.hid (HE.out.step hb2)
  clear hb2
  rw [HPL.out]
  go_wp2_with fail
  refine (name_of n _ (spt_below HS.out HE2.out.below)).mono ?_
  rintro e w3 ⟨rfl, hb3⟩
  have HE3 := Lib.hid (HE2.out.step hb3)
  clear hb3
  go_wp2_with fail
  refine (kinds_of n _ HPU.out).mono ?_
  rintro e w4 ⟨⟨u, rfl, hk⟩, hb4⟩
  have HE4 := Lib.hid (HE3.out.step hb4)
  have HK := Lib.hid hk
  obtain ⟨gk, capk, rfl, -, -⟩ := hk.row
  clear hk hb4
  go_upto_region 9 with (fail)
  clear hle hlb
  have HD5 := Lib.hid (blk_new w4 (.cells #[.int .i64 0, .int .i64 0, .string ⟨#[]⟩, .slice none 0 0] 26))
  have HE5 := Lib.hid (HE4.out.step (below_alloc (Below.refl w4.heap.size w4) (.cells #[.int .i64 0, .int .i64 0, .string ⟨#[]⟩, .slice none 0 0] 26)))
  have HK5 := Lib.hid (HK.out.later (below_alloc (Below.refl w4.heap.size w4) (.cells #[.int .i64 0, .int .i64 0, .string ⟨#[]⟩, .slice none 0 0] 26)))
  generalize w4.alloc (.cells #[.int .i64 0, .int .i64 0, .string ⟨#[]⟩, .slice none 0 0] 26) = w5 at HD5 HE5 HK5 ⊢
  have hdb : w.heap.size < w4.heap.size := blk_lt HE4.out.res
  generalize w4.heap.size = db at HD5 hdb ⊢
  go_wp2_with fail
  refine (equal_kinds L (kindsN n) _ _ _ (HA.out.later HE5.out.below) HK5.out hfew HLE.out).mono ?_
  rintro e6 w6 ⟨rfl, hb6⟩
  have HE6 := Lib.hid (HE5.out.step hb6)
  have HD6 := Lib.hid (show DZ db 0 0 ⟨#[]⟩ w6 from blk_below HD5.out hb6)
  clear hb6
  rw [HKK.out]
  go_wp2_with fail
  refine (HC.out _ HE6.out.below).mono ?_
  rintro e7 w7 ⟨rfl, hb7⟩
  have HE7 := Lib.hid (HE6.out.step hb7)
  have HD7 := Lib.hid (show DZ db 0 0 ⟨#[]⟩ w7 from blk_below HD6.out hb7)
  clear hb7
  have p0 : w7.cell? ⟨db, 0, none⟩ = some (.int .i64 0) := blk_cell HD7.out 0
  have z0 := blk_frozen HD7.out 0
  have p1 : w7.cell? ⟨db, 1, none⟩ = some (.int .i64 0) := blk_cell HD7.out 1
  have z1 := blk_frozen HD7.out 1
  have p2 : w7.cell? ⟨db, 2, none⟩ = some (.string ⟨#[]⟩) := blk_cell HD7.out 2
  have z2 := blk_frozen HD7.out 2
  have p3 : w7.cell? ⟨db, 3, none⟩ = some (.slice none 0 0) := blk_cell HD7.out 3
  have z3 := blk_frozen HD7.out 3
  go_upto_region 15 with (fail)
  have HD8 := Lib.hid (show DZ db k N t ((((w7.setCell ⟨db, 0, none⟩ (.int .i64 k)).setCell ⟨db, 1, none⟩ (.int .i64 N)).setCell ⟨db, 2, none⟩ (.string t)).setCell ⟨db, 3, none⟩ (.slice none 0 0)) from dat_put HD7.out k N t)
  have HE8 := Lib.hid (show EvR w ((((w7.setCell ⟨db, 0, none⟩ (.int .i64 k)).setCell ⟨db, 1, none⟩ (.int .i64 N)).setCell ⟨db, 2, none⟩ (.string t)).setCell ⟨db, 3, none⟩ (.slice none 0 0)) from ⟨blk_far (blk_far (blk_far (blk_far HE7.out.res (by show w.heap.size ≠ db; omega) _) (by show w.heap.size ≠ db; omega) _) (by show w.heap.size ≠ db; omega) _) (by show w.heap.size ≠ db; omega) _, below_set (below_set (below_set (below_set HE7.out.below (by omega)) (by omega)) (by omega)) (by omega)⟩)
  clear p0 p1 p2 p3 z0 z1 z2 z3 HE7 HD7
  generalize ((((w7.setCell ⟨db, 0, none⟩ (.int .i64 k)).setCell ⟨db, 1, none⟩ (.int .i64 N)).setCell ⟨db, 2, none⟩ (.string t)).setCell ⟨db, 3, none⟩ (.slice none 0 0)) = w8 at HD8 HE8 ⊢
  have r0 : w8.cell? ⟨w.heap.size, 0, none⟩ = some (.int .i64 0) := blk_cell HE8.out.res 0
  have s0 := blk_frozen HE8.out.res 0
  have r1 : w8.cell? ⟨w.heap.size, 1, none⟩ = some (.int .i64 0) := blk_cell HE8.out.res 1
  have s1 := blk_frozen HE8.out.res 1
  have r2 : w8.cell? ⟨w.heap.size, 2, none⟩ = some (.string ⟨#[]⟩) := blk_cell HE8.out.res 2
  have s2 := blk_frozen HE8.out.res 2
  have r3 : w8.cell? ⟨w.heap.size, 3, none⟩ = some (.slice none 0 0) := blk_cell HE8.out.res 3
  have s3 := blk_frozen HE8.out.res 3
  go_wp2_with fail
  have H4 := dat_put HE8.out.res (0) (0) (⟨#[]⟩)
  have HB4 := Lib.hid (below_put HE8.out.below (0) (0) (⟨#[]⟩))
  have q0 := blk_cell H4 0
  have q1 := blk_cell H4 1
  have q2 := blk_cell H4 2
  have q3 := blk_cell H4 3
  clear r0 r1 r2 r3 s0 s1 s2 s3
  (try simp only [Exit.inBlock, Exit.then])
  refine bodyPost_ret (by simp [results, Tryz.results10, go_sem, q0, q1, q2, q3]; rfl) rfl ?_
  exact ⟨rfl, HB4.out⟩
set_option maxRecDepth 100000 in
set_option maxHeartbeats 8000000 in
theorem eval_math_ok (n : Int) (L : List Nd) (v : Value) (w : World) (h : EvArgs L v w) (h8 : n ≤ 8) (hp : pureB n = true) (hl : L.any (fun d => !plainN d) = false) (hlen : L.length = (kindsN n).length) (hk : eqK L (kindsN n) = true) (d e : Nd) (hL : L = [d, e]) (k N : Int) (t : ByteArray) (hc : ∀ w', Calls Tryz.prog 33 #[.string (nameS (nameN n)), .int .i64 d.n, .int .i64 e.n] w' (Giv (.tuple #[datV k N t, .nilIface]) w')) : Calls Tryz.prog 10 #[.int .i64 n, v] w (Giv (.tuple #[datV k N t, .nilIface]) w) := by
  have hle : (L.length : Int) = ((kindsN n).length : Nat) := by omega
  have hlb : ((L.length : Int) == ((kindsN n).length : Nat)) = true := by simp [hle]
  have HLE := Lib.hid hlen
  have b8 : decide (n ≤ 8) = true := decide_eq_true h8
  have HL := Lib.hid hL
  clear hL
  have HPU := Lib.hid hp
  have HPL := Lib.hid hl
  have HKK := Lib.hid hk
  have HC := Lib.hid hc
  clear hp hl hlen hk hc
  obtain ⟨A, cap, hv, -⟩ := h.args.row
  subst hv
  have HA := Lib.hid h.args
  have HN := Lib.hid h.ok
  have HS := Lib.hid h.spt
  have HTB := Lib.hid h.tab
  have hfew := h.few
  clear h
  obtain ⟨w0, hst, hE⟩ := ev_store w
  have HE := Lib.hid hE
  clear hE
  go_enter Tryz.func10, Tryz.ntmps10
  go_wp2_with fail
  clear hst
  refine (pure_of n _).mono ?_
  rintro e w1 ⟨rfl, rfl⟩
  rw [HPU.out]
  go_wp2_with fail
  refine (contains_plain L _ (w.heap.size + 1) _ (HA.out.later HE.out.below) HE.out.plain (fun d hd => by obtain ⟨p, hp⟩ := HN.out d hd; exact ⟨p, hp.later HE.out.below⟩) hfew).mono ?_
  rintro e w2 ⟨rfl, hb2⟩
  have HE2 := Lib.hid (HE.out.step hb2)
  clear hb2
  rw [HPL.out]
  go_wp2_with fail
  refine (name_of n _ (spt_below HS.out HE2.out.below)).mono ?_
  rintro e w3 ⟨rfl, hb3⟩
  have HE3 := Lib.hid (HE2.out.step hb3)
  clear hb3
  go_wp2_with fail
  refine (kinds_of n _ HPU.out).mono ?_
  rintro e w4 ⟨⟨u, rfl, hk⟩, hb4⟩
  have HE4 := Lib.hid (HE3.out.step hb4)
  have HK := Lib.hid hk
  obtain ⟨gk, capk, rfl, -, -⟩ := hk.row
  clear hk hb4
  go_upto_region 9 with (fail)
  clear hle hlb
  have HD5 := Lib.hid (blk_new w4 (.cells #[.int .i64 0, .int .i64 0, .string ⟨#[]⟩, .slice none 0 0] 26))
  have HE5 := Lib.hid (HE4.out.step (below_alloc (Below.refl w4.heap.size w4) (.cells #[.int .i64 0, .int .i64 0, .string ⟨#[]⟩, .slice none 0 0] 26)))
  have HK5 := Lib.hid (HK.out.later (below_alloc (Below.refl w4.heap.size w4) (.cells #[.int .i64 0, .int .i64 0, .string ⟨#[]⟩, .slice none 0 0] 26)))
  generalize w4.alloc (.cells #[.int .i64 0, .int .i64 0, .string ⟨#[]⟩, .slice none 0 0] 26) = w5 at HD5 HE5 HK5 ⊢
  have hdb : w.heap.size < w4.heap.size := blk_lt HE4.out.res
  generalize w4.heap.size = db at HD5 hdb ⊢
  go_wp2_with fail
  refine (equal_kinds L (kindsN n) _ _ _ (HA.out.later HE5.out.below) HK5.out hfew HLE.out).mono ?_
  rintro e6 w6 ⟨rfl, hb6⟩
  have HE6 := Lib.hid (HE5.out.step hb6)
  have HD6 := Lib.hid (show DZ db 0 0 ⟨#[]⟩ w6 from blk_below HD5.out hb6)
  clear hb6
  rw [HKK.out]
  obtain ⟨A2, cap2, eA, hrow⟩ := HA.out.row
  injection eA with eA1 _ eA2
  subst eA1 eA2
  have hd0 : ∀ h, L[0]'h = d := by rw [HL.out]; intro h; rfl
  have he0 : ∀ h, L[1]'h = e := by rw [HL.out]; intro h; rfl
  obtain ⟨g, o, rfl, hg, -, a1, -, -⟩ := hrow 0 (by rw [HL.out]; simp)
  obtain ⟨g', o', e', -, -, b1, -, -⟩ := hrow 1 (by rw [HL.out]; simp)
  injection e' with e'
  injection e' with eg eo _
  subst eg eo
  rw [hd0] at a1
  rw [he0] at b1
  replace a1 : w.cell? ⟨g, o + 1, none⟩ = some (.int .i64 d.n) := a1
  replace b1 : w.cell? ⟨g, o + 5, none⟩ = some (.int .i64 e.n) := b1
  replace a1 := (HE6.out.below.cell (p := ⟨g, o + 1, none⟩) hg).trans a1
  replace b1 := (HE6.out.below.cell (p := ⟨g, o + 5, none⟩) hg).trans b1
  have hl2 : L.length = 2 := by rw [HL.out]; rfl
  have lt0 : (0 : Int) < (L.length : Nat) := by omega
  have lt1 : (1 : Int) < (L.length : Nat) := by omega
  clear hrow hd0 he0
  have hgd : ¬ g = db := by omega
  have hdg : ¬ db = g := by omega
  have hlg : g < w6.heap.size := Nat.lt_of_lt_of_le hg HE6.out.below.size
  go_wp2_with fail
  go_region_held3 (fun w' => w'.cell? ⟨g, o + 1, none⟩ = some (.int .i64 d.n) ∧ w'.cell? ⟨g, o + 5, none⟩ = some (.int .i64 e.n))
    (first | go_keep | exact ⟨(hb7.cell (p := ⟨g, o + 1, none⟩) hlg).trans a1, (hb7.cell (p := ⟨g, o + 5, none⟩) hlg).trans b1⟩)
    ((go_at_call 33; refine (HC.out _).mono ?_; rintro e7 w7 ⟨rfl, hb7⟩; have HE7 := Lib.hid (HE6.out.step (below_step (below_drew (Below.refl _ _)) hb7)); have HD7 := Lib.hid (show DZ db 0 0 ⟨#[]⟩ w7 from blk_below HD6.out (below_step (below_drew (Below.refl _ _)) hb7)); have p0 := blk_cell HD7.out 0; have p1 := blk_cell HD7.out 1; have p2 := blk_cell HD7.out 2; have p3 := blk_cell HD7.out 3; have z0 := blk_frozen HD7.out 0; have z1 := blk_frozen HD7.out 1; have z2 := blk_frozen HD7.out 2; have z3 := blk_frozen HD7.out 3; have v1 := (hb7.cell (p := ⟨g, o + 1, none⟩) hlg).trans a1; have v2 := (hb7.cell (p := ⟨g, o + 5, none⟩) hlg).trans b1))
  all_goals (
    go_upto_region 15 with (fail)
    have HD8 := Lib.hid (show DZ db k N t ((((w7.setCell ⟨db, 0, none⟩ (.int .i64 k)).setCell ⟨db, 1, none⟩ (.int .i64 N)).setCell ⟨db, 2, none⟩ (.string t)).setCell ⟨db, 3, none⟩ (.slice none 0 0)) from dat_put HD7.out k N t)
    have HE8 := Lib.hid (show EvR w ((((w7.setCell ⟨db, 0, none⟩ (.int .i64 k)).setCell ⟨db, 1, none⟩ (.int .i64 N)).setCell ⟨db, 2, none⟩ (.string t)).setCell ⟨db, 3, none⟩ (.slice none 0 0)) from ⟨blk_far (blk_far (blk_far (blk_far HE7.out.res (by show w.heap.size ≠ db; omega) _) (by show w.heap.size ≠ db; omega) _) (by show w.heap.size ≠ db; omega) _) (by show w.heap.size ≠ db; omega) _, below_set (below_set (below_set (below_set HE7.out.below (by omega)) (by omega)) (by omega)) (by omega)⟩)
    clear p0 p1 p2 p3 z0 z1 z2 z3 HE7 HD7
    generalize ((((w7.setCell ⟨db, 0, none⟩ (.int .i64 k)).setCell ⟨db, 1, none⟩ (.int .i64 N)).setCell ⟨db, 2, none⟩ (.string t)).setCell ⟨db, 3, none⟩ (.slice none 0 0)) = w8 at HD8 HE8 ⊢
    have r0 : w8.cell? ⟨w.heap.size, 0, none⟩ = some (.int .i64 0) := blk_cell HE8.out.res 0
    have s0 := blk_frozen HE8.out.res 0
    have r1 : w8.cell? ⟨w.heap.size, 1, none⟩ = some (.int .i64 0) := blk_cell HE8.out.res 1
    have s1 := blk_frozen HE8.out.res 1
    have r2 : w8.cell? ⟨w.heap.size, 2, none⟩ = some (.string ⟨#[]⟩) := blk_cell HE8.out.res 2
    have s2 := blk_frozen HE8.out.res 2
    have r3 : w8.cell? ⟨w.heap.size, 3, none⟩ = some (.slice none 0 0) := blk_cell HE8.out.res 3
    have s3 := blk_frozen HE8.out.res 3
    have d0 : w8.cell? ⟨db, 0, none⟩ = some (.int .i64 k) := blk_cell HD8.out 0
    have d1 : w8.cell? ⟨db, 1, none⟩ = some (.int .i64 N) := blk_cell HD8.out 1
    have d2 : w8.cell? ⟨db, 2, none⟩ = some (.string t) := blk_cell HD8.out 2
    have d3 : w8.cell? ⟨db, 3, none⟩ = some (.slice none 0 0) := blk_cell HD8.out 3
    go_wp2_with fail
    have H4 := dat_put HE8.out.res (k) (N) (t)
    have HB4 := Lib.hid (below_put HE8.out.below (k) (N) (t))
    have q0 := blk_cell H4 0
    have q1 := blk_cell H4 1
    have q2 := blk_cell H4 2
    have q3 := blk_cell H4 3
    clear r0 r1 r2 r3 s0 s1 s2 s3
    (try simp only [Exit.inBlock, Exit.then])
    refine bodyPost_ret (by simp [results, Tryz.results10, go_sem, q0, q1, q2, q3]; rfl) rfl ?_
    exact ⟨rfl, HB4.out⟩)
set_option maxRecDepth 100000 in
set_option maxHeartbeats 8000000 in
theorem eval_math_err (n : Int) (L : List Nd) (v : Value) (w : World) (h : EvArgs L v w) (h8 : n ≤ 8) (hp : pureB n = true) (hl : L.any (fun d => !plainN d) = false) (hlen : L.length = (kindsN n).length) (hk : eqK L (kindsN n) = true) (d e : Nd) (hL : L = [d, e]) (k N : Int) (t : ByteArray) (E : Int) (hc : ∀ w', Calls Tryz.prog 33 #[.string (nameS (nameN n)), .int .i64 d.n, .int .i64 e.n] w' (Giv (.tuple #[datV k N t, kindV E]) w')) : Calls Tryz.prog 10 #[.int .i64 n, v] w (Giv (.tuple #[datV 0 0 ⟨#[]⟩, abV (nameS (nameN n)) E]) w) := by
  have hle : (L.length : Int) = ((kindsN n).length : Nat) := by omega
  have hlb : ((L.length : Int) == ((kindsN n).length : Nat)) = true := by simp [hle]
  have HLE := Lib.hid hlen
  have b8 : decide (n ≤ 8) = true := decide_eq_true h8
  have HL := Lib.hid hL
  clear hL
  have HPU := Lib.hid hp
  have HPL := Lib.hid hl
  have HKK := Lib.hid hk
  have HC := Lib.hid hc
  clear hp hl hlen hk hc
  obtain ⟨A, cap, hv, -⟩ := h.args.row
  subst hv
  have HA := Lib.hid h.args
  have HN := Lib.hid h.ok
  have HS := Lib.hid h.spt
  have HTB := Lib.hid h.tab
  have hfew := h.few
  clear h
  obtain ⟨w0, hst, hE⟩ := ev_store w
  have HE := Lib.hid hE
  clear hE
  go_enter Tryz.func10, Tryz.ntmps10
  go_wp2_with fail
  clear hst
  refine (pure_of n _).mono ?_
  rintro e w1 ⟨rfl, rfl⟩
  rw [HPU.out]
  go_wp2_with fail
  refine (contains_plain L _ (w.heap.size + 1) _ (HA.out.later HE.out.below) HE.out.plain (fun d hd => by obtain ⟨p, hp⟩ := HN.out d hd; exact ⟨p, hp.later HE.out.below⟩) hfew).mono ?_
  rintro e w2 ⟨rfl, hb2⟩
  have HE2 := Lib.hid (HE.out.step hb2)
  clear hb2
  rw [HPL.out]
  go_wp2_with fail
  refine (name_of n _ (spt_below HS.out HE2.out.below)).mono ?_
  rintro e w3 ⟨rfl, hb3⟩
  have HE3 := Lib.hid (HE2.out.step hb3)
  clear hb3
  go_wp2_with fail
  refine (kinds_of n _ HPU.out).mono ?_
  rintro e w4 ⟨⟨u, rfl, hk⟩, hb4⟩
  have HE4 := Lib.hid (HE3.out.step hb4)
  have HK := Lib.hid hk
  obtain ⟨gk, capk, rfl, -, -⟩ := hk.row
  clear hk hb4
  go_upto_region 9 with (fail)
  clear hle hlb
  have HD5 := Lib.hid (blk_new w4 (.cells #[.int .i64 0, .int .i64 0, .string ⟨#[]⟩, .slice none 0 0] 26))
  have HE5 := Lib.hid (HE4.out.step (below_alloc (Below.refl w4.heap.size w4) (.cells #[.int .i64 0, .int .i64 0, .string ⟨#[]⟩, .slice none 0 0] 26)))
  have HK5 := Lib.hid (HK.out.later (below_alloc (Below.refl w4.heap.size w4) (.cells #[.int .i64 0, .int .i64 0, .string ⟨#[]⟩, .slice none 0 0] 26)))
  generalize w4.alloc (.cells #[.int .i64 0, .int .i64 0, .string ⟨#[]⟩, .slice none 0 0] 26) = w5 at HD5 HE5 HK5 ⊢
  have hdb : w.heap.size < w4.heap.size := blk_lt HE4.out.res
  generalize w4.heap.size = db at HD5 hdb ⊢
  go_wp2_with fail
  refine (equal_kinds L (kindsN n) _ _ _ (HA.out.later HE5.out.below) HK5.out hfew HLE.out).mono ?_
  rintro e6 w6 ⟨rfl, hb6⟩
  have HE6 := Lib.hid (HE5.out.step hb6)
  have HD6 := Lib.hid (show DZ db 0 0 ⟨#[]⟩ w6 from blk_below HD5.out hb6)
  clear hb6
  rw [HKK.out]
  obtain ⟨A2, cap2, eA, hrow⟩ := HA.out.row
  injection eA with eA1 _ eA2
  subst eA1 eA2
  have hd0 : ∀ h, L[0]'h = d := by rw [HL.out]; intro h; rfl
  have he0 : ∀ h, L[1]'h = e := by rw [HL.out]; intro h; rfl
  obtain ⟨g, o, rfl, hg, -, a1, -, -⟩ := hrow 0 (by rw [HL.out]; simp)
  obtain ⟨g', o', e', -, -, b1, -, -⟩ := hrow 1 (by rw [HL.out]; simp)
  injection e' with e'
  injection e' with eg eo _
  subst eg eo
  rw [hd0] at a1
  rw [he0] at b1
  replace a1 : w.cell? ⟨g, o + 1, none⟩ = some (.int .i64 d.n) := a1
  replace b1 : w.cell? ⟨g, o + 5, none⟩ = some (.int .i64 e.n) := b1
  replace a1 := (HE6.out.below.cell (p := ⟨g, o + 1, none⟩) hg).trans a1
  replace b1 := (HE6.out.below.cell (p := ⟨g, o + 5, none⟩) hg).trans b1
  have hl2 : L.length = 2 := by rw [HL.out]; rfl
  have lt0 : (0 : Int) < (L.length : Nat) := by omega
  have lt1 : (1 : Int) < (L.length : Nat) := by omega
  clear hrow hd0 he0
  have hgd : ¬ g = db := by omega
  have hdg : ¬ db = g := by omega
  have hlg : g < w6.heap.size := Nat.lt_of_lt_of_le hg HE6.out.below.size
  go_wp2_with fail
  go_region_held3 (fun w' => w'.cell? ⟨g, o + 1, none⟩ = some (.int .i64 d.n) ∧ w'.cell? ⟨g, o + 5, none⟩ = some (.int .i64 e.n))
    (first | go_keep | exact ⟨(hb7.cell (p := ⟨g, o + 1, none⟩) hlg).trans a1, (hb7.cell (p := ⟨g, o + 5, none⟩) hlg).trans b1⟩)
    ((go_at_call 33; refine (HC.out _).mono ?_; rintro e7 w7 ⟨rfl, hb7⟩; have HE7 := Lib.hid (HE6.out.step (below_step (below_drew (Below.refl _ _)) hb7)); have HD7 := Lib.hid (show DZ db 0 0 ⟨#[]⟩ w7 from blk_below HD6.out (below_step (below_drew (Below.refl _ _)) hb7)); have p0 := blk_cell HD7.out 0; have p1 := blk_cell HD7.out 1; have p2 := blk_cell HD7.out 2; have p3 := blk_cell HD7.out 3; have z0 := blk_frozen HD7.out 0; have z1 := blk_frozen HD7.out 1; have z2 := blk_frozen HD7.out 2; have z3 := blk_frozen HD7.out 3; have v1 := (hb7.cell (p := ⟨g, o + 1, none⟩) hlg).trans a1; have v2 := (hb7.cell (p := ⟨g, o + 5, none⟩) hlg).trans b1))
  all_goals (
    go_upto_region 15 with (fail)
    have HD8 := Lib.hid (show DZ db k N t ((((w7.setCell ⟨db, 0, none⟩ (.int .i64 k)).setCell ⟨db, 1, none⟩ (.int .i64 N)).setCell ⟨db, 2, none⟩ (.string t)).setCell ⟨db, 3, none⟩ (.slice none 0 0)) from dat_put HD7.out k N t)
    have HE8 := Lib.hid (show EvR w ((((w7.setCell ⟨db, 0, none⟩ (.int .i64 k)).setCell ⟨db, 1, none⟩ (.int .i64 N)).setCell ⟨db, 2, none⟩ (.string t)).setCell ⟨db, 3, none⟩ (.slice none 0 0)) from ⟨blk_far (blk_far (blk_far (blk_far HE7.out.res (by show w.heap.size ≠ db; omega) _) (by show w.heap.size ≠ db; omega) _) (by show w.heap.size ≠ db; omega) _) (by show w.heap.size ≠ db; omega) _, below_set (below_set (below_set (below_set HE7.out.below (by omega)) (by omega)) (by omega)) (by omega)⟩)
    clear p0 p1 p2 p3 z0 z1 z2 z3 HE7 HD7
    generalize ((((w7.setCell ⟨db, 0, none⟩ (.int .i64 k)).setCell ⟨db, 1, none⟩ (.int .i64 N)).setCell ⟨db, 2, none⟩ (.string t)).setCell ⟨db, 3, none⟩ (.slice none 0 0)) = w8 at HD8 HE8 ⊢
    have r0 : w8.cell? ⟨w.heap.size, 0, none⟩ = some (.int .i64 0) := blk_cell HE8.out.res 0
    have s0 := blk_frozen HE8.out.res 0
    have r1 : w8.cell? ⟨w.heap.size, 1, none⟩ = some (.int .i64 0) := blk_cell HE8.out.res 1
    have s1 := blk_frozen HE8.out.res 1
    have r2 : w8.cell? ⟨w.heap.size, 2, none⟩ = some (.string ⟨#[]⟩) := blk_cell HE8.out.res 2
    have s2 := blk_frozen HE8.out.res 2
    have r3 : w8.cell? ⟨w.heap.size, 3, none⟩ = some (.slice none 0 0) := blk_cell HE8.out.res 3
    have s3 := blk_frozen HE8.out.res 3
    go_wp2_with fail
    have H4 := dat_put HE8.out.res (0) (0) (⟨#[]⟩)
    have HB4 := Lib.hid (below_put HE8.out.below (0) (0) (⟨#[]⟩))
    have q0 := blk_cell H4 0
    have q1 := blk_cell H4 1
    have q2 := blk_cell H4 2
    have q3 := blk_cell H4 3
    clear r0 r1 r2 r3 s0 s1 s2 s3
    (try simp only [Exit.inBlock, Exit.then])
    refine bodyPost_ret (by simp [results, Tryz.results10, go_sem, q0, q1, q2, q3]; rfl) rfl ?_
    exact ⟨rfl, HB4.out⟩)
end Go.Proofs.YtneokkhnjnomdaaGreatDoor
