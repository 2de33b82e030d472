/-
  What Eval comes to, of any arguments that are plain: one contract.
-/
import Derived.Test.YtneokkhnjnomdaaGreatDoorPrG
namespace Go.Proofs.YtneokkhnjnomdaaGreatDoor
open Go.RowKit Go.Proofs.YtneokkhnjnomdaaGreatDoorW.PrintWords

/-- What comes: a datum's kind, number and text, and the error's kind (0: none). -/
structure Res where
  k : Int
  n : Int
  t : ByteArray
  e : Int
def errR (e : Int) : Res := ⟨0, 0, ⟨#[]⟩, e⟩
def numR (p : Int × Int) : Res := if p.2 = 0 then ⟨1, p.1, ⟨#[]⟩, 0⟩ else errR p.2
def truthR (b : Bool) : Res := ⟨2, if b = true then 1 else 0, ⟨#[]⟩, 0⟩
def strR (t : ByteArray) : Res := ⟨4, 0, t, 0⟩
def parseR (p : Int × Int) : Res := if p.2 = 0 then ⟨1, p.1, ⟨#[]⟩, 0⟩ else truthR false
def charR (t : ByteArray) (i : Int) : Res := if h : 0 ≤ i ∧ i < t.size then ⟨3, ((t[i.toNat]'(by omega)).toNat : Int), ⟨#[]⟩, 0⟩ else errR 13
def appR (s t : ByteArray) : Res := if (s.size : Int) + t.size ≤ 500 then strR (s ++ t) else errR 14
def cutR (t : ByteArray) (i j : Int) : Res := if 0 ≤ i ∧ i ≤ j ∧ j ≤ t.size then strR (t.extract i.toNat j.toNat) else errR 13
def symR (t : ByteArray) : Res := if symL t.data.toList = true then ⟨5, 0, t, 0⟩ else errR 9
def byteR (i : Int) : Res := if 0 ≤ i ∧ i ≤ 255 then ⟨3, i, ⟨#[]⟩, 0⟩ else errR 13
def valR (n : Int) (d e f : Nd) : Res :=
  if n = 1 then numR (addL d.n e.n) else if n = 2 then numR (subL d.n e.n) else if n = 3 then numR (mulL d.n e.n)
  else if n = 4 then numR (quoL d.n e.n) else if n = 5 then numR (remL d.n e.n) else if n = 6 then numR (modL d.n e.n)
  else if n = 7 then truthR (d.n == e.n) else if n = 8 then truthR (decide (d.n < e.n))
  else if n = 29 then ⟨1, (d.t.size : Nat), ⟨#[]⟩, 0⟩ else if n = 30 then charR d.t e.n else if n = 31 then appR d.t e.t
  else if n = 32 then truthR (d.t.toList == e.t.toList) else if n = 33 then cutR d.t e.n f.n
  else if n = 34 then strR ⟨(Lib.itoa d.n).toArray⟩ else if n = 35 then parseR (parseL d.t.data.toList) else if n = 36 then strR d.t
  else if n = 37 then symR d.t else if n = 38 then ⟨1, d.n, ⟨#[]⟩, 0⟩ else byteR d.n
/-- The first, the second and the third argument. -/
def resL (n : Int) (L : List Nd) : Res :=
  if L.length ≠ (kindsN n).length then errR 10 else if eqK L (kindsN n) = false then errR 9 else
  match L with
  | d :: e :: f :: _ => valR n d e f
  | d :: e :: _ => valR n d e e
  | d :: _ => valR n d d d
  | [] => errR 9
def outV (n : Int) (r : Res) : Value := if r.e = 0 then .tuple #[datV r.k r.n r.t, .nilIface] else .tuple #[datV 0 0 ⟨#[]⟩, abV (nameS (nameN n)) r.e]
theorem outV_err (n e : Int) (h : e ≠ 0) : outV n (errR e) = .tuple #[datV 0 0 ⟨#[]⟩, abV (nameS (nameN n)) e] := by
  unfold outV errR
  rw [if_neg h]
theorem outV_ok (n k N : Int) (t : ByteArray) : outV n ⟨k, N, t, 0⟩ = .tuple #[datV k N t, .nilIface] := by
  unfold outV
  rw [if_pos rfl]
theorem errv_0 : errV 0 = .nilIface := rfl
theorem errv_n {k : Int} (h : k ≠ 0) : errV k = kindV k := by rw [errV, if_neg (by simpa using h)]

theorem plain_bound {L : List Nd} (h : L.any (fun d => !plainN d) = false) : ∀ d ∈ L, plainN d = true := by
  intro d hd
  have := List.any_eq_false.1 h d hd
  simpa using this
theorem plain_str_size {d : Nd} (h : plainN d = true) (hk : d.k = 4) : d.t.size ≤ 500 := by
  unfold plainN at h
  rw [hk] at h
  simp at h
  exact h.2.2

theorem len_1 {L : List Nd} (h : L.length = 1) : ∃ d, L = [d] := by
  match L, h with
  | [d], _ => exact ⟨d, rfl⟩
theorem len_2 {L : List Nd} (h : L.length = 2) : ∃ d e, L = [d, e] := by
  match L, h with
  | [d, e], _ => exact ⟨d, e, rfl⟩
theorem len_3 {L : List Nd} (h : L.length = 3) : ∃ d e f, L = [d, e, f] := by
  match L, h with
  | [d, e, f], _ => exact ⟨d, e, f, rfl⟩
theorem resL_1 {n : Int} {d : Nd} (h : 1 = (kindsN n).length) (hk : eqK [d] (kindsN n) = true) : resL n [d] = valR n d d d := by
  unfold resL
  rw [if_neg (by simpa using h), if_neg (by rw [hk]; decide)]
theorem resL_2 {n : Int} {d e : Nd} (h : 2 = (kindsN n).length) (hk : eqK [d, e] (kindsN n) = true) : resL n [d, e] = valR n d e e := by
  unfold resL
  rw [if_neg (by simpa using h), if_neg (by rw [hk]; decide)]
theorem resL_3 {n : Int} {d e f : Nd} (h : 3 = (kindsN n).length) (hk : eqK [d, e, f] (kindsN n) = true) : resL n [d, e, f] = valR n d e f := by
  unfold resL
  rw [if_neg (by simpa using h), if_neg (by rw [hk]; decide)]

theorem evalp_1 (d e : Nd) (v : Value) (w : World) (h : EvArgs [d, e] v w) (hl : [d, e].any (fun d => !plainN d) = false) (hk : eqK [d, e] (kindsN 1) = true) :
    Calls Tryz.prog 10 #[.int .i64 1, v] w (Giv (outV 1 (numR (addL d.n e.n))) w) := by
  unfold numR
  by_cases h0 : (addL d.n e.n).2 = 0
  · rw [if_pos h0, outV_ok]
    exact eval_math_ok 1 [d, e] v w h (by decide) (by decide) hl (by rfl) hk d e rfl _ _ _ (fun w' => by have := math_1 d.n e.n w'; rw [h0, errv_0] at this; exact this)
  · rw [if_neg h0, outV_err _ _ h0]
    exact eval_math_err 1 [d, e] v w h (by decide) (by decide) hl (by rfl) hk d e rfl 1 (addL d.n e.n).1 ⟨#[]⟩ _ (fun w' => by have := math_1 d.n e.n w'; rw [errv_n h0] at this; exact this)
theorem evalp_2 (d e : Nd) (v : Value) (w : World) (h : EvArgs [d, e] v w) (hl : [d, e].any (fun d => !plainN d) = false) (hk : eqK [d, e] (kindsN 2) = true) :
    Calls Tryz.prog 10 #[.int .i64 2, v] w (Giv (outV 2 (numR (subL d.n e.n))) w) := by
  unfold numR
  by_cases h0 : (subL d.n e.n).2 = 0
  · rw [if_pos h0, outV_ok]
    exact eval_math_ok 2 [d, e] v w h (by decide) (by decide) hl (by rfl) hk d e rfl _ _ _ (fun w' => by have := math_2 d.n e.n w'; rw [h0, errv_0] at this; exact this)
  · rw [if_neg h0, outV_err _ _ h0]
    exact eval_math_err 2 [d, e] v w h (by decide) (by decide) hl (by rfl) hk d e rfl 1 (subL d.n e.n).1 ⟨#[]⟩ _ (fun w' => by have := math_2 d.n e.n w'; rw [errv_n h0] at this; exact this)
theorem evalp_3 (d e : Nd) (v : Value) (w : World) (h : EvArgs [d, e] v w) (hl : [d, e].any (fun d => !plainN d) = false) (hk : eqK [d, e] (kindsN 3) = true) :
    Calls Tryz.prog 10 #[.int .i64 3, v] w (Giv (outV 3 (numR (mulL d.n e.n))) w) := by
  unfold numR
  by_cases h0 : (mulL d.n e.n).2 = 0
  · rw [if_pos h0, outV_ok]
    exact eval_math_ok 3 [d, e] v w h (by decide) (by decide) hl (by rfl) hk d e rfl _ _ _ (fun w' => by have := math_3 d.n e.n w'; rw [h0, errv_0] at this; exact this)
  · rw [if_neg h0, outV_err _ _ h0]
    exact eval_math_err 3 [d, e] v w h (by decide) (by decide) hl (by rfl) hk d e rfl 1 (mulL d.n e.n).1 ⟨#[]⟩ _ (fun w' => by have := math_3 d.n e.n w'; rw [errv_n h0] at this; exact this)
theorem evalp_4 (d e : Nd) (v : Value) (w : World) (h : EvArgs [d, e] v w) (hl : [d, e].any (fun d => !plainN d) = false) (hk : eqK [d, e] (kindsN 4) = true) :
    Calls Tryz.prog 10 #[.int .i64 4, v] w (Giv (outV 4 (numR (quoL d.n e.n))) w) := by
  unfold numR
  by_cases h0 : (quoL d.n e.n).2 = 0
  · rw [if_pos h0, outV_ok]
    exact eval_math_ok 4 [d, e] v w h (by decide) (by decide) hl (by rfl) hk d e rfl _ _ _ (fun w' => by have := math_4 d.n e.n w'; rw [h0, errv_0] at this; exact this)
  · rw [if_neg h0, outV_err _ _ h0]
    exact eval_math_err 4 [d, e] v w h (by decide) (by decide) hl (by rfl) hk d e rfl 1 (quoL d.n e.n).1 ⟨#[]⟩ _ (fun w' => by have := math_4 d.n e.n w'; rw [errv_n h0] at this; exact this)
theorem evalp_5 (d e : Nd) (v : Value) (w : World) (h : EvArgs [d, e] v w) (hl : [d, e].any (fun d => !plainN d) = false) (hk : eqK [d, e] (kindsN 5) = true) :
    Calls Tryz.prog 10 #[.int .i64 5, v] w (Giv (outV 5 (numR (remL d.n e.n))) w) := by
  unfold numR
  by_cases h0 : (remL d.n e.n).2 = 0
  · rw [if_pos h0, outV_ok]
    exact eval_math_ok 5 [d, e] v w h (by decide) (by decide) hl (by rfl) hk d e rfl _ _ _ (fun w' => by have := math_5 d.n e.n w'; rw [h0, errv_0] at this; exact this)
  · rw [if_neg h0, outV_err _ _ h0]
    exact eval_math_err 5 [d, e] v w h (by decide) (by decide) hl (by rfl) hk d e rfl 1 (remL d.n e.n).1 ⟨#[]⟩ _ (fun w' => by have := math_5 d.n e.n w'; rw [errv_n h0] at this; exact this)
theorem evalp_6 (d e : Nd) (v : Value) (w : World) (h : EvArgs [d, e] v w) (hl : [d, e].any (fun d => !plainN d) = false) (hk : eqK [d, e] (kindsN 6) = true) :
    Calls Tryz.prog 10 #[.int .i64 6, v] w (Giv (outV 6 (numR (modL d.n e.n))) w) := by
  unfold numR
  by_cases h0 : (modL d.n e.n).2 = 0
  · rw [if_pos h0, outV_ok]
    exact eval_math_ok 6 [d, e] v w h (by decide) (by decide) hl (by rfl) hk d e rfl _ _ _ (fun w' => by have := math_6 d.n e.n w'; rw [h0, errv_0] at this; exact this)
  · rw [if_neg h0, outV_err _ _ h0]
    exact eval_math_err 6 [d, e] v w h (by decide) (by decide) hl (by rfl) hk d e rfl 1 (modL d.n e.n).1 ⟨#[]⟩ _ (fun w' => by have := math_6 d.n e.n w'; rw [errv_n h0] at this; exact this)
theorem evalp_7 (d e : Nd) (v : Value) (w : World) (h : EvArgs [d, e] v w) (hl : [d, e].any (fun d => !plainN d) = false) (hk : eqK [d, e] (kindsN 7) = true) :
    Calls Tryz.prog 10 #[.int .i64 7, v] w (Giv (outV 7 (truthR (d.n == e.n))) w) := by
  unfold truthR
  rw [outV_ok]
  exact eval_math_ok 7 [d, e] v w h (by decide) (by decide) hl (by rfl) hk d e rfl _ _ _ (fun w' => math_7 d.n e.n w')
theorem evalp_8 (d e : Nd) (v : Value) (w : World) (h : EvArgs [d, e] v w) (hl : [d, e].any (fun d => !plainN d) = false) (hk : eqK [d, e] (kindsN 8) = true) :
    Calls Tryz.prog 10 #[.int .i64 8, v] w (Giv (outV 8 (truthR (decide (d.n < e.n)))) w) := by
  unfold truthR
  rw [outV_ok]
  exact eval_math_ok 8 [d, e] v w h (by decide) (by decide) hl (by rfl) hk d e rfl _ _ _ (fun w' => math_8 d.n e.n w')
theorem evalp_29 (d : Nd) (v : Value) (w : World) (h : EvArgs [d] v w) (hl : [d].any (fun d => !plainN d) = false) (hk : eqK [d] (kindsN 29) = true) :
    Calls Tryz.prog 10 #[.int .i64 29, v] w (Giv (outV 29 (⟨1, (d.t.size : Nat), ⟨#[]⟩, 0⟩)) w) := by
  rw [outV_ok]
  exact eval_text_ok 29 [d] v w h (by decide) (by decide) hl (by rfl) hk _ _ _ (fun w2 hb => text_29 d v w2 (h.args.later hb))
theorem evalp_30 (d e : Nd) (v : Value) (w : World) (h : EvArgs [d, e] v w) (hl : [d, e].any (fun d => !plainN d) = false) (hk : eqK [d, e] (kindsN 30) = true) :
    Calls Tryz.prog 10 #[.int .i64 30, v] w (Giv (outV 30 (charR d.t e.n)) w) := by
  unfold charR
  by_cases h0 : 0 ≤ e.n ∧ e.n < d.t.size
  · rw [dif_pos h0, outV_ok]
    exact eval_text_ok 30 [d, e] v w h (by decide) (by decide) hl (by rfl) hk _ _ _ (fun w2 hb => text_30 d e v w2 (h.args.later hb) h0.1 h0.2 _ (fun _ => rfl))
  · rw [dif_neg h0, outV_err _ _ (by decide)]
    by_cases h1 : e.n < 0
    · exact eval_text_err 30 [d, e] v w h (by decide) (by decide) hl (by rfl) hk 0 0 ⟨#[]⟩ _ (fun w2 hb => text_30a d e v w2 (h.args.later hb) h1)
    · exact eval_text_err 30 [d, e] v w h (by decide) (by decide) hl (by rfl) hk 0 0 ⟨#[]⟩ _ (fun w2 hb => text_30b d e v w2 (h.args.later hb) (by omega) (by omega))
theorem evalp_31 (d e : Nd) (v : Value) (w : World) (h : EvArgs [d, e] v w) (hl : [d, e].any (fun d => !plainN d) = false) (hk : eqK [d, e] (kindsN 31) = true) :
    Calls Tryz.prog 10 #[.int .i64 31, v] w (Giv (outV 31 (appR d.t e.t)) w) := by
  have p0 := plain_str_size (plain_bound hl d (by simp)) (by unfold kindsN eqK at hk; simp at hk; exact hk.1)
  have p1 := plain_str_size (plain_bound hl e (by simp)) (by unfold kindsN eqK at hk; simp at hk; exact hk.2)
  unfold appR
  by_cases h0 : (d.t.size : Int) + e.t.size ≤ 500
  · rw [if_pos h0]
    unfold strR
    rw [outV_ok]
    exact eval_text_ok 31 [d, e] v w h (by decide) (by decide) hl (by rfl) hk _ _ _ (fun w2 hb => text_31 d e v w2 (h.args.later hb) (by omega) (by omega) h0)
  · rw [if_neg h0, outV_err _ _ (by decide)]
    exact eval_text_err 31 [d, e] v w h (by decide) (by decide) hl (by rfl) hk 0 0 ⟨#[]⟩ _ (fun w2 hb => text_31a d e v w2 (h.args.later hb) (by omega) (by omega) (by omega))
theorem evalp_32 (d e : Nd) (v : Value) (w : World) (h : EvArgs [d, e] v w) (hl : [d, e].any (fun d => !plainN d) = false) (hk : eqK [d, e] (kindsN 32) = true) :
    Calls Tryz.prog 10 #[.int .i64 32, v] w (Giv (outV 32 (truthR (d.t.toList == e.t.toList))) w) := by
  unfold truthR
  rw [outV_ok]
  exact eval_text_ok 32 [d, e] v w h (by decide) (by decide) hl (by rfl) hk _ _ _ (fun w2 hb => text_32 d e v w2 (h.args.later hb))
theorem evalp_33 (d e f : Nd) (v : Value) (w : World) (h : EvArgs [d, e, f] v w) (hl : [d, e, f].any (fun d => !plainN d) = false) (hk : eqK [d, e, f] (kindsN 33) = true) :
    Calls Tryz.prog 10 #[.int .i64 33, v] w (Giv (outV 33 (cutR d.t e.n f.n)) w) := by
  unfold cutR
  by_cases h0 : 0 ≤ e.n ∧ e.n ≤ f.n ∧ f.n ≤ d.t.size
  · rw [if_pos h0]
    unfold strR
    rw [outV_ok]
    exact eval_text_ok 33 [d, e, f] v w h (by decide) (by decide) hl (by rfl) hk _ _ _ (fun w2 hb => text_33 d e f v w2 (h.args.later hb) h0.1 h0.2.1 h0.2.2)
  · rw [if_neg h0, outV_err _ _ (by decide)]
    by_cases h1 : e.n < 0
    · exact eval_text_err 33 [d, e, f] v w h (by decide) (by decide) hl (by rfl) hk 0 0 ⟨#[]⟩ _ (fun w2 hb => text_33a d e f v w2 (h.args.later hb) h1)
    by_cases h2 : f.n < e.n
    · exact eval_text_err 33 [d, e, f] v w h (by decide) (by decide) hl (by rfl) hk 0 0 ⟨#[]⟩ _ (fun w2 hb => text_33b d e f v w2 (h.args.later hb) (by omega) h2)
    · exact eval_text_err 33 [d, e, f] v w h (by decide) (by decide) hl (by rfl) hk 0 0 ⟨#[]⟩ _ (fun w2 hb => text_33c d e f v w2 (h.args.later hb) (by omega) (by omega) (by omega))
theorem evalp_34 (d : Nd) (v : Value) (w : World) (h : EvArgs [d] v w) (hl : [d].any (fun d => !plainN d) = false) (hk : eqK [d] (kindsN 34) = true) :
    Calls Tryz.prog 10 #[.int .i64 34, v] w (Giv (outV 34 (strR ⟨(Lib.itoa d.n).toArray⟩)) w) := by
  obtain ⟨p, hN⟩ := h.ok d (by simp)
  unfold strR
  rw [outV_ok]
  exact eval_text_ok 34 [d] v w h (by decide) (by decide) hl (by rfl) hk _ _ _ (fun w2 hb => text_34 d v w2 (h.args.later hb) hN.n0 hN.n1 (tab_below h.tab hb))
theorem evalp_35 (d : Nd) (v : Value) (w : World) (h : EvArgs [d] v w) (hl : [d].any (fun d => !plainN d) = false) (hk : eqK [d] (kindsN 35) = true) :
    Calls Tryz.prog 10 #[.int .i64 35, v] w (Giv (outV 35 (parseR (parseL d.t.data.toList))) w) := by
  unfold parseR
  by_cases h0 : (parseL d.t.data.toList).2 = 0
  · rw [if_pos h0, outV_ok]
    exact eval_text_ok 35 [d] v w h (by decide) (by decide) hl (by rfl) hk _ _ _ (fun w2 hb => text_35 d v w2 (h.args.later hb) _ (by rw [← h0]))
  · rw [if_neg h0]
    unfold truthR
    rw [outV_ok]
    exact eval_text_ok 35 [d] v w h (by decide) (by decide) hl (by rfl) hk _ _ _ (fun w2 hb => text_35a d v w2 (h.args.later hb) _ h0 _ rfl)
theorem evalp_36 (d : Nd) (v : Value) (w : World) (h : EvArgs [d] v w) (hl : [d].any (fun d => !plainN d) = false) (hk : eqK [d] (kindsN 36) = true) :
    Calls Tryz.prog 10 #[.int .i64 36, v] w (Giv (outV 36 (strR d.t)) w) := by
  unfold strR
  rw [outV_ok]
  exact eval_text_ok 36 [d] v w h (by decide) (by decide) hl (by rfl) hk _ _ _ (fun w2 hb => text_36 d v w2 (h.args.later hb))
theorem evalp_37 (d : Nd) (v : Value) (w : World) (h : EvArgs [d] v w) (hl : [d].any (fun d => !plainN d) = false) (hk : eqK [d] (kindsN 37) = true) :
    Calls Tryz.prog 10 #[.int .i64 37, v] w (Giv (outV 37 (symR d.t)) w) := by
  unfold symR
  by_cases h0 : symL d.t.data.toList = true
  · rw [if_pos h0, outV_ok]
    exact eval_text_ok 37 [d] v w h (by decide) (by decide) hl (by rfl) hk _ _ _ (fun w2 hb => text_37 d v w2 (h.args.later hb) h0)
  · rw [if_neg h0, outV_err _ _ (by decide)]
    exact eval_text_err 37 [d] v w h (by decide) (by decide) hl (by rfl) hk 0 0 ⟨#[]⟩ _ (fun w2 hb => text_37a d v w2 (h.args.later hb) (by simpa using h0))
theorem evalp_38 (d : Nd) (v : Value) (w : World) (h : EvArgs [d] v w) (hl : [d].any (fun d => !plainN d) = false) (hk : eqK [d] (kindsN 38) = true) :
    Calls Tryz.prog 10 #[.int .i64 38, v] w (Giv (outV 38 (⟨1, d.n, ⟨#[]⟩, 0⟩)) w) := by
  rw [outV_ok]
  exact eval_text_ok 38 [d] v w h (by decide) (by decide) hl (by rfl) hk _ _ _ (fun w2 hb => text_38 d v w2 (h.args.later hb))
theorem evalp_39 (d : Nd) (v : Value) (w : World) (h : EvArgs [d] v w) (hl : [d].any (fun d => !plainN d) = false) (hk : eqK [d] (kindsN 39) = true) :
    Calls Tryz.prog 10 #[.int .i64 39, v] w (Giv (outV 39 (byteR d.n)) w) := by
  unfold byteR
  by_cases h0 : 0 ≤ d.n ∧ d.n ≤ 255
  · rw [if_pos h0, outV_ok]
    exact eval_text_ok 39 [d] v w h (by decide) (by decide) hl (by rfl) hk _ _ _ (fun w2 hb => text_39 d v w2 (h.args.later hb) h0.1 h0.2)
  · rw [if_neg h0, outV_err _ _ (by decide)]
    by_cases h1 : d.n < 0
    · exact eval_text_err 39 [d] v w h (by decide) (by decide) hl (by rfl) hk 0 0 ⟨#[]⟩ _ (fun w2 hb => text_39a d v w2 (h.args.later hb) h1)
    · exact eval_text_err 39 [d] v w h (by decide) (by decide) hl (by rfl) hk 0 0 ⟨#[]⟩ _ (fun w2 hb => text_39b d v w2 (h.args.later hb) (by omega))

/-- Eval, of any arguments that are plain. -/
theorem eval_all (n : Int) (L : List Nd) (v : Value) (w : World) (h : EvArgs L v w) (hp : pureB n = true) (hl : L.any (fun d => !plainN d) = false) :
    Calls Tryz.prog 10 #[.int .i64 n, v] w (Giv (outV n (resL n L)) w) := by
  by_cases hlen : L.length = (kindsN n).length
  · by_cases hk : eqK L (kindsN n) = true
    · rcases pure_cases hp with rfl | rfl | rfl | rfl | rfl | rfl | rfl | rfl | rfl | rfl | rfl | rfl | rfl | rfl | rfl | rfl | rfl | rfl | rfl
      · obtain ⟨d, e, rfl⟩ := len_2 (hlen.trans (show (kindsN 1).length = 2 from rfl))
        rw [resL_2 rfl hk]
        exact evalp_1 d e v w h hl hk
      · obtain ⟨d, e, rfl⟩ := len_2 (hlen.trans (show (kindsN 2).length = 2 from rfl))
        rw [resL_2 rfl hk]
        exact evalp_2 d e v w h hl hk
      · obtain ⟨d, e, rfl⟩ := len_2 (hlen.trans (show (kindsN 3).length = 2 from rfl))
        rw [resL_2 rfl hk]
        exact evalp_3 d e v w h hl hk
      · obtain ⟨d, e, rfl⟩ := len_2 (hlen.trans (show (kindsN 4).length = 2 from rfl))
        rw [resL_2 rfl hk]
        exact evalp_4 d e v w h hl hk
      · obtain ⟨d, e, rfl⟩ := len_2 (hlen.trans (show (kindsN 5).length = 2 from rfl))
        rw [resL_2 rfl hk]
        exact evalp_5 d e v w h hl hk
      · obtain ⟨d, e, rfl⟩ := len_2 (hlen.trans (show (kindsN 6).length = 2 from rfl))
        rw [resL_2 rfl hk]
        exact evalp_6 d e v w h hl hk
      · obtain ⟨d, e, rfl⟩ := len_2 (hlen.trans (show (kindsN 7).length = 2 from rfl))
        rw [resL_2 rfl hk]
        exact evalp_7 d e v w h hl hk
      · obtain ⟨d, e, rfl⟩ := len_2 (hlen.trans (show (kindsN 8).length = 2 from rfl))
        rw [resL_2 rfl hk]
        exact evalp_8 d e v w h hl hk
      · obtain ⟨d, rfl⟩ := len_1 (hlen.trans (show (kindsN 29).length = 1 from rfl))
        rw [resL_1 rfl hk]
        exact evalp_29 d v w h hl hk
      · obtain ⟨d, e, rfl⟩ := len_2 (hlen.trans (show (kindsN 30).length = 2 from rfl))
        rw [resL_2 rfl hk]
        exact evalp_30 d e v w h hl hk
      · obtain ⟨d, e, rfl⟩ := len_2 (hlen.trans (show (kindsN 31).length = 2 from rfl))
        rw [resL_2 rfl hk]
        exact evalp_31 d e v w h hl hk
      · obtain ⟨d, e, rfl⟩ := len_2 (hlen.trans (show (kindsN 32).length = 2 from rfl))
        rw [resL_2 rfl hk]
        exact evalp_32 d e v w h hl hk
      · obtain ⟨d, e, f, rfl⟩ := len_3 (hlen.trans (show (kindsN 33).length = 3 from rfl))
        rw [resL_3 rfl hk]
        exact evalp_33 d e f v w h hl hk
      · obtain ⟨d, rfl⟩ := len_1 (hlen.trans (show (kindsN 34).length = 1 from rfl))
        rw [resL_1 rfl hk]
        exact evalp_34 d v w h hl hk
      · obtain ⟨d, rfl⟩ := len_1 (hlen.trans (show (kindsN 35).length = 1 from rfl))
        rw [resL_1 rfl hk]
        exact evalp_35 d v w h hl hk
      · obtain ⟨d, rfl⟩ := len_1 (hlen.trans (show (kindsN 36).length = 1 from rfl))
        rw [resL_1 rfl hk]
        exact evalp_36 d v w h hl hk
      · obtain ⟨d, rfl⟩ := len_1 (hlen.trans (show (kindsN 37).length = 1 from rfl))
        rw [resL_1 rfl hk]
        exact evalp_37 d v w h hl hk
      · obtain ⟨d, rfl⟩ := len_1 (hlen.trans (show (kindsN 38).length = 1 from rfl))
        rw [resL_1 rfl hk]
        exact evalp_38 d v w h hl hk
      · obtain ⟨d, rfl⟩ := len_1 (hlen.trans (show (kindsN 39).length = 1 from rfl))
        rw [resL_1 rfl hk]
        exact evalp_39 d v w h hl hk
    · have hr : resL n L = errR 9 := by
        unfold resL
        rw [if_neg (by simpa using hlen), if_pos (by simpa using hk)]
      rw [hr, outV_err _ _ (by decide)]
      exact eval_type n L v w h hp hl hlen (by simpa using hk)
  · have hr : resL n L = errR 10 := by
      unfold resL
      rw [if_pos hlen]
    rw [hr, outV_err _ _ (by decide)]
    exact eval_arity n L v w h hp hl hlen
end Go.Proofs.YtneokkhnjnomdaaGreatDoor
