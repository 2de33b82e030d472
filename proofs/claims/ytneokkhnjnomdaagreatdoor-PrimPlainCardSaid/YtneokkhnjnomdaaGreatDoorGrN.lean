/-
  What comes, of plain data, is plain; Eval of one datum of the law's.
-/
import Derived.Test.YtneokkhnjnomdaaGreatDoorGrD
import Derived.Test.YtneokkhnjnomdaaGreatDoorPShx10
import Derived.Lib.ItoaLen
namespace Go.Proofs.YtneokkhnjnomdaaGreatDoor
open Go.RowKit Go.Proofs.YtneokkhnjnomdaaGreatDoor.PSh Go.Proofs.YtneokkhnjnomdaaGreatDoorW.PrintWords Go.ChangeShapes Go.WideShapes Go.ChangeAt

theorem dig_ofNat {d : Nat} (h : d < 10) : digB (UInt8.ofNat (48 + d)) = true ∧ digV (UInt8.ofNat (48 + d)) = d := by
  have e : (UInt8.ofNat (48 + d)).toNat = 48 + d := by rw [UInt8.toNat_ofNat']; omega
  rw [digB_iff, digV, e]
  omega

theorem dec_facts : ∀ (u : Nat), (Lib.decDigits u).all digB = true ∧ valL (Lib.decDigits u) = u ∧ 1 ≤ (Lib.decDigits u).length := by
  intro u
  induction u using Nat.strongRecOn with
  | _ u ih =>
    by_cases h : u < 10
    · rw [dec_small h]
      obtain ⟨h1, h2⟩ := dig_ofNat h
      generalize UInt8.ofNat (48 + u) = c at h1 h2
      refine ⟨by simp [h1], ?_, by simp⟩
      simp [valL, h2]
    · rw [dec_big h]
      obtain ⟨i1, i2, i3⟩ := ih (u / 10) (by omega)
      obtain ⟨h1, h2⟩ := dig_ofNat (d := u % 10) (by omega)
      generalize UInt8.ofNat (48 + u % 10) = c at h1 h2
      refine ⟨?_, ?_, by simp⟩
      · rw [List.all_append, i1]; simp [h1]
      · rw [valL_snoc, i2, h2]; omega

theorem dec_head (u : Nat) : bodyL (Lib.decDigits u) = Lib.decDigits u ∧ negL (Lib.decDigits u) = false := by
  obtain ⟨h1, _, h3⟩ := dec_facts u
  generalize Lib.decDigits u = l at h1 h3
  rcases l with _ | ⟨c, r⟩
  · simp at h3
  · rw [List.all_cons, Bool.and_eq_true, digB_iff] at h1
    obtain ⟨⟨a, b⟩, _⟩ := h1
    have h45 : c ≠ 45 := fun e => by subst e; exact absurd a (by decide)
    have h43 : c ≠ 43 := fun e => by subst e; exact absurd a (by decide)
    simp [bodyL, negL, h45, h43]

theorem dec_len (u : Nat) (h : u < 18446744073709551616) : (Lib.decDigits u).length ≤ 20 := by
  rw [Lib.decDigits_length]
  exact Lib.nDigits_le20 u h

/-- A number's text is read as the number. -/
theorem parse_itoa (n : Int) (h0 : -9223372036854775808 ≤ n) (h1 : n ≤ 9223372036854775807) : parseL (Lib.itoa n) = fitL n := by
  unfold parseL Lib.itoa
  by_cases hn : n < 0
  · obtain ⟨d1, d2, d3⟩ := dec_facts n.natAbs
    have hl := dec_len n.natAbs (by omega)
    rw [if_pos hn, show bodyL (45 :: Lib.decDigits n.natAbs) = Lib.decDigits n.natAbs from rfl, show negL (45 :: Lib.decDigits n.natAbs) = true from rfl]
    have hok : okL (Lib.decDigits n.natAbs) = true := by simp [okL, d1, d3]; omega
    rw [if_pos hok, if_pos rfl, d2]
    congr 1
    omega
  · obtain ⟨d1, d2, d3⟩ := dec_facts n.toNat
    obtain ⟨e1, e2⟩ := dec_head n.toNat
    have hl := dec_len n.toNat (by omega)
    rw [if_neg hn, e1, e2]
    have hok : okL (Lib.decDigits n.toNat) = true := by simp [okL, d1, d3]; omega
    rw [if_pos hok, if_neg (by decide), d2]
    congr 1
    omega

theorem ev_one (n : Int) (x : Nd) (R : Res) (hm : x.m = 0) (h0 : -9223372036854775808 ≤ x.n) (h1 : x.n ≤ 9223372036854775807) (hpl : plainN x = true) (hp : pureB n = true) (hr : resL n [x] = R) (v : Value) (w : World) (hL : Laid18 w) (hA : ArgsAt [x] v w) :
    Calls Tryz.prog 10 #[.int .i64 n, v] w (Giv (outV n R) w) := by
  have h := eval_all n [x] v w (ev_args hL hA (by simp) (fun d hd => by obtain rfl := List.mem_singleton.1 hd; exact ⟨hm, h0, h1⟩)) hp (by simp [hpl])
  rw [hr] at h
  exact h
theorem ev_one_bad (n : Int) (x : Nd) (hm : x.m = 0) (h0 : -9223372036854775808 ≤ x.n) (h1 : x.n ≤ 9223372036854775807) (hpl : plainN x = false) (hp : pureB n = true) (v : Value) (w : World) (hL : Laid18 w) (hA : ArgsAt [x] v w) :
    Calls Tryz.prog 10 #[.int .i64 n, v] w (Giv (.tuple #[datV 0 0 ⟨#[]⟩, kindV 2]) w) :=
  eval_unplain n [x] v w (ev_args hL hA (by simp) (fun d hd => by obtain rfl := List.mem_singleton.1 hd; exact ⟨hm, h0, h1⟩)) hp (by simp [hpl])

/-- Something that came is plain. -/
def goodR (r : Res) : Prop := r.e = 0 → plainN ⟨r.k, r.n, r.t, none, 0, 0⟩ = true
theorem good_err (e : Int) (h : e ≠ 0) : goodR (errR e) := fun h0 => absurd h0 h
theorem good_n (n : Int) (h : Num n = true) : goodR ⟨1, n, ⟨#[]⟩, 0⟩ := fun _ => by
  have := plain_num n
  rw [h] at this
  exact this
theorem good_num (p : Int × Int) (h : p.2 = 0 → Num p.1 = true) : goodR (numR p) := by
  unfold numR
  split
  · rename_i h0
    exact good_n _ (h h0)
  · rename_i h0
    exact good_err _ h0
theorem good_truth (b : Bool) : goodR (truthR b) := fun _ => by cases b <;> rfl
theorem good_str (t : ByteArray) (h : t.size ≤ 500) : goodR (strR t) := fun _ => by
  have := plain_str t
  rw [decide_eq_true h] at this
  exact this
theorem good_char (i : Int) (h0 : 0 ≤ i) (h1 : i ≤ 255) : goodR ⟨3, i, ⟨#[]⟩, 0⟩ := fun _ => by
  simp [plainN, h0, h1]
theorem fit_num (x : Int) : (fitL x).2 = 0 → Num (fitL x).1 = true := by
  unfold fitL
  split
  · rename_i h; intro _; exact h
  · intro h; exact absurd h (show (11 : Int) ≠ 0 by decide)
theorem two_num {P : Prop} (h : ((0, 2) : Int × Int).2 = 0) : P := absurd h (show (2 : Int) ≠ 0 by decide)
theorem div_num (f : Int × Int) (a b : Int) (hf : Num a = true → Num b = true → b ≠ 0 → f.2 = 0 → Num f.1 = true) : (divWith f a b).2 = 0 → Num (divWith f a b).1 = true := by
  unfold divWith
  split
  · rename_i h
    simp only [Bool.and_eq_true] at h
    split
    · intro h0; exact absurd h0 (show (12 : Int) ≠ 0 by decide)
    · rename_i hb
      exact hf h.1 h.2 (by simpa using hb)
  · intro h0; exact two_num h0
theorem parse_num (l : List UInt8) : (parseL l).2 = 0 → Num (parseL l).1 = true := by
  unfold parseL
  split
  · exact fit_num _
  · intro h; exact absurd h (show (6 : Int) ≠ 0 by decide)
theorem good_parse (p : Int × Int) (h : p.2 = 0 → Num p.1 = true) : goodR (parseR p) := by
  unfold parseR
  split
  · rename_i h0
    exact good_n _ (h h0)
  · exact good_truth _
theorem sym_size {t : ByteArray} (h : symL t.data.toList = true) : t.size ≤ 60 := by
  unfold symL at h
  simp only [Bool.and_eq_true, decide_eq_true_eq] at h
  have h1 := h.1.1.1.2
  have e : t.size = t.data.toList.length := by simp
  omega
theorem itoa_size {n : Int} (h : Num n = true) : (⟨(Lib.itoa n).toArray⟩ : ByteArray).size ≤ 500 := by
  rw [num_iff] at h
  have h1 := Lib.itoa_length_le n (by omega) (by omega)
  have e : (⟨(Lib.itoa n).toArray⟩ : ByteArray).size = (Lib.itoa n).length := by show (Lib.itoa n).toArray.size = _; simp
  omega
theorem kind_1 {x : Nd} {n : Int} {k : Int} (hk : eqK [x] (kindsN n) = true) (h : kindsN n = [k]) : x.k = k := by
  unfold eqK at hk
  rw [h] at hk
  simpa using hk
theorem kind_3 {x y z : Nd} {n : Int} {k j i : Int} (hk : eqK [x, y, z] (kindsN n) = true) (h : kindsN n = [k, j, i]) : x.k = k ∧ y.k = j ∧ z.k = i := by
  unfold eqK at hk
  rw [h] at hk
  simpa using hk
theorem plain_k1 {x : Nd} (h : plainN x = true) (hk : x.k = 1) : Num x.n = true := by
  unfold plainN at h
  rw [hk] at h
  rw [num_iff]
  simp at h
  omega
theorem plain_k3 {x : Nd} (h : plainN x = true) (hk : x.k = 3) : 0 ≤ x.n ∧ x.n ≤ 255 := by
  unfold plainN at h
  rw [hk] at h
  simp at h
  exact h.2.2
theorem plain_k5 {x : Nd} (h : plainN x = true) (hk : x.k = 5) : symL x.t.data.toList = true := by
  unfold plainN at h
  rw [hk] at h
  simp at h
  exact h.2.2

theorem goodL (n : Int) (L : List Nd) (hp : pureB n = true) (hpl : ∀ x ∈ L, plainN x = true) : goodR (resL n L) := by
  by_cases hlen : L.length = (kindsN n).length
  · by_cases hk : eqK L (kindsN n) = true
    · rcases pure_cases hp with rfl | rfl | rfl | rfl | rfl | rfl | rfl | rfl | rfl | rfl | rfl | rfl | rfl | rfl | rfl | rfl | rfl | rfl | rfl
      · obtain ⟨d, e, rfl⟩ := len_2 (hlen.trans (show (kindsN 1).length = 2 from rfl))
        rw [resL_2 rfl hk]
        exact good_num _ (fun h => by revert h; unfold addL; split; exact fit_num _; exact fun h => two_num h)
      · obtain ⟨d, e, rfl⟩ := len_2 (hlen.trans (show (kindsN 2).length = 2 from rfl))
        rw [resL_2 rfl hk]
        exact good_num _ (fun h => by revert h; unfold subL; split; exact fit_num _; exact fun h => two_num h)
      · obtain ⟨d, e, rfl⟩ := len_2 (hlen.trans (show (kindsN 3).length = 2 from rfl))
        rw [resL_2 rfl hk]
        exact good_num _ (fun h => by revert h; unfold mulL; split; exact fit_num _; exact fun h => two_num h)
      · obtain ⟨d, e, rfl⟩ := len_2 (hlen.trans (show (kindsN 4).length = 2 from rfl))
        rw [resL_2 rfl hk]
        exact good_num _ (div_num _ _ _ (fun _ _ _ => fit_num _))
      · obtain ⟨d, e, rfl⟩ := len_2 (hlen.trans (show (kindsN 5).length = 2 from rfl))
        rw [resL_2 rfl hk]
        exact good_num _ (div_num _ _ _ (fun ha hb h0 _ => (tmod_bound ha hb h0).1))
      · obtain ⟨d, e, rfl⟩ := len_2 (hlen.trans (show (kindsN 6).length = 2 from rfl))
        rw [resL_2 rfl hk]
        exact good_num _ (div_num _ _ _ (fun ha hb h0 _ => (tmod_bound ha hb h0).2))
      · obtain ⟨d, e, rfl⟩ := len_2 (hlen.trans (show (kindsN 7).length = 2 from rfl))
        rw [resL_2 rfl hk]
        exact good_truth _
      · obtain ⟨d, e, rfl⟩ := len_2 (hlen.trans (show (kindsN 8).length = 2 from rfl))
        rw [resL_2 rfl hk]
        exact good_truth _
      · obtain ⟨d, rfl⟩ := len_1 (hlen.trans (show (kindsN 29).length = 1 from rfl))
        rw [resL_1 rfl hk]
        have h1 := plain_str_size (hpl d (by simp)) (kind_1 hk rfl)
        exact good_n _ (by rw [num_iff]; omega)
      · obtain ⟨d, e, rfl⟩ := len_2 (hlen.trans (show (kindsN 30).length = 2 from rfl))
        rw [resL_2 rfl hk]
        show goodR (charR d.t e.n)
        unfold charR
        split
        · rename_i h0
          have := (d.t[e.n.toNat]'(by omega)).toNat_lt
          exact good_char _ (by omega) (by omega)
        · exact good_err 13 (by decide)
      · obtain ⟨d, e, rfl⟩ := len_2 (hlen.trans (show (kindsN 31).length = 2 from rfl))
        rw [resL_2 rfl hk]
        show goodR (appR d.t e.t)
        unfold appR
        split
        · rename_i h0
          exact good_str _ (by rw [ByteArray.size_append]; omega)
        · exact good_err 14 (by decide)
      · obtain ⟨d, e, rfl⟩ := len_2 (hlen.trans (show (kindsN 32).length = 2 from rfl))
        rw [resL_2 rfl hk]
        exact good_truth _
      · obtain ⟨d, e, f, rfl⟩ := len_3 (hlen.trans (show (kindsN 33).length = 3 from rfl))
        rw [resL_3 rfl hk]
        have h1 := plain_str_size (hpl d (by simp)) (kind_3 hk rfl).1
        show goodR (cutR d.t e.n f.n)
        unfold cutR
        split
        · exact good_str _ (by rw [ByteArray.size_extract]; omega)
        · exact good_err 13 (by decide)
      · obtain ⟨d, rfl⟩ := len_1 (hlen.trans (show (kindsN 34).length = 1 from rfl))
        rw [resL_1 rfl hk]
        exact good_str _ (itoa_size (plain_k1 (hpl d (by simp)) (kind_1 hk rfl)))
      · obtain ⟨d, rfl⟩ := len_1 (hlen.trans (show (kindsN 35).length = 1 from rfl))
        rw [resL_1 rfl hk]
        exact good_parse _ (parse_num _)
      · obtain ⟨d, rfl⟩ := len_1 (hlen.trans (show (kindsN 36).length = 1 from rfl))
        rw [resL_1 rfl hk]
        have h1 := sym_size (plain_k5 (hpl d (by simp)) (kind_1 hk rfl))
        exact good_str _ (by omega)
      · obtain ⟨d, rfl⟩ := len_1 (hlen.trans (show (kindsN 37).length = 1 from rfl))
        rw [resL_1 rfl hk]
        show goodR (symR d.t)
        unfold symR
        split
        · rename_i h0
          intro _
          simp [plainN, h0]
        · exact good_err 9 (by decide)
      · obtain ⟨d, rfl⟩ := len_1 (hlen.trans (show (kindsN 38).length = 1 from rfl))
        rw [resL_1 rfl hk]
        have h1 := plain_k3 (hpl d (by simp)) (kind_1 hk rfl)
        exact good_n _ (by rw [num_iff]; omega)
      · obtain ⟨d, rfl⟩ := len_1 (hlen.trans (show (kindsN 39).length = 1 from rfl))
        rw [resL_1 rfl hk]
        show goodR (byteR d.n)
        unfold byteR
        split
        · rename_i h0
          exact good_char _ h0.1 h0.2
        · exact good_err 13 (by decide)
    · have hr : resL n L = errR 9 := by
        unfold resL
        rw [if_neg (by simpa using hlen), if_pos (by simpa using hk)]
      rw [hr]
      exact good_err 9 (by decide)
  · rw [res_len hlen]
    exact good_err 10 (by decide)

theorem plain_bare {k n : Int} {t : ByteArray} (h : plainN ⟨k, n, t, none, 0, 0⟩ = true) : plainX ⟨k, n, t, []⟩ = true := by
  rw [← h]
  exact (plain_nd (x := ⟨k, n, t, []⟩) ⟨rfl, rfl, rfl, rfl⟩).symm
theorem plain_leaf (k n : Int) (t : ByteArray) (w : World) (h : plainN ⟨k, n, t, none, 0, 0⟩ = true) : Calls Tryz.prog 9 #[datV k n t] w (Giv (.bool true) w) := by
  have hf := plain_f ⟨k, n, t, []⟩ (5 * szD ⟨k, n, t, []⟩) (by rw [prt, prtL]; omega) (Nat.le_refl _)
  rw [plain_bare h] at hf
  exact (spindleref18_Plain.calls (5 * szD ⟨k, n, t, []⟩) k n t none 0 [] true w (row_none w none) (Nat.le_refl _) hf).mono fun _ _ h => ⟨h.1, h.2⟩
theorem same_f (k n : Int) (t : ByteArray) : spindleref08_Same.f 3 k n t [] k n t [] = some true := by
  simp [spindleref08_Same.f, spindleref08_Same.j0, spindleref08_Same.l0]
theorem same_leaf (k n : Int) (t : ByteArray) (w : World) : Calls Tryz.prog 13 #[datV k n t, datV k n t] w (Giv (.bool true) w) :=
  (spindleref08_Same.calls 3 k n t none 0 [] k n t none 0 [] true w (row_none w none) (Nat.le_refl _) (row_none w none) (Nat.le_refl _) (same_f k n t)).mono fun _ _ h => ⟨h.1, h.2⟩
end Go.Proofs.YtneokkhnjnomdaaGreatDoor
