/-
  The lexer reads what begins with a #: all of it.
  The lexer's answer, plain: the token at a place, all tokens.
  The lexer's plain laws: strings, numbers.
  The lexer: a token of a byte, or of two; the streams are as they were.
  The lexer reads a token.
  The lexer at the text's end.
  The lexer reads a token of a byte, or of two.
  The lexer reads a token that begins with a #.
  The lexer reads a token that is a string.
  The lexer reads a token that is a word.
  The lexer reads a token: whatever it is.
  The lexer's Next.
-/
import Derived.Test.YthighbbikpnpgaaDoorLB3
import Derived.Handy
import Derived.Deep.RegionHeld3

/-! LeM -/
namespace Go.Proofs.YthighbbikpnpgaaDoor
open Go.RowKit Go.Proofs.YthighbbikpnpgaaDoorW.PrintWords

def sharpL (T : ByteArray) (i : Nat) : List UInt8 → Int × Int × Int × Nat
  | [] => (6, 0, 0, 0)
  | x :: r =>
    if x = 116 ∨ x = 102 then (if endAt T (i + 2) = true then (0, 10, if x = 116 then 1 else 0, i + 2) else (6, 0, 0, 0))
    else if x = 92 then
      (if 32 < (r.headD 0).toNat ∧ endAt T (i + 3) = true then (0, 11, ((r.headD 0).toNat : Int), i + 3) else namesP T i r names4)
    else (6, 0, 0, 0)

theorem drop_extract (T : ByteArray) (i : Nat) : T.extract i T.size = ⟨⟨T.data.toList.drop i⟩⟩ := by
  apply ByteArray.ext
  apply Array.ext'
  rw [extract_list]
  have : T.data.toList.length = T.size := by simp
  rw [List.take_of_length_le (by rw [List.length_drop]; omega)]

theorem sharp_any (b tb : Nat) (T : ByteArray) (i : Nat) (ln cl k tl tc nx : Int) (w : World) (h : LexAt b T i ln cl w) (ht : TokAt tb k 0 ⟨#[]⟩ tl tc nx w) (hi : i < T.size) (hT : T.size ≤ 1000000000) :
    Calls Tryd.prog 86 #[.pointer (some ⟨b, 0, none⟩), .pointer (some ⟨tb, 0, none⟩)] w (SharpTo b tb T i ln cl tl tc (sharpL T i (T.data.toList.drop (i + 1))) w) := by
  have hE := drop_extract T (i + 1)
  generalize T.data.toList.drop (i + 1) = L at hE ⊢
  match L, hE with
  | [], hE => exact sharp_none b tb T i ln cl k tl tc nx w h ht hi hT hE 0 0 0
  | x :: r, hE =>
    rw [sharpL]
    by_cases h1 : x = 116 ∨ x = 102
    · rw [if_pos h1]
      by_cases h2 : endAt T (i + 2) = true
      · rw [if_pos h2]
        exact sharp_tf b tb T i ln cl k tl tc nx w h ht hi hT x r hE h1 h2
      · rw [if_neg h2]
        exact sharp_tfbad b tb T i ln cl k tl tc nx w h ht hi hT x r hE h1 (by simpa using h2) 0 0 0
    · rw [if_neg h1]
      by_cases h3 : x = 92
      · rw [if_pos h3]
        subst h3
        have hx : (⟨⟨92 :: r⟩⟩ : ByteArray).extract 1 (⟨⟨92 :: r⟩⟩ : ByteArray).size = ⟨⟨r⟩⟩ := by
          rw [drop_extract]; rfl
        match r, hE, hx with
        | [], hE, hx =>
          rw [if_neg (by simp)]
          exact sharp_names1 b tb T i ln cl k tl tc nx w h ht hi hT ⟨⟨[92]⟩⟩ ⟨⟨[]⟩⟩ [] hE hx rfl (fun _ => rfl) rfl
        | y :: s, hE, hx =>
          by_cases h4 : 32 < y.toNat
          · by_cases h5 : endAt T (i + 3) = true
            · rw [if_pos (show 32 < ((y :: s).headD 0).toNat ∧ endAt T (i + 3) = true from ⟨h4, h5⟩)]
              exact sharp_char b tb T i ln cl k tl tc nx w h ht hi hT y s hE h4 h5
            · rw [if_neg (show ¬ (32 < ((y :: s).headD 0).toNat ∧ endAt T (i + 3) = true) from fun h => h5 h.2)]
              exact sharp_names3 b tb T i ln cl k tl tc nx w h ht hi hT ⟨⟨92 :: y :: s⟩⟩ ⟨⟨y :: s⟩⟩ (y :: s) hE hx rfl (fun _ => rfl) (by show 2 ≤ (y :: s).length + 1; simp) y (fun _ => rfl) h4 (by simpa using h5)
          · rw [if_neg (show ¬ (32 < ((y :: s).headD 0).toNat ∧ endAt T (i + 3) = true) from fun h => h4 h.1)]
            exact sharp_names2 b tb T i ln cl k tl tc nx w h ht hi hT ⟨⟨92 :: y :: s⟩⟩ ⟨⟨y :: s⟩⟩ (y :: s) hE hx rfl (fun _ => rfl) (by show 2 ≤ (y :: s).length + 1; simp) y (fun _ => rfl) (by omega)
      · rw [if_neg h3]
        exact sharp_other b tb T i ln cl k tl tc nx w h ht hi hT x r hE (fun e => h1 (.inl e)) (fun e => h1 (.inr e)) h3 0 0 0
end Go.Proofs.YthighbbikpnpgaaDoor

/-! LeN -/
namespace Go.Proofs.YthighbbikpnpgaaDoor
open Go.RowKit Go.Proofs.YthighbbikpnpgaaDoorW.PrintWords

structure TokR where
  k : Int
  n : Int
  x : List UInt8
  ln : Int
  cl : Int
  nx : Nat

def twoP (T : ByteArray) (k : Nat) : UInt8 := if h : k < T.size then T[k]'h else 0

/-- The token that begins at a place with a byte: the error's number, the token. -/
def tokX (T : ByteArray) (j : Nat) (x : UInt8) (l c : Int) : Int × TokR :=
  if 0 < (oneP x (twoP T (j + 1))).2 then (0, ⟨(oneP x (twoP T (j + 1))).1, 0, [], l, c, j + (oneP x (twoP T (j + 1))).2.toNat⟩)
  else if x = 35 then ((sharpL T j (T.data.toList.drop (j + 1))).1, ⟨(sharpL T j (T.data.toList.drop (j + 1))).2.1, (sharpL T j (T.data.toList.drop (j + 1))).2.2.1, [], l, c, (sharpL T j (T.data.toList.drop (j + 1))).2.2.2⟩)
  else if x = 34 then (strE (strP (T.data.toList.drop (j + 1)) [] (j + 1)), ⟨12, 0, (strP (T.data.toList.drop (j + 1)) [] (j + 1)).2.1, l, c, (strP (T.data.toList.drop (j + 1)) [] (j + 1)).2.2 + 1⟩)
  else (wordE (wordAt T j), ⟨(wordK (wordAt T j)).1, (wordK (wordAt T j)).2.1, (wordK (wordAt T j)).2.2, l, c, j + (wordAt T j).length⟩)

def tokB (T : ByteArray) (j : Nat) (l c : Int) : Int × TokR :=
  if h : j < T.size then tokX T j (T[j]'h) l c else (0, ⟨14, 0, [], l, c, j⟩)

def tokP (T : ByteArray) (i : Nat) (ln cl : Int) : Int × TokR :=
  tokB T (skipR (T.data.toList.drop i) false i ln cl).1 (skipR (T.data.toList.drop i) false i ln cl).2.1 (skipR (T.data.toList.drop i) false i ln cl).2.2

def whereL : List UInt8 → Int → Int → Int × Int
  | [], ln, cl => (ln, cl)
  | x :: r, ln, cl => whereL r (lineOf x ln) (colOf x cl)

theorem whereL_append : ∀ (a b : List UInt8) (ln cl : Int), whereL (a ++ b) ln cl = whereL b (whereL a ln cl).1 (whereL a ln cl).2 := by
  intro a
  induction a with
  | nil => intro b ln cl; rfl
  | cons x r ih => intro b ln cl; rw [List.cons_append, whereL, whereL, ih]

theorem whereL_line : ∀ (a : List UInt8) (ln cl : Int), ln ≤ (whereL a ln cl).1 ∧ (whereL a ln cl).1 ≤ ln + a.length := by
  intro a
  induction a with
  | nil => intro ln cl; simp [whereL]
  | cons x r ih =>
    intro ln cl
    rw [whereL]
    have := ih (lineOf x ln) (colOf x cl)
    have h1 : lineOf x ln = ln ∨ lineOf x ln = ln + 1 := by unfold lineOf; split <;> simp
    simp only [List.length_cons]
    omega

theorem whereL_col : ∀ (a : List UInt8) (ln cl : Int), 0 ≤ cl → 0 ≤ (whereL a ln cl).2 ∧ (whereL a ln cl).2 ≤ cl + a.length := by
  intro a
  induction a with
  | nil => intro ln cl h; simp [whereL, h]
  | cons x r ih =>
    intro ln cl h
    rw [whereL]
    have h1 : colOf x cl = 1 ∨ colOf x cl = cl + 1 := by unfold colOf; split <;> simp
    have := ih (lineOf x ln) (colOf x cl) (by omega)
    simp only [List.length_cons]
    omega

theorem skipR_spec : ∀ (l : List UInt8) (note : Bool) (k : Nat) (ln cl : Int), ∃ m, m ≤ l.length ∧ skipR l note k ln cl = (k + m, whereL (l.take m) ln cl) ∧ (∀ h : m < l.length, blankB (l[m]'h) = false ∧ l[m]'h ≠ 59) := by
  intro l
  induction l with
  | nil => intro note k ln cl; exact ⟨0, by simp, rfl, fun h => absurd h (by simp)⟩
  | cons x r ih =>
    intro note k ln cl
    rw [skipR]
    by_cases hc : (note || x == 59) = false ∧ blankB x = false
    · rw [if_pos hc]
      refine ⟨0, by simp, rfl, fun _ => ⟨hc.2, fun e => ?_⟩⟩
      have h1 := hc.1
      simp at e h1
      exact h1.2 e
    · rw [if_neg hc]
      obtain ⟨m, h1, h2, h3⟩ := ih ((note || x == 59) && !(x == 10)) (k + 1) (lineOf x ln) (colOf x cl)
      refine ⟨m + 1, by simpa using h1, ?_, fun h => ?_⟩
      · rw [h2, List.take_succ_cons, whereL, show k + 1 + m = k + (m + 1) by omega]
      · exact h3 (by simpa using h)

theorem strP_place : ∀ (l acc : List UInt8) (k : Nat), (strP l acc k).1 = 0 → k ≤ (strP l acc k).2.2 ∧ (strP l acc k).2.2 < k + l.length := by
  intro l acc k
  induction l, acc, k using strP.induct with
  | case1 acc k => intro h; simp [strP] at h
  | case2 acc k => intro h; simp [strP]
  | case3 acc k h1 => intro h; simp [strP] at h
  | case4 acc k x h1 h2 => intro h; simp [strP, h1, h2] at h
  | case5 acc k y r => intro h; simp [strP]
  | case6 acc k y r h1 h2 ih => intro h; obtain ⟨d, hd⟩ := Option.isSome_iff_exists.1 h1; rw [strP_esc hd] at h ⊢; rw [hd] at ih; have := ih h; simp only [Option.getD_some] at this; simp only [List.length_cons]; omega
  | case7 acc k y r h1 h2 => intro h; simp [strP, h1] at h
  | case8 acc k x y r h1 h2 ih => intro h; rw [strP, if_neg h1, if_neg h2] at h ⊢; have := ih h; simp only [List.length_cons] at this ⊢; omega

theorem namesP_place (T : ByteArray) (i : Nat) (L : List UInt8) : ∀ ns, (namesP T i L ns).1 = 0 → i + 2 ≤ (namesP T i L ns).2.2.2 ∧ (namesP T i L ns).2.2.2 ≤ i + 2 + L.length := by
  intro ns
  induction ns with
  | nil => intro h; simp [namesP] at h
  | cons x r ih =>
    intro h
    rw [namesP] at h ⊢
    by_cases hf : nameFits T i L x = true
    · rw [if_pos hf]
      rw [nameFits, Bool.and_eq_true] at hf
      have h2 : x.1.isPrefixOf L = true := hf.1
      have h3 := (List.isPrefixOf_iff_prefix.1 h2).length_le
      simp only
      omega
    · rw [if_neg hf] at h ⊢
      exact ih h

theorem sharpL_place (T : ByteArray) (i : Nat) (L : List UInt8) (h : (sharpL T i L).1 = 0) : i < (sharpL T i L).2.2.2 ∧ (sharpL T i L).2.2.2 ≤ i + 1 + L.length := by
  match L, h with
  | [], h => simp [sharpL] at h
  | x :: r, h =>
    rw [sharpL] at h ⊢
    simp only [List.length_cons]
    by_cases h1 : x = 116 ∨ x = 102
    · rw [if_pos h1] at h ⊢
      by_cases h2 : endAt T (i + 2) = true
      · rw [if_pos h2]; simp only; omega
      · rw [if_neg h2] at h; simp at h
    · rw [if_neg h1] at h ⊢
      by_cases h3 : x = 92
      · rw [if_pos h3] at h ⊢
        by_cases h4 : 32 < (r.headD 0).toNat ∧ endAt T (i + 3) = true
        · rw [if_pos h4]
          have : r ≠ [] := by rintro rfl; simp at h4
          have := List.length_pos_iff.2 this
          simp only; omega
        · rw [if_neg h4] at h ⊢
          have := namesP_place T i r _ h
          omega
      · rw [if_neg h3] at h; simp at h

theorem tokX_place (T : ByteArray) (j : Nat) (x : UInt8) (l c : Int) (hj : j < T.size) (hx : ∀ h, T[j]'h = x) (hb : blankB x = false) (hs : x ≠ 59) (h0 : (tokX T j x l c).1 = 0) : j < (tokX T j x l c).2.nx ∧ (tokX T j x l c).2.nx ≤ T.size := by
  have hl : T.data.toList.length = T.size := by simp
  have hd : (T.data.toList.drop (j + 1)).length = T.size - (j + 1) := by rw [List.length_drop, hl]
  rw [tokX] at h0 ⊢
  by_cases h1 : 0 < (oneP x (twoP T (j + 1))).2
  · rw [if_pos h1]
    have h2 : (oneP x (twoP T (j + 1))).2 = 1 ∨ ((oneP x (twoP T (j + 1))).2 = 2 ∧ j + 1 < T.size) := by
      by_cases h3 : j + 1 < T.size
      · have : (oneP x (twoP T (j + 1))).2 = 1 ∨ (oneP x (twoP T (j + 1))).2 = 2 ∨ (oneP x (twoP T (j + 1))).2 = 0 := by unfold oneP; (repeat' split) <;> simp
        omega
      · have e : twoP T (j + 1) = 0 := by rw [twoP, dif_neg h3]
        rw [e] at h1 ⊢
        revert h1
        unfold oneP
        (repeat' split) <;> simp_all
    simp only
    omega
  · rw [if_neg h1] at h0 ⊢
    by_cases h2 : x = 35
    · rw [if_pos h2] at h0 ⊢
      have := sharpL_place T j _ h0
      simp only
      omega
    · rw [if_neg h2] at h0 ⊢
      by_cases h3 : x = 34
      · rw [if_pos h3] at h0 ⊢
        have := strP_place (T.data.toList.drop (j + 1)) [] (j + 1) (by
          simp only [strE] at h0
          by_cases h4 : (strP (T.data.toList.drop (j + 1)) [] (j + 1)).1 = 0
          · exact h4
          · rw [if_neg h4] at h0; exact h0)
        simp only
        omega
      · rw [if_neg h3]
        have e : T.data.toList.drop j = x :: T.data.toList.drop (j + 1) := by rw [drop_cons hj, hx]
        have he : endB x = false := by
          have n40 : x ≠ 40 := by rintro rfl; exact h1 (by simp [oneP])
          have n41 : x ≠ 41 := by rintro rfl; exact h1 (by simp [oneP])
          have n39 : x ≠ 39 := by rintro rfl; exact h1 (by simp [oneP])
          simp [endB, hb, n40, n41, n39, h3, hs]
        have hw : wordAt T j = x :: (T.data.toList.drop (j + 1)).takeWhile (fun c => !endB c) := by
          rw [wordAt, e, List.takeWhile_cons, if_pos (by simp [he])]
        have hle : (wordAt T j).length ≤ (T.data.toList.drop j).length := (List.takeWhile_prefix _).length_le
        rw [List.length_drop, hl] at hle
        have : 0 < (wordAt T j).length := by rw [hw]; simp
        simp only
        omega

structure SkipS (T : ByteArray) (i : Nat) (ln cl : Int) (j : Nat) (l c : Int) : Prop where
  eq : skipR (T.data.toList.drop i) false i ln cl = (j, l, c)
  ge : i ≤ j
  le : j ≤ T.size
  pos : (l, c) = whereL ((T.data.toList.drop i).take (j - i)) ln cl
  stop : ∀ h : j < T.size, blankB (T[j]'h) = false ∧ T[j]'h ≠ 59

theorem skip_spec (T : ByteArray) (i : Nat) (ln cl : Int) (hi : i ≤ T.size) : ∃ j l c, SkipS T i ln cl j l c := by
  have hl : T.data.toList.length = T.size := by simp
  obtain ⟨m, h1, h2, h3⟩ := skipR_spec (T.data.toList.drop i) false i ln cl
  rw [List.length_drop, hl] at h1
  refine ⟨i + m, _, _, h2, by omega, by omega, ?_, fun h => ?_⟩
  · rw [show i + m - i = m by omega]
  · have hm : m < (T.data.toList.drop i).length := by rw [List.length_drop, hl]; omega
    have := h3 hm
    rw [List.getElem_drop] at this
    exact this

theorem SkipS.line {T : ByteArray} {i : Nat} {ln cl : Int} {j : Nat} {l c : Int} (h : SkipS T i ln cl j l c) : ln ≤ l ∧ l ≤ ln + (j - i : Nat) := by
  have h1 := whereL_line ((T.data.toList.drop i).take (j - i)) ln cl
  rw [← h.pos] at h1
  have : ((T.data.toList.drop i).take (j - i)).length ≤ j - i := List.length_take_le _ _
  simp only at h1
  omega
theorem SkipS.col {T : ByteArray} {i : Nat} {ln cl : Int} {j : Nat} {l c : Int} (h : SkipS T i ln cl j l c) (h0 : 0 ≤ cl) : 0 ≤ c ∧ c ≤ cl + (j - i : Nat) := by
  have h1 := whereL_col ((T.data.toList.drop i).take (j - i)) ln cl h0
  rw [← h.pos] at h1
  have : ((T.data.toList.drop i).take (j - i)).length ≤ j - i := List.length_take_le _ _
  simp only at h1
  omega
theorem SkipS.tok {T : ByteArray} {i : Nat} {ln cl : Int} {j : Nat} {l c : Int} (h : SkipS T i ln cl j l c) : tokP T i ln cl = tokB T j l c := by
  rw [tokP, h.eq]
/-- The place behind a token, stepped from the token's own place. -/
theorem SkipS.after {T : ByteArray} {i : Nat} {ln cl : Int} {j : Nat} {l c : Int} (h : SkipS T i ln cl j l c) {m : Nat} (hm : j ≤ m) : whereL ((T.data.toList.drop i).take (m - i)) ln cl = whereL ((T.data.toList.drop j).take (m - j)) l c := by
  have h0 := h.ge
  have e : (T.data.toList.drop i).take (m - i) = (T.data.toList.drop i).take (j - i) ++ (T.data.toList.drop j).take (m - j) := by
    rw [show m - i = (j - i) + (m - j) by omega, List.take_add, List.drop_drop, show i + (j - i) = j by omega]
  rw [e, whereL_append, ← h.pos]

theorem tokB_place {T : ByteArray} {j : Nat} {l c : Int} (hj : j ≤ T.size) (hs : ∀ h : j < T.size, blankB (T[j]'h) = false ∧ T[j]'h ≠ 59) (h0 : (tokB T j l c).1 = 0) : j ≤ (tokB T j l c).2.nx ∧ (tokB T j l c).2.nx ≤ T.size ∧ ((tokB T j l c).2.k ≠ 14 → j < (tokB T j l c).2.nx) := by
  rw [tokB] at h0 ⊢
  by_cases h : j < T.size
  · rw [dif_pos h] at h0 ⊢
    have := tokX_place T j _ l c h (fun _ => rfl) (hs h).1 (hs h).2 h0
    exact ⟨by omega, this.2, fun _ => this.1⟩
  · rw [dif_neg h]
    exact ⟨Nat.le_refl _, hj, fun h => absurd rfl h⟩

theorem tokP_place {T : ByteArray} {i : Nat} {ln cl : Int} (hi : i ≤ T.size) (h0 : (tokP T i ln cl).1 = 0) : i ≤ (tokP T i ln cl).2.nx ∧ (tokP T i ln cl).2.nx ≤ T.size ∧ ((tokP T i ln cl).2.k ≠ 14 → i < (tokP T i ln cl).2.nx) := by
  obtain ⟨j, l, c, h⟩ := skip_spec T i ln cl hi
  rw [h.tok] at h0 ⊢
  have := tokB_place h.le h.stop h0
  have := h.ge
  omega

/-- All tokens: the error's number and place; the tokens. -/
def allP (T : ByteArray) : Nat → Nat → Int → Int → (Int × Int × Int) × List TokR
  | 0, _, _, _ => ((0, 0, 0), [])
  | f + 1, i, ln, cl =>
    if (tokP T i ln cl).1 ≠ 0 then (((tokP T i ln cl).1, (tokP T i ln cl).2.ln, (tokP T i ln cl).2.cl), [])
    else if (tokP T i ln cl).2.k = 14 then ((0, 0, 0), [])
    else ((allP T f (tokP T i ln cl).2.nx (whereL ((T.data.toList.drop i).take ((tokP T i ln cl).2.nx - i)) ln cl).1 (whereL ((T.data.toList.drop i).take ((tokP T i ln cl).2.nx - i)) ln cl).2).1,
      (tokP T i ln cl).2 :: (allP T f (tokP T i ln cl).2.nx (whereL ((T.data.toList.drop i).take ((tokP T i ln cl).2.nx - i)) ln cl).1 (whereL ((T.data.toList.drop i).take ((tokP T i ln cl).2.nx - i)) ln cl).2).2)
end Go.Proofs.YthighbbikpnpgaaDoor

/-! LeQ -/
namespace Go.Proofs.YthighbbikpnpgaaDoor
open Go.RowKit Go.Proofs.YthighbbikpnpgaaDoorW.PrintWords


/-! Strings. -/
def escL : List UInt8 → List UInt8
  | [] => []
  | c :: r => if c = 34 ∨ c = 92 then 92 :: c :: escL r else c :: escL r

theorem strP_escL : ∀ (s acc : List UInt8) (k : Nat), strP (escL s ++ [34]) acc k = (0, acc ++ s, k + (escL s).length) := by
  intro s
  induction s with
  | nil => intro acc k; simp [escL, strP]
  | cons c r ih =>
    intro acc k
    rw [escL]
    by_cases h : c = 34 ∨ c = 92
    · rw [if_pos h]
      have hd : escD c = some c := by rcases h with rfl | rfl <;> rfl
      rw [List.cons_append, List.cons_append, strP_esc hd, ih]
      simp
      omega
    · rw [if_neg h]
      rw [List.cons_append, strP_on (fun e => h (.inl e)) (fun e => h (.inr e)), ih]
      simp
      omega

theorem tokB_end {T : ByteArray} {j : Nat} (h : ¬ j < T.size) (l c : Int) : tokB T j l c = (0, ⟨14, 0, [], l, c, j⟩) := by rw [tokB, dif_neg h]
theorem tokP_end {T : ByteArray} {i : Nat} (h : T.size ≤ i) (l c : Int) : tokP T i l c = (0, ⟨14, 0, [], l, c, i⟩) := by
  have hl : T.data.toList.length = T.size := by simp
  rw [tokP, List.drop_eq_nil_of_le (by omega), skipR]
  exact tokB_end (by simp only; omega) l c
theorem allP_end {T : ByteArray} {i f : Nat} (h : T.size ≤ i) (l c : Int) : allP T (f + 1) i l c = ((0, 0, 0), []) := by
  rw [allP, tokP_end h, if_neg (by simp), if_pos rfl]
/-- One token, up to the text's end. -/
theorem allP_one {T : ByteArray} {t : TokR} {f : Nat} (h : tokP T 0 1 1 = (0, t)) (hk : t.k ≠ 14) (hn : t.nx = T.size) : allP T (f + 2) 0 1 1 = ((0, 0, 0), [t]) := by
  rw [allP, h, if_neg (by simp), if_neg hk, allP_end (by simp only; omega)]
theorem allP_bad {T : ByteArray} {t : TokR} {e : Int} {f : Nat} (h : tokP T 0 1 1 = (e, t)) (hk : e ≠ 0) : allP T (f + 1) 0 1 1 = ((e, t.ln, t.cl), []) := by
  rw [allP, h, if_pos hk]
/-- No blank ahead. -/
theorem tokP_first {x : UInt8} {r : List UInt8} (hb : blankB x = false) (h59 : x ≠ 59) (l c : Int) : tokP ⟨⟨x :: r⟩⟩ 0 l c = tokX ⟨⟨x :: r⟩⟩ 0 x l c := by
  rw [tokP]
  have : skipR ((⟨⟨x :: r⟩⟩ : ByteArray).data.toList.drop 0) false 0 l c = (0, l, c) := skipR_end hb h59 r 0 l c
  rw [this, tokB, dif_pos (by show 0 < (x :: r).length; simp)]
  rfl

theorem str_tok (s : List UInt8) : tokP ⟨⟨34 :: (escL s ++ [34])⟩⟩ 0 1 1 = (if 500 < s.length then 14 else 0, ⟨12, 0, s, 1, 1, (⟨⟨34 :: (escL s ++ [34])⟩⟩ : ByteArray).size⟩) := by
  rw [tokP_first (by decide) (by decide), tokX, if_neg (by simp [oneP]), if_neg (by decide), if_pos rfl]
  have : (⟨⟨34 :: (escL s ++ [34])⟩⟩ : ByteArray).data.toList.drop (0 + 1) = escL s ++ [34] := rfl
  rw [this, strP_escL]
  have h2 : (⟨⟨34 :: (escL s ++ [34])⟩⟩ : ByteArray).size = (escL s).length + 2 := by
    show (34 :: (escL s ++ [34])).length = _
    simp
  rw [h2]
  simp [strE]
  omega

/-! Numbers. -/
def numB (c : UInt8) : Bool := digB c || c == 45
theorem numB_end {c : UInt8} (h : numB c = true) : endB c = false ∧ blankB c = false ∧ c ≠ 59 ∧ c ≠ 40 ∧ c ≠ 41 ∧ c ≠ 39 ∧ c ≠ 96 ∧ c ≠ 44 ∧ c ≠ 35 ∧ c ≠ 34 ∧ c ≠ 46 := by
  have hn : ∀ d : UInt8, numB d = false → c ≠ d := by
    rintro d hd rfl
    rw [h] at hd; cases hd
  have n : c ≠ 32 ∧ c ≠ 9 ∧ c ≠ 10 ∧ c ≠ 13 ∧ c ≠ 59 ∧ c ≠ 40 ∧ c ≠ 41 ∧ c ≠ 39 ∧ c ≠ 96 ∧ c ≠ 44 ∧ c ≠ 35 ∧ c ≠ 34 ∧ c ≠ 46 := ⟨hn _ rfl, hn _ rfl, hn _ rfl, hn _ rfl, hn _ rfl, hn _ rfl, hn _ rfl, hn _ rfl, hn _ rfl, hn _ rfl, hn _ rfl, hn _ rfl, hn _ rfl⟩
  obtain ⟨a, b, c1, d, e, f, g, h1, i, j, k, m, o⟩ := n
  refine ⟨by simp [endB, blankB, a, b, c1, d, e, f, g, h1, m], by simp [blankB, a, b, c1, d], e, f, g, h1, i, j, k, m, o⟩

theorem num_tok (s : List UInt8) (h0 : s ≠ []) (ha : s.all numB = true) (hp : okL (bodyL s) = true) : tokP ⟨⟨s⟩⟩ 0 1 1 = ((parseL s).2, ⟨(wordK s).1, (wordK s).2.1, (wordK s).2.2, 1, 1, s.length⟩) ∧ ((parseL s).2 = 0 → wordK s = (9, (parseL s).1, [])) := by
  match s, h0, ha, hp with
  | x :: r, _, ha, hp =>
    have hx : numB x = true := by simp at ha; exact ha.1
    obtain ⟨e1, e2, e3, e4, e5, e6, e7, e8, e9, e10, e11⟩ := numB_end hx
    have hw : wordAt ⟨⟨x :: r⟩⟩ 0 = x :: r := by
      show (x :: r).takeWhile (fun c => !endB c) = x :: r
      have hh : ∀ (q : List UInt8), (∀ a ∈ q, endB a = false) → q.takeWhile (fun c => !endB c) = q := by
        intro q
        induction q with
        | nil => intro _; rfl
        | cons y q ih => intro h; rw [List.takeWhile_cons, if_pos (by rw [h y (by simp)]; rfl), ih (fun a ha => h a (by simp [ha]))]
      exact hh _ (fun a h => (numB_end (List.all_eq_true.1 ha a h)).1)
    have hd : x :: r ≠ [46] := by
      intro e
      injection e with e _
      exact e11 e
    have h6 : (parseL (x :: r)).2 ≠ 6 := by
      have : ∀ n, (fitL n).2 ≠ 6 := by intro n; unfold fitL; split <;> simp
      rw [parseL, if_pos hp]
      exact this _
    refine ⟨?_, fun h => by rw [wordK, if_neg hd, if_pos h]⟩
    rw [tokP_first e2 e3, tokX, if_neg (by simp [oneP, e4, e5, e6, e7, e8, e9]), if_neg e9, if_neg e10, hw, wordE, if_neg hd, if_neg h6]
    simp
end Go.Proofs.YthighbbikpnpgaaDoor

/-! LeDs -/
namespace Go.Proofs.YthighbbikpnpgaaDoor
open Go.RowKit Go.Proofs.YthighbbikpnpgaaDoorW.PrintWords

set_option maxRecDepth 100000 in
set_option maxHeartbeats 4000000 in
theorem one_same (b : Nat) (T : ByteArray) (i : Nat) (x two : UInt8) (ln cl : Int) (w : World) (h : LexAt b T i ln cl w) (hi : i < T.size) (hx : ∀ h, T[i]'h = x) (ht : TwoAt T (i + 1) two) (hT : T.size ≤ 1000000000) :
    Calls Tryd.prog 85 #[.pointer (some ⟨b, 0, none⟩)] w fun e w' => e = .returned (.tuple #[.int .i64 (oneP x two).1, .int .i64 (oneP x two).2]) ∧ Below w.heap.size w w' := by
  have hi' : (i : Int) < (T.size : Nat) := by omega
  have c0 : w.cell? ⟨b, 0, none⟩ = some (.string T) := blk_cell h 0
  have c1 : w.cell? ⟨b, 1, none⟩ = some (.int .i64 (i : Nat)) := blk_cell h 1
  have x256 : x.toNat < 256 := x.toNat_lt
  have t256 : two.toNat < 256 := two.toNat_lt
  clear h
  have hx' : x = 40 ∨ x = 41 ∨ x = 39 ∨ x = 96 ∨ x = 44 ∨ x = 35 ∨ (((x.toNat : Int) == 40) = false ∧ ((x.toNat : Int) == 41) = false ∧ ((x.toNat : Int) == 39) = false ∧ ((x.toNat : Int) == 96) = false ∧ ((x.toNat : Int) == 44) = false ∧ ((x.toNat : Int) == 35) = false ∧ ∀ t, oneP x t = (0, 0)) := by
    by_cases h1 : x = 40; · exact .inl h1
    by_cases h2 : x = 41; · exact .inr (.inl h2)
    by_cases h3 : x = 39; · exact .inr (.inr (.inl h3))
    by_cases h4 : x = 96; · exact .inr (.inr (.inr (.inl h4)))
    by_cases h5 : x = 44; · exact .inr (.inr (.inr (.inr (.inl h5))))
    by_cases h6 : x = 35; · exact .inr (.inr (.inr (.inr (.inr (.inl h6)))))
    refine .inr (.inr (.inr (.inr (.inr (.inr ⟨u8ne (n := 40) (by omega) h1, u8ne (n := 41) (by omega) h2, u8ne (n := 39) (by omega) h3, u8ne (n := 96) (by omega) h4, u8ne (n := 44) (by omega) h5, u8ne (n := 35) (by omega) h6, fun t => ?_⟩)))))
    rw [oneP, if_neg h1, if_neg h2, if_neg h3, if_neg h4, if_neg h5, if_neg h6]
  rcases ht with ⟨hk, ht⟩ | ⟨hk, rfl⟩
  · have hk' : (i : Int) + 1 < (T.size : Nat) := by omega
    have ht' : ∀ h, T[((i : Int) + 1).toNat]'h = two := fun h => ht (by omega)
    rcases hx' with rfl | rfl | rfl | rfl | rfl | rfl | ⟨e1, e2, e3, e4, e5, e6, e⟩
    · go_enter Tryd.func85, Tryd.ntmps85
      (go_wp2_with fail; repeat (go_region; go_wp2_with fail))
      go_ret2
      exact ⟨rfl, rfl, rfl, rfl, Nat.le_refl _, fun _ _ => rfl⟩
    · go_enter Tryd.func85, Tryd.ntmps85
      (go_wp2_with fail; repeat (go_region; go_wp2_with fail))
      go_ret2
      exact ⟨rfl, rfl, rfl, rfl, Nat.le_refl _, fun _ _ => rfl⟩
    · go_enter Tryd.func85, Tryd.ntmps85
      (go_wp2_with fail; repeat (go_region; go_wp2_with fail))
      go_ret2
      exact ⟨rfl, rfl, rfl, rfl, Nat.le_refl _, fun _ _ => rfl⟩
    · go_enter Tryd.func85, Tryd.ntmps85
      (go_wp2_with fail; repeat (go_region; go_wp2_with fail))
      go_ret2
      exact ⟨rfl, rfl, rfl, rfl, Nat.le_refl _, fun _ _ => rfl⟩
    · by_cases h2 : two = 64
      · subst h2
        go_enter Tryd.func85, Tryd.ntmps85
        (go_wp2_with fail; repeat (go_region; go_wp2_with fail))
        go_ret2
        exact ⟨rfl, rfl, rfl, rfl, Nat.le_refl _, fun _ _ => rfl⟩
      · have b2 := u8ne (n := 64) (by omega) h2
        rw [show oneP 44 two = (6, 1) by simp [oneP, h2]]
        clear h2
        go_enter Tryd.func85, Tryd.ntmps85
        (go_wp2_with fail; repeat (go_region; go_wp2_with fail))
        go_ret2
        exact ⟨rfl, rfl, rfl, rfl, Nat.le_refl _, fun _ _ => rfl⟩
    · by_cases h2 : two = 40
      · subst h2
        go_enter Tryd.func85, Tryd.ntmps85
        (go_wp2_with fail; repeat (go_region; go_wp2_with fail))
        go_ret2
        exact ⟨rfl, rfl, rfl, rfl, Nat.le_refl _, fun _ _ => rfl⟩
      · have b2 := u8ne (n := 40) (by omega) h2
        rw [show oneP 35 two = (0, 0) by simp [oneP, h2]]
        clear h2
        go_enter Tryd.func85, Tryd.ntmps85
        (go_wp2_with fail; repeat (go_region; go_wp2_with fail))
        go_ret2
        exact ⟨rfl, rfl, rfl, rfl, Nat.le_refl _, fun _ _ => rfl⟩
    · rw [e]
      clear e
      go_enter Tryd.func85, Tryd.ntmps85
      (go_wp2_with fail; repeat (go_region; go_wp2_with fail))
      go_ret2
      exact ⟨rfl, rfl, rfl, rfl, Nat.le_refl _, fun _ _ => rfl⟩
  · have hk' : ¬ (i : Int) + 1 < (T.size : Nat) := by omega
    rcases hx' with rfl | rfl | rfl | rfl | rfl | rfl | ⟨e1, e2, e3, e4, e5, e6, e⟩
    · go_enter Tryd.func85, Tryd.ntmps85
      (go_wp2_with fail; repeat (go_region; go_wp2_with fail))
      go_ret2
      exact ⟨rfl, rfl, rfl, rfl, Nat.le_refl _, fun _ _ => rfl⟩
    · go_enter Tryd.func85, Tryd.ntmps85
      (go_wp2_with fail; repeat (go_region; go_wp2_with fail))
      go_ret2
      exact ⟨rfl, rfl, rfl, rfl, Nat.le_refl _, fun _ _ => rfl⟩
    · go_enter Tryd.func85, Tryd.ntmps85
      (go_wp2_with fail; repeat (go_region; go_wp2_with fail))
      go_ret2
      exact ⟨rfl, rfl, rfl, rfl, Nat.le_refl _, fun _ _ => rfl⟩
    · go_enter Tryd.func85, Tryd.ntmps85
      (go_wp2_with fail; repeat (go_region; go_wp2_with fail))
      go_ret2
      exact ⟨rfl, rfl, rfl, rfl, Nat.le_refl _, fun _ _ => rfl⟩
    · go_enter Tryd.func85, Tryd.ntmps85
      (go_wp2_with fail; repeat (go_region; go_wp2_with fail))
      go_ret2
      exact ⟨rfl, rfl, rfl, rfl, Nat.le_refl _, fun _ _ => rfl⟩
    · go_enter Tryd.func85, Tryd.ntmps85
      (go_wp2_with fail; repeat (go_region; go_wp2_with fail))
      go_ret2
      exact ⟨rfl, rfl, rfl, rfl, Nat.le_refl _, fun _ _ => rfl⟩
    · rw [e]
      clear e
      go_enter Tryd.func85, Tryd.ntmps85
      (go_wp2_with fail; repeat (go_region; go_wp2_with fail))
      go_ret2
      exact ⟨rfl, rfl, rfl, rfl, Nat.le_refl _, fun _ _ => rfl⟩
end Go.Proofs.YthighbbikpnpgaaDoor

/-! LeTa -/
namespace Go.Proofs.YthighbbikpnpgaaDoor
open Go.RowKit Go.Proofs.YthighbbikpnpgaaDoorW.PrintWords

def tokV (t : TokR) : Value := .agg #[.int .i64 t.k, .int .i64 t.n, .string ⟨t.x.toArray⟩, .int .i64 t.ln, .int .i64 t.cl, .int .i64 (t.nx : Nat)]
def tok0 : TokR := ⟨0, 0, [], 0, 0, 0⟩
def tokRet (R : Int × TokR) : Value := .tuple (if R.1 = 0 then #[tokV R.2, .nilIface] else #[tokV tok0, atV R.2.ln R.2.cl R.1])

theorem keep_fresh {w W W' : World} {b tb : Nat} (h : KeepB w W b none) (k : KeepB W W' tb none) (hb : w.heap.size ≤ tb) : KeepB w W' b none :=
  ⟨⟨Nat.le_trans h.1.1 k.1.1, fun i hi hg hn => (k.1.2 i (Nat.lt_of_lt_of_le hi h.1.1) (by omega) hn).trans (h.1.2 i hi hg hn)⟩, k.2.1.trans h.2.1, k.2.2.1.trans h.2.2.1, k.2.2.2.trans h.2.2.2⟩
theorem keep_farB {w W : World} {g : Nat} (h : KeepB w W g none) {p : Addr} (hp : w.heap.size ≤ p.block) (u : Value) : KeepB w (W.setCell p u) g none := ⟨keep_far h.1 hp u, h.2.1, h.2.2.1, h.2.2.2⟩

structure TokenTo (b : Nat) (T : ByteArray) (R : Int × TokR) (q : Int × Int) (w : World) (e : Ending) (w' : World) : Prop where
  ret : e = .returned (tokRet R)
  lex : R.1 = 0 → LexAt b T (R.2.nx : Nat) q.1 q.2 w'
  keep : KeepB w w' b none

structure GoI (b tb rb : Nat) (T : ByteArray) (w : World) (R : TokR) (q : Int × Int) (p : Nat) (l c : Int) (w' : World) : Prop where
  lex : LexAt b T p l c w'
  tok : TokAt tb R.k R.n ⟨R.x.toArray⟩ R.ln R.cl (R.nx : Nat) w'
  res : TokAt rb 0 0 ⟨#[]⟩ 0 0 0 w'
  keep : KeepB w w' b none
  rest : whereL ((T.data.toList.drop p).take (R.nx - p)) l c = q
  le : p ≤ R.nx
  nx : R.nx ≤ T.size
  l0 : 0 ≤ l
  l1 : l ≤ 1100000000 + p
  c0 : 0 ≤ c
  c1 : c ≤ 1100000000 + p

theorem GoI.next {b tb rb : Nat} {T : ByteArray} {w : World} {R : TokR} {q : Int × Int} {p : Nat} {l c : Int} {w1 : World} (h : GoI b tb rb T w R q p l c w1) (hne : b ≠ tb) (hnr : b ≠ rb) (hp : p < R.nx) {x : UInt8} (hx : ∀ h, T[p]'h = x) {w0 : World} (hd : w0.heap = w1.heap ∧ w0.os = w1.os ∧ w0.tape = w1.tape ∧ w0.output = w1.output) {e : Ending} {w2 : World} (hw : StepTo b T x p l c w0 e w2) : GoI b tb rb T w R q (p + 1) (lineOf x l) (colOf x c) w2 where
  lex := hw.lies
  tok := hw.keep.blk (by rw [hd.1]; exact h.tok) hne.symm (by simp)
  res := hw.keep.blk (by rw [hd.1]; exact h.res) hnr.symm (by simp)
  keep := by
    have k := hw.keep
    refine h.keep.trans (row1 := none) ⟨⟨?_, ?_⟩, ?_, ?_, ?_⟩ (.inl rfl)
    · rw [← hd.1]; exact k.1.1
    · intro i hi; rw [← hd.1] at hi ⊢; exact k.1.2 i hi
    · exact k.2.1.trans hd.2.1
    · exact k.2.2.1.trans hd.2.2.1
    · exact k.2.2.2.trans hd.2.2.2
  rest := by
    have hpT : p < T.size := Nat.lt_of_lt_of_le hp h.nx
    rw [← h.rest, drop_cons hpT, hx hpT, show R.nx - p = (R.nx - (p + 1)) + 1 by omega, List.take_succ_cons, whereL]
  le := hp
  nx := h.nx
  l0 := by have := h.l0; unfold lineOf; split <;> omega
  l1 := by have := h.l1; unfold lineOf; split <;> omega
  c0 := by have := h.c0; unfold colOf; split <;> omega
  c1 := by have := h.c1; unfold colOf; split <;> omega

theorem tok_put {rb : Nat} {k0 n0 : Int} {x0 : ByteArray} {l0 c0 nx0 : Int} {w : World} (h : TokAt rb k0 n0 x0 l0 c0 nx0 w) (k n : Int) (x : ByteArray) (l c nx : Int) :
    TokAt rb k n x l c nx ((((((w.setCell ⟨rb, 0, none⟩ (.int .i64 k)).setCell ⟨rb, 1, none⟩ (.int .i64 n)).setCell ⟨rb, 2, none⟩ (.string x)).setCell ⟨rb, 3, none⟩ (.int .i64 l)).setCell ⟨rb, 4, none⟩ (.int .i64 c)).setCell ⟨rb, 5, none⟩ (.int .i64 nx)) :=
  blk_put (blk_put (blk_put (blk_put (blk_put (blk_put h 0 _ rfl) 1 _ rfl) 2 _ rfl) 3 _ rfl) 4 _ rfl) 5 _ rfl
theorem keep_drewB {w W : World} {g : Nat} (h : KeepB w W g none) : KeepB w W.drew g none := h
theorem two_is (T : ByteArray) (k : Nat) : TwoAt T k (twoP T k) := by
  unfold twoP
  by_cases h : k < T.size
  · rw [dif_pos h]; exact .inl ⟨h, fun _ => rfl⟩
  · rw [dif_neg h]; exact .inr ⟨h, rfl⟩
theorem errV_ne {k : Int} (h : k ≠ 0) : errV k = kindV k := by unfold errV; rw [if_neg (by simpa using h)]

end Go.Proofs.YthighbbikpnpgaaDoor

/-! LeTb -/
namespace Go.Proofs.YthighbbikpnpgaaDoor
open Go.RowKit Go.Proofs.YthighbbikpnpgaaDoorW.PrintWords

set_option maxRecDepth 400000 in
set_option maxHeartbeats 16000000 in
theorem token_end (b : Nat) (T : ByteArray) (i : Nat) (ln cl : Int) (w : World) (h : LexAt b T i ln cl w) (hi : i ≤ T.size) (hT : T.size ≤ 1000000000) (h1 : 0 ≤ ln) (h2 : ln ≤ 1100000000) (h3 : 0 ≤ cl) (h4 : cl ≤ 1100000000) (j : Nat) (l c : Int) (hs : SkipS T i ln cl j l c) (hj : ¬ j < T.size) :
    Calls Tryd.prog 65 #[.pointer (some ⟨b, 0, none⟩)] w (TokenTo b T (0, ⟨14, 0, [], l, c, j⟩) (l, c) w) := by
  have hsk := fun (w : World) h => skip_any b T i ln cl w h hi hT h1 h2 h3 h4
  have hl := hs.line
  have hc := hs.col h3
  have hge := hs.ge
  have hle := hs.le
  simp only [hs.eq] at hsk
  have HL := Lib.hid h
  have HSK := Lib.hid hsk
  have HT := Lib.hid hT
  have HB := Lib.hid (show 0 ≤ l ∧ l ≤ 1100000000 + (j : Nat) ∧ 0 ≤ c ∧ c ≤ 1100000000 + (j : Nat) by omega)
  obtain rfl : j = T.size := by omega
  clear hsk hl hc hT h1 h2 h3 h4 h hi hge hs hle
  go_enter Tryd.func65, Tryd.ntmps65
  go_wp2_with fail
  refine (HSK.out _ (blk_alloc HL.out _)).mono ?_
  rintro e w1 hw1
  obtain rfl := hw1.ret
  have HW1 := Lib.hid hw1
  clear hw1
  have d0 : w1.cell? ⟨b, 0, none⟩ = some (.string T) := blk_cell HW1.out.lies 0
  have d1 : w1.cell? ⟨b, 1, none⟩ = some (.int .i64 (T.size : Nat)) := blk_cell HW1.out.lies 1
  have d2 : w1.cell? ⟨b, 2, none⟩ = some (.int .i64 l) := blk_cell HW1.out.lies 2
  have d3 : w1.cell? ⟨b, 3, none⟩ = some (.int .i64 c) := blk_cell HW1.out.lies 3
  have lb : b < w1.heap.size := blk_lt HW1.out.lies
  have lbw : b < w.heap.size := blk_lt HL.out
  have HRB := Lib.hid (show TokAt w.heap.size 0 0 ⟨#[]⟩ 0 0 0 w1 from HW1.out.keep.blk (blk_new w _) (by omega) (by simp))
  have lr : w.heap.size < w1.heap.size := blk_lt HRB.out
  go_wp2_with fail
  go_region
  go_wp2_with fail
  go_region
  have HL3 := Lib.hid (show LexAt b T (T.size : Nat) l c ((w1.alloc (.cells #[.int .i64 14, .int .i64 0, .string ⟨#[]⟩, .int .i64 l, .int .i64 c, .int .i64 (T.size : Nat)] 60)).drew.drew) from blk_drew (blk_drew (blk_alloc HW1.out.lies _)))
  have HT3 := Lib.hid (show TokAt w1.heap.size 14 0 ⟨#[]⟩ l c (T.size : Nat) ((w1.alloc (.cells #[.int .i64 14, .int .i64 0, .string ⟨#[]⟩, .int .i64 l, .int .i64 c, .int .i64 (T.size : Nat)] 60)).drew.drew) from blk_drew (blk_drew (blk_new w1 _)))
  have HR3 := Lib.hid (show TokAt w.heap.size 0 0 ⟨#[]⟩ 0 0 0 ((w1.alloc (.cells #[.int .i64 14, .int .i64 0, .string ⟨#[]⟩, .int .i64 l, .int .i64 c, .int .i64 (T.size : Nat)] 60)).drew.drew) from blk_drew (blk_drew (blk_alloc HRB.out _)))
  have HK3 := Lib.hid (show KeepB w ((w1.alloc (.cells #[.int .i64 14, .int .i64 0, .string ⟨#[]⟩, .int .i64 l, .int .i64 c, .int .i64 (T.size : Nat)] 60)).drew.drew) b none from by
    have h1 : KeepB w (w.alloc (.cells #[.int .i64 0, .int .i64 0, .string ⟨#[]⟩, .int .i64 0, .int .i64 0, .int .i64 0] 60)) b none := keep_allocB (KeepB.refl w b none) _
    exact keep_allocB (h1.trans HW1.out.keep (.inl rfl)) _)
  clear d0 d1 d2 d3
  generalize (w1.alloc (.cells #[.int .i64 14, .int .i64 0, .string ⟨#[]⟩, .int .i64 l, .int .i64 c, .int .i64 (T.size : Nat)] 60)).drew.drew = w3 at HL3 HT3 HR3 HK3 ⊢
  have htb : w.heap.size ≤ w1.heap.size := Nat.le_of_lt lr
  have hrt : w.heap.size ≠ w1.heap.size := Nat.ne_of_lt lr
  have hbt : b ≠ w1.heap.size := Nat.ne_of_lt lb
  have hbr : b ≠ w.heap.size := Nat.ne_of_lt lbw
  clear HW1 HRB lb lr
  generalize w1.heap.size = tb at HT3 htb hrt hbt ⊢
  have t0 : w3.cell? ⟨tb, 0, none⟩ = some (.int .i64 14) := blk_cell HT3.out 0
  have t1 : w3.cell? ⟨tb, 1, none⟩ = some (.int .i64 0) := blk_cell HT3.out 1
  have t2 : w3.cell? ⟨tb, 2, none⟩ = some (.string ⟨#[]⟩) := blk_cell HT3.out 2
  have t3 : w3.cell? ⟨tb, 3, none⟩ = some (.int .i64 l) := blk_cell HT3.out 3
  have t4 : w3.cell? ⟨tb, 4, none⟩ = some (.int .i64 c) := blk_cell HT3.out 4
  have t5 : w3.cell? ⟨tb, 5, none⟩ = some (.int .i64 (T.size : Nat)) := blk_cell HT3.out 5
  have r0 : w3.cell? ⟨w.heap.size, 0, none⟩ = some (.int .i64 0) := blk_cell HR3.out 0
  have s0 := blk_frozen HR3.out 0
  have r1 : w3.cell? ⟨w.heap.size, 1, none⟩ = some (.int .i64 0) := blk_cell HR3.out 1
  have s1 := blk_frozen HR3.out 1
  have r2 : w3.cell? ⟨w.heap.size, 2, none⟩ = some (.string ⟨#[]⟩) := blk_cell HR3.out 2
  have s2 := blk_frozen HR3.out 2
  have r3 : w3.cell? ⟨w.heap.size, 3, none⟩ = some (.int .i64 0) := blk_cell HR3.out 3
  have s3 := blk_frozen HR3.out 3
  have r4 : w3.cell? ⟨w.heap.size, 4, none⟩ = some (.int .i64 0) := blk_cell HR3.out 4
  have s4 := blk_frozen HR3.out 4
  have r5 : w3.cell? ⟨w.heap.size, 5, none⟩ = some (.int .i64 0) := blk_cell HR3.out 5
  have s5 := blk_frozen HR3.out 5
  (go_wp2_with fail; repeat (go_region; go_wp2_with fail))
  have HX := tok_put HR3.out (14) (0) (⟨#[]⟩) (l) (c) ((T.size : Nat))
  have q0 := blk_cell HX 0
  have q1 := blk_cell HX 1
  have q2 := blk_cell HX 2
  have q3 := blk_cell HX 3
  have q4 := blk_cell HX 4
  have q5 := blk_cell HX 5
  clear r0 s0 r1 s1 r2 s2 r3 s3 r4 s4 r5 s5 t0 t1 t2 t3 t4 t5
  (try simp only [Exit.inBlock, Exit.then])
  refine bodyPost_ret (by simp [results, Tryd.results65, go_sem, q0, q1, q2, q3, q4, q5]; rfl) rfl ?_
  exact ⟨rfl, fun _ => by skip; exact (blk_far (blk_far (blk_far (blk_far (blk_far (blk_far HL3.out hbr _) hbr _) hbr _) hbr _) hbr _) hbr _), (keep_farB (keep_farB (keep_farB (keep_farB (keep_farB (keep_farB HK3.out (Nat.le_refl _) _) (Nat.le_refl _) _) (Nat.le_refl _) _) (Nat.le_refl _) _) (Nat.le_refl _) _) (Nat.le_refl _) _)⟩
end Go.Proofs.YthighbbikpnpgaaDoor

/-! LeTc -/
namespace Go.Proofs.YthighbbikpnpgaaDoor
open Go.RowKit Go.Proofs.YthighbbikpnpgaaDoorW.PrintWords

set_option maxRecDepth 400000 in
set_option maxHeartbeats 16000000 in
theorem token_one (b : Nat) (T : ByteArray) (i : Nat) (ln cl : Int) (w : World) (h : LexAt b T i ln cl w) (hi : i ≤ T.size) (hT : T.size ≤ 1000000000) (h1 : 0 ≤ ln) (h2 : ln ≤ 1100000000) (h3 : 0 ≤ cl) (h4 : cl ≤ 1100000000) (j : Nat) (l c : Int) (hs : SkipS T i ln cl j l c) (hj : j < T.size) (x : UInt8) (hx : ∀ h, T[j]'h = x) (hn : (0 : Int) < (oneP x (twoP T (j + 1))).2) :
    Calls Tryd.prog 65 #[.pointer (some ⟨b, 0, none⟩)] w (TokenTo b T (tokX T j x l c) (whereL ((T.data.toList.drop j).take ((tokX T j x l c).2.nx - j)) l c) w) := by
  have hsk := fun (w : World) h => skip_any b T i ln cl w h hi hT h1 h2 h3 h4
  have hl := hs.line
  have hc := hs.col h3
  have hge := hs.ge
  have hle := hs.le
  simp only [hs.eq] at hsk
  have HL := Lib.hid h
  have HSK := Lib.hid hsk
  have HT := Lib.hid hT
  have HB := Lib.hid (show 0 ≤ l ∧ l ≤ 1100000000 + (j : Nat) ∧ 0 ≤ c ∧ c ≤ 1100000000 + (j : Nat) by omega)
  have hst := hs.stop hj
  rw [hx] at hst
  obtain ⟨R, hR⟩ : ∃ R, tokX T j x l c = R := ⟨_, rfl⟩
  have HRX := Lib.hid hR
  have hpl := tokX_place T j x l c hj hx hst.1 hst.2
  rw [hR] at hpl ⊢
  obtain ⟨q, hq⟩ : ∃ q, whereL ((T.data.toList.drop j).take (R.2.nx - j)) l c = q := ⟨_, rfl⟩
  have HQ := Lib.hid hq
  rw [hq]
  have HPL := Lib.hid hpl
  have HX := Lib.hid hx
  have HJT := Lib.hid hj
  have hj' : (j : Int) < (T.size : Nat) := by omega
  have hje : ¬ (j : Int) = (T.size : Nat) := by omega
  have hjb : ((j : Int) == (T.size : Nat)) = false := beq_eq_false_iff_ne.2 hje
  have x256 : x.toNat < 256 := x.toNat_lt
  have hon : (oneP x (twoP T (j + 1))).2 = 1 ∨ (oneP x (twoP T (j + 1))).2 = 2 ∨ (oneP x (twoP T (j + 1))).2 = 0 := by
    unfold oneP
    (repeat' split) <;> simp
  rw [tokX, if_pos hn] at HRX
  obtain ⟨⟨ok, on⟩, ho⟩ : ∃ o, oneP x (twoP T (j + 1)) = o := ⟨_, rfl⟩
  have HO := Lib.hid ho
  rw [ho] at hn hon HRX
  simp only at hn hon HRX
  clear ho
  obtain ⟨m, rfl⟩ : ∃ m : Nat, on = (m : Int) := ⟨on.toNat, by omega⟩
  have hm : m ≤ 2 := by omega
  have hnb : decide ((0 : Int) < (m : Int)) = true := decide_eq_true hn
  have hnN : 0 < m := by omega
  have hnB : decide (0 < m) = true := decide_eq_true hnN
  have hT1 : T.size ≤ 1000000000 := hT
  clear hsk hl hc hT h1 h2 h3 h4 h hi hge hs hle hst hR hpl hq
  go_enter Tryd.func65, Tryd.ntmps65
  go_wp2_with fail
  refine (HSK.out _ (blk_alloc HL.out _)).mono ?_
  rintro e w1 hw1
  obtain rfl := hw1.ret
  have HW1 := Lib.hid hw1
  clear hw1
  have d0 : w1.cell? ⟨b, 0, none⟩ = some (.string T) := blk_cell HW1.out.lies 0
  have d1 : w1.cell? ⟨b, 1, none⟩ = some (.int .i64 (j : Nat)) := blk_cell HW1.out.lies 1
  have d2 : w1.cell? ⟨b, 2, none⟩ = some (.int .i64 l) := blk_cell HW1.out.lies 2
  have d3 : w1.cell? ⟨b, 3, none⟩ = some (.int .i64 c) := blk_cell HW1.out.lies 3
  have lb : b < w1.heap.size := blk_lt HW1.out.lies
  have lbw : b < w.heap.size := blk_lt HL.out
  have HRB := Lib.hid (show TokAt w.heap.size 0 0 ⟨#[]⟩ 0 0 0 w1 from HW1.out.keep.blk (blk_new w _) (by omega) (by simp))
  have lr : w.heap.size < w1.heap.size := blk_lt HRB.out
  go_wp2_with fail
  go_region
  go_wp2_with fail
  go_region
  have HL3 := Lib.hid (show LexAt b T (j : Nat) l c ((w1.alloc (.cells #[.int .i64 14, .int .i64 0, .string ⟨#[]⟩, .int .i64 l, .int .i64 c, .int .i64 (j : Nat)] 60)).drew.drew) from blk_drew (blk_drew (blk_alloc HW1.out.lies _)))
  have HT3 := Lib.hid (show TokAt w1.heap.size 14 0 ⟨#[]⟩ l c (j : Nat) ((w1.alloc (.cells #[.int .i64 14, .int .i64 0, .string ⟨#[]⟩, .int .i64 l, .int .i64 c, .int .i64 (j : Nat)] 60)).drew.drew) from blk_drew (blk_drew (blk_new w1 _)))
  have HR3 := Lib.hid (show TokAt w.heap.size 0 0 ⟨#[]⟩ 0 0 0 ((w1.alloc (.cells #[.int .i64 14, .int .i64 0, .string ⟨#[]⟩, .int .i64 l, .int .i64 c, .int .i64 (j : Nat)] 60)).drew.drew) from blk_drew (blk_drew (blk_alloc HRB.out _)))
  have HK3 := Lib.hid (show KeepB w ((w1.alloc (.cells #[.int .i64 14, .int .i64 0, .string ⟨#[]⟩, .int .i64 l, .int .i64 c, .int .i64 (j : Nat)] 60)).drew.drew) b none from by
    have h1 : KeepB w (w.alloc (.cells #[.int .i64 0, .int .i64 0, .string ⟨#[]⟩, .int .i64 0, .int .i64 0, .int .i64 0] 60)) b none := keep_allocB (KeepB.refl w b none) _
    exact keep_allocB (h1.trans HW1.out.keep (.inl rfl)) _)
  clear d0 d1 d2 d3
  generalize (w1.alloc (.cells #[.int .i64 14, .int .i64 0, .string ⟨#[]⟩, .int .i64 l, .int .i64 c, .int .i64 (j : Nat)] 60)).drew.drew = w3 at HL3 HT3 HR3 HK3 ⊢
  have htb : w.heap.size ≤ w1.heap.size := Nat.le_of_lt lr
  have hrt : w.heap.size ≠ w1.heap.size := Nat.ne_of_lt lr
  have hbt : b ≠ w1.heap.size := Nat.ne_of_lt lb
  have hbr : b ≠ w.heap.size := Nat.ne_of_lt lbw
  clear HW1 HRB lb lr
  generalize w1.heap.size = tb at HT3 htb hrt hbt ⊢
  go_wp2_with fail
  refine (one_same b T j _ (twoP T (j + 1)) l c _ HL3.out HJT.out HX.out (two_is T (j + 1)) HT.out).mono ?_
  rintro e w4 ⟨rfl, hb4⟩
  rw [HO.out]
  have HL4 := Lib.hid (show LexAt b T (j : Nat) l c w4 from blk_below HL3.out hb4)
  have HT4 := Lib.hid (show TokAt tb 14 0 ⟨#[]⟩ l c (j : Nat) w4 from blk_below HT3.out hb4)
  have HR4 := Lib.hid (show TokAt w.heap.size 0 0 ⟨#[]⟩ 0 0 0 w4 from blk_below HR3.out hb4)
  have HK4 := Lib.hid (show KeepB w w4 b none from HK3.out.trans (KeepB.of_below hb4 b none) (.inl rfl))
  clear hb4 HL3 HT3 HR3 HK3
  have d0 : w4.cell? ⟨b, 0, none⟩ = some (.string T) := blk_cell HL4.out 0
  have d1 : w4.cell? ⟨b, 1, none⟩ = some (.int .i64 (j : Nat)) := blk_cell HL4.out 1
  have t0 : w4.cell? ⟨tb, 0, none⟩ = some (.int .i64 14) := blk_cell HT4.out 0
  have t5 : w4.cell? ⟨tb, 5, none⟩ = some (.int .i64 (j : Nat)) := blk_cell HT4.out 5
  have f0 := blk_frozen HT4.out 0
  have f5 := blk_frozen HT4.out 5
  (go_wp2_with fail; repeat (go_region; go_wp2_with fail))
  obtain ⟨er, R⟩ := R
  have hr := HRX.out
  injection hr with hr0 hr1
  subst hr0
  have hp := HPL.out rfl
  have HG := Lib.hid (show GoI b tb w.heap.size T w R q j l c ((w4.setCell ⟨tb, 0, none⟩ (.int .i64 ok)).setCell ⟨tb, 5, none⟩ (.int .i64 ((j : Int) + m))) from
    ⟨blk_far (blk_far HL4.out hbt _) hbt _, by
      have := blk_set (blk_set HT4.out 0 (.int .i64 ok)) 5 (.int .i64 ((j : Int) + m))
      rw [← hr1]
      show TokAt tb ok 0 ⟨#[]⟩ l c ((j + (m : Int).toNat : Nat) : Int) _
      rw [show (((j + (m : Int).toNat : Nat) : Int)) = (j : Int) + m by omega]
      exact this, blk_far (blk_far HR4.out hrt _) hrt _, keep_farB (keep_farB HK4.out htb _) htb _, HQ.out, Nat.le_of_lt hp.1, hp.2, HB.out.1, HB.out.2.1, HB.out.2.2.1, HB.out.2.2.2⟩)
  clear d0 d1 t0 t5 f0 f5 hr1 hp
  go_loopg [] (R.nx - j) (fun gk w' => ∃ (p : Nat) (l' c' : Int), gk = R.nx - p ∧ Hid (GoI b tb w.heap.size T w R q p l' c' w'))
  case atStart => exact ⟨j, l, c, rfl, HG⟩
  case round =>
    clear HG
    obtain ⟨p, l', c', rfl, HJ⟩ := hrel
    have e1 : wr.cell? ⟨b, 1, none⟩ = some (.int .i64 (p : Nat)) := blk_cell HJ.out.lex 1
    have e5 : wr.cell? ⟨tb, 5, none⟩ = some (.int .i64 (R.nx : Nat)) := blk_cell HJ.out.tok 5
    by_cases hp : p < R.nx
    · have hp' : (p : Int) < (R.nx : Nat) := by omega
      have HP := Lib.hid hp
      have HX := Lib.hid (show p < T.size from Nat.lt_of_lt_of_le hp HJ.out.nx)
      clear hp
      (go_wp2_with fail; repeat (go_region; go_wp2_with fail))
      refine (step_any b T p (T[p]'HX.out) l' c' _ (by first | exact HJ.out.lex | exact blk_drew HJ.out.lex) HX.out (fun _ => rfl) HT.out HJ.out.l0 (by have := HJ.out.l1; have := HX.out; have := HT.out; omega) HJ.out.c0 (by have := HJ.out.c1; have := HX.out; have := HT.out; omega)).mono ?_
      rintro e w6 hw6
      obtain rfl := hw6.ret
      have HW := Lib.hid (HJ.out.next (w0 := wr.drew) hbt hbr HP.out (fun _ => rfl) ⟨rfl, rfl, rfl, rfl⟩ hw6)
      clear hw6 e1 e5
      (go_wp2_with fail; repeat (go_region; go_wp2_with fail))
      go_roundg (R.nx - (p + 1))
      case measure => have := HP.out; omega
      case rel => exact ⟨p + 1, _, _, rfl, HW⟩
    · have hp' : ¬ (p : Int) < (R.nx : Nat) := by omega
      have hpe : p = R.nx := by have := HJ.out.le; omega
      have HE := Lib.hid (show (l', c') = q ∧ p = R.nx from ⟨by
        have := HJ.out.rest
        rw [hpe, Nat.sub_self, List.take_zero, whereL] at this
        exact this, hpe⟩)
      clear hpe
      go_wp2_with fail
      go_region
      have HL7 := Lib.hid (show LexAt b T (R.nx : Nat) q.1 q.2 wr.drew from by rw [← HE.out.1, ← HE.out.2]; exact HJ.out.lex)
      have HT7 := Lib.hid (show TokAt tb R.k R.n ⟨R.x.toArray⟩ R.ln R.cl (R.nx : Nat) wr.drew from HJ.out.tok)
      have HR7 := Lib.hid (show TokAt w.heap.size 0 0 ⟨#[]⟩ 0 0 0 wr.drew from HJ.out.res)
      have HK7 := Lib.hid (show KeepB w wr.drew b none from HJ.out.keep)
      clear e1 e5 HJ HE hp
      generalize wr.drew = w7 at HL7 HT7 HR7 HK7 ⊢
      have t0 : w7.cell? ⟨tb, 0, none⟩ = some (.int .i64 R.k) := blk_cell HT7.out 0
      have t1 : w7.cell? ⟨tb, 1, none⟩ = some (.int .i64 R.n) := blk_cell HT7.out 1
      have t2 : w7.cell? ⟨tb, 2, none⟩ = some (.string ⟨R.x.toArray⟩) := blk_cell HT7.out 2
      have t3 : w7.cell? ⟨tb, 3, none⟩ = some (.int .i64 R.ln) := blk_cell HT7.out 3
      have t4 : w7.cell? ⟨tb, 4, none⟩ = some (.int .i64 R.cl) := blk_cell HT7.out 4
      have t5 : w7.cell? ⟨tb, 5, none⟩ = some (.int .i64 (R.nx : Nat)) := blk_cell HT7.out 5
      have r0 : w7.cell? ⟨w.heap.size, 0, none⟩ = some (.int .i64 0) := blk_cell HR7.out 0
      have s0 := blk_frozen HR7.out 0
      have r1 : w7.cell? ⟨w.heap.size, 1, none⟩ = some (.int .i64 0) := blk_cell HR7.out 1
      have s1 := blk_frozen HR7.out 1
      have r2 : w7.cell? ⟨w.heap.size, 2, none⟩ = some (.string ⟨#[]⟩) := blk_cell HR7.out 2
      have s2 := blk_frozen HR7.out 2
      have r3 : w7.cell? ⟨w.heap.size, 3, none⟩ = some (.int .i64 0) := blk_cell HR7.out 3
      have s3 := blk_frozen HR7.out 3
      have r4 : w7.cell? ⟨w.heap.size, 4, none⟩ = some (.int .i64 0) := blk_cell HR7.out 4
      have s4 := blk_frozen HR7.out 4
      have r5 : w7.cell? ⟨w.heap.size, 5, none⟩ = some (.int .i64 0) := blk_cell HR7.out 5
      have s5 := blk_frozen HR7.out 5
      (go_wp2_with fail; repeat (go_region; go_wp2_with fail))
      have HX := tok_put HR7.out (R.k) (R.n) (⟨R.x.toArray⟩) (R.ln) (R.cl) ((R.nx : Nat))
      have q0 := blk_cell HX 0
      have q1 := blk_cell HX 1
      have q2 := blk_cell HX 2
      have q3 := blk_cell HX 3
      have q4 := blk_cell HX 4
      have q5 := blk_cell HX 5
      clear r0 s0 r1 s1 r2 s2 r3 s3 r4 s4 r5 s5 t0 t1 t2 t3 t4 t5
      (try simp only [Exit.inBlock, Exit.then])
      refine bodyPost_ret (by simp [results, Tryd.results65, go_sem, q0, q1, q2, q3, q4, q5]; rfl) rfl ?_
      exact ⟨rfl, fun _ => by skip; exact (blk_far (blk_far (blk_far (blk_far (blk_far (blk_far HL7.out hbr _) hbr _) hbr _) hbr _) hbr _) hbr _), (keep_farB (keep_farB (keep_farB (keep_farB (keep_farB (keep_farB HK7.out (Nat.le_refl _) _) (Nat.le_refl _) _) (Nat.le_refl _) _) (Nat.le_refl _) _) (Nat.le_refl _) _) (Nat.le_refl _) _)⟩
end Go.Proofs.YthighbbikpnpgaaDoor

/-! LeTd -/
namespace Go.Proofs.YthighbbikpnpgaaDoor
open Go.RowKit Go.Proofs.YthighbbikpnpgaaDoorW.PrintWords

set_option maxRecDepth 400000 in
set_option maxHeartbeats 16000000 in
theorem token_sharp (b : Nat) (T : ByteArray) (i : Nat) (ln cl : Int) (w : World) (h : LexAt b T i ln cl w) (hi : i ≤ T.size) (hT : T.size ≤ 1000000000) (h1 : 0 ≤ ln) (h2 : ln ≤ 1100000000) (h3 : 0 ≤ cl) (h4 : cl ≤ 1100000000) (j : Nat) (l c : Int) (hs : SkipS T i ln cl j l c) (hj : j < T.size) (x : UInt8) (hx : ∀ h, T[j]'h = x) (hn : ¬ (0 : Int) < (oneP x (twoP T (j + 1))).2) (h35 : x = 35) :
    Calls Tryd.prog 65 #[.pointer (some ⟨b, 0, none⟩)] w (TokenTo b T (tokX T j x l c) (whereL ((T.data.toList.drop j).take ((tokX T j x l c).2.nx - j)) l c) w) := by
  have hsk := fun (w : World) h => skip_any b T i ln cl w h hi hT h1 h2 h3 h4
  have hl := hs.line
  have hc := hs.col h3
  have hge := hs.ge
  have hle := hs.le
  simp only [hs.eq] at hsk
  have HL := Lib.hid h
  have HSK := Lib.hid hsk
  have HT := Lib.hid hT
  have HB := Lib.hid (show 0 ≤ l ∧ l ≤ 1100000000 + (j : Nat) ∧ 0 ≤ c ∧ c ≤ 1100000000 + (j : Nat) by omega)
  have hst := hs.stop hj
  rw [hx] at hst
  obtain ⟨R, hR⟩ : ∃ R, tokX T j x l c = R := ⟨_, rfl⟩
  have HRX := Lib.hid hR
  have hpl := tokX_place T j x l c hj hx hst.1 hst.2
  rw [hR] at hpl ⊢
  obtain ⟨q, hq⟩ : ∃ q, whereL ((T.data.toList.drop j).take (R.2.nx - j)) l c = q := ⟨_, rfl⟩
  have HQ := Lib.hid hq
  rw [hq]
  have HPL := Lib.hid hpl
  have HX := Lib.hid hx
  have HJT := Lib.hid hj
  have hj' : (j : Int) < (T.size : Nat) := by omega
  have hje : ¬ (j : Int) = (T.size : Nat) := by omega
  have hjb : ((j : Int) == (T.size : Nat)) = false := beq_eq_false_iff_ne.2 hje
  have x256 : x.toNat < 256 := x.toNat_lt
  subst h35
  rw [tokX, if_neg hn, if_pos rfl] at HRX
  obtain ⟨⟨ok, on⟩, ho⟩ : ∃ o, oneP 35 (twoP T (j + 1)) = o := ⟨_, rfl⟩
  have HO := Lib.hid ho
  rw [ho] at hn
  simp only at hn
  have hnb : decide ((0 : Int) < on) = false := decide_eq_false hn
  clear ho 
  clear hsk hl hc hT h1 h2 h3 h4 h hi hge hs hle hst hR hpl hq
  go_enter Tryd.func65, Tryd.ntmps65
  go_wp2_with fail
  refine (HSK.out _ (blk_alloc HL.out _)).mono ?_
  rintro e w1 hw1
  obtain rfl := hw1.ret
  have HW1 := Lib.hid hw1
  clear hw1
  have d0 : w1.cell? ⟨b, 0, none⟩ = some (.string T) := blk_cell HW1.out.lies 0
  have d1 : w1.cell? ⟨b, 1, none⟩ = some (.int .i64 (j : Nat)) := blk_cell HW1.out.lies 1
  have d2 : w1.cell? ⟨b, 2, none⟩ = some (.int .i64 l) := blk_cell HW1.out.lies 2
  have d3 : w1.cell? ⟨b, 3, none⟩ = some (.int .i64 c) := blk_cell HW1.out.lies 3
  have lb : b < w1.heap.size := blk_lt HW1.out.lies
  have lbw : b < w.heap.size := blk_lt HL.out
  have HRB := Lib.hid (show TokAt w.heap.size 0 0 ⟨#[]⟩ 0 0 0 w1 from HW1.out.keep.blk (blk_new w _) (by omega) (by simp))
  have lr : w.heap.size < w1.heap.size := blk_lt HRB.out
  go_wp2_with fail
  go_region
  go_wp2_with fail
  go_region
  have HL3 := Lib.hid (show LexAt b T (j : Nat) l c ((w1.alloc (.cells #[.int .i64 14, .int .i64 0, .string ⟨#[]⟩, .int .i64 l, .int .i64 c, .int .i64 (j : Nat)] 60)).drew.drew) from blk_drew (blk_drew (blk_alloc HW1.out.lies _)))
  have HT3 := Lib.hid (show TokAt w1.heap.size 14 0 ⟨#[]⟩ l c (j : Nat) ((w1.alloc (.cells #[.int .i64 14, .int .i64 0, .string ⟨#[]⟩, .int .i64 l, .int .i64 c, .int .i64 (j : Nat)] 60)).drew.drew) from blk_drew (blk_drew (blk_new w1 _)))
  have HR3 := Lib.hid (show TokAt w.heap.size 0 0 ⟨#[]⟩ 0 0 0 ((w1.alloc (.cells #[.int .i64 14, .int .i64 0, .string ⟨#[]⟩, .int .i64 l, .int .i64 c, .int .i64 (j : Nat)] 60)).drew.drew) from blk_drew (blk_drew (blk_alloc HRB.out _)))
  have HK3 := Lib.hid (show KeepB w ((w1.alloc (.cells #[.int .i64 14, .int .i64 0, .string ⟨#[]⟩, .int .i64 l, .int .i64 c, .int .i64 (j : Nat)] 60)).drew.drew) b none from by
    have h1 : KeepB w (w.alloc (.cells #[.int .i64 0, .int .i64 0, .string ⟨#[]⟩, .int .i64 0, .int .i64 0, .int .i64 0] 60)) b none := keep_allocB (KeepB.refl w b none) _
    exact keep_allocB (h1.trans HW1.out.keep (.inl rfl)) _)
  clear d0 d1 d2 d3
  generalize (w1.alloc (.cells #[.int .i64 14, .int .i64 0, .string ⟨#[]⟩, .int .i64 l, .int .i64 c, .int .i64 (j : Nat)] 60)).drew.drew = w3 at HL3 HT3 HR3 HK3 ⊢
  have htb : w.heap.size ≤ w1.heap.size := Nat.le_of_lt lr
  have hrt : w.heap.size ≠ w1.heap.size := Nat.ne_of_lt lr
  have hbt : b ≠ w1.heap.size := Nat.ne_of_lt lb
  have hbr : b ≠ w.heap.size := Nat.ne_of_lt lbw
  clear HW1 HRB lb lr
  generalize w1.heap.size = tb at HT3 htb hrt hbt ⊢
  go_wp2_with fail
  refine (one_same b T j _ (twoP T (j + 1)) l c _ HL3.out HJT.out HX.out (two_is T (j + 1)) HT.out).mono ?_
  rintro e w4 ⟨rfl, hb4⟩
  rw [HO.out]
  have HL4 := Lib.hid (show LexAt b T (j : Nat) l c w4 from blk_below HL3.out hb4)
  have HT4 := Lib.hid (show TokAt tb 14 0 ⟨#[]⟩ l c (j : Nat) w4 from blk_below HT3.out hb4)
  have HR4 := Lib.hid (show TokAt w.heap.size 0 0 ⟨#[]⟩ 0 0 0 w4 from blk_below HR3.out hb4)
  have HK4 := Lib.hid (show KeepB w w4 b none from HK3.out.trans (KeepB.of_below hb4 b none) (.inl rfl))
  clear hb4 HL3 HT3 HR3 HK3
  have d0 : w4.cell? ⟨b, 0, none⟩ = some (.string T) := blk_cell HL4.out 0
  have d1 : w4.cell? ⟨b, 1, none⟩ = some (.int .i64 (j : Nat)) := blk_cell HL4.out 1
  (go_wp2_with fail; repeat (go_region; go_wp2_with fail))
  refine (sharp_any b tb T j l c 14 l c (j : Nat) _ (by first | exact HL4.out | exact blk_drew HL4.out | exact blk_drew (blk_drew HL4.out)) (by first | exact HT4.out | exact blk_drew HT4.out | exact blk_drew (blk_drew HT4.out)) HJT.out HT.out).mono ?_
  rintro e w5 hw5
  obtain rfl := hw5.ret
  have HL5 := Lib.hid (show LexAt b T (j : Nat) l c w5 from hw5.lex)
  have HTT := Lib.hid hw5.tok
  have HPOS := Lib.hid hw5.pos
  have HK5 := Lib.hid (show KeepB w w5 b none from keep_fresh HK4.out hw5.keep htb)
  have HR5 := Lib.hid (show TokAt w.heap.size 0 0 ⟨#[]⟩ 0 0 0 w5 from hw5.keep.blk HR4.out hrt (by simp))
  clear hw5 d0 d1
  obtain ⟨er, R⟩ := R
  have hr := HRX.out
  injection hr with hr0 hr1
  have HR1 := Lib.hid hr1
  clear hr1
  by_cases hcode : er = 0
  · subst hcode
    rw [show errV ((sharpL T j (T.data.toList.drop (j + 1))).1) = .nilIface by rw [hr0]; rfl]
    have HT5 := Lib.hid (HTT.out hr0)
    have hp := HPL.out rfl
    have HNX := Lib.hid (show j ≤ R.nx ∧ R.nx ≤ T.size from ⟨Nat.le_of_lt hp.1, hp.2⟩)
    clear hr0 hp
    (go_wp2_with fail; repeat (go_region; go_wp2_with fail))
    have HG := Lib.hid (show GoI b tb w.heap.size T w R q j l c w5 from ⟨HL5.out, by rw [← HR1.out]; exact HT5.out, HR5.out, HK5.out, HQ.out, HNX.out.1, HNX.out.2, HB.out.1, HB.out.2.1, HB.out.2.2.1, HB.out.2.2.2⟩)
    go_loopg [] (R.nx - j) (fun gk w' => ∃ (p : Nat) (l' c' : Int), gk = R.nx - p ∧ Hid (GoI b tb w.heap.size T w R q p l' c' w'))
    case atStart => exact ⟨j, l, c, rfl, HG⟩
    case round =>
      clear HG
      obtain ⟨p, l', c', rfl, HJ⟩ := hrel
      have e1 : wr.cell? ⟨b, 1, none⟩ = some (.int .i64 (p : Nat)) := blk_cell HJ.out.lex 1
      have e5 : wr.cell? ⟨tb, 5, none⟩ = some (.int .i64 (R.nx : Nat)) := blk_cell HJ.out.tok 5
      by_cases hp : p < R.nx
      · have hp' : (p : Int) < (R.nx : Nat) := by omega
        have HP := Lib.hid hp
        have HX := Lib.hid (show p < T.size from Nat.lt_of_lt_of_le hp HJ.out.nx)
        clear hp
        (go_wp2_with fail; repeat (go_region; go_wp2_with fail))
        refine (step_any b T p (T[p]'HX.out) l' c' _ (by first | exact HJ.out.lex | exact blk_drew HJ.out.lex) HX.out (fun _ => rfl) HT.out HJ.out.l0 (by have := HJ.out.l1; have := HX.out; have := HT.out; omega) HJ.out.c0 (by have := HJ.out.c1; have := HX.out; have := HT.out; omega)).mono ?_
        rintro e w6 hw6
        obtain rfl := hw6.ret
        have HW := Lib.hid (HJ.out.next (w0 := wr.drew) hbt hbr HP.out (fun _ => rfl) ⟨rfl, rfl, rfl, rfl⟩ hw6)
        clear hw6 e1 e5
        (go_wp2_with fail; repeat (go_region; go_wp2_with fail))
        go_roundg (R.nx - (p + 1))
        case measure => have := HP.out; omega
        case rel => exact ⟨p + 1, _, _, rfl, HW⟩
      · have hp' : ¬ (p : Int) < (R.nx : Nat) := by omega
        have hpe : p = R.nx := by have := HJ.out.le; omega
        have HE := Lib.hid (show (l', c') = q ∧ p = R.nx from ⟨by
          have := HJ.out.rest
          rw [hpe, Nat.sub_self, List.take_zero, whereL] at this
          exact this, hpe⟩)
        clear hpe
        go_wp2_with fail
        go_region
        have HL7 := Lib.hid (show LexAt b T (R.nx : Nat) q.1 q.2 wr.drew from by rw [← HE.out.1, ← HE.out.2]; exact HJ.out.lex)
        have HT7 := Lib.hid (show TokAt tb R.k R.n ⟨R.x.toArray⟩ R.ln R.cl (R.nx : Nat) wr.drew from HJ.out.tok)
        have HR7 := Lib.hid (show TokAt w.heap.size 0 0 ⟨#[]⟩ 0 0 0 wr.drew from HJ.out.res)
        have HK7 := Lib.hid (show KeepB w wr.drew b none from HJ.out.keep)
        clear e1 e5 HJ HE hp
        generalize wr.drew = w7 at HL7 HT7 HR7 HK7 ⊢
        have t0 : w7.cell? ⟨tb, 0, none⟩ = some (.int .i64 R.k) := blk_cell HT7.out 0
        have t1 : w7.cell? ⟨tb, 1, none⟩ = some (.int .i64 R.n) := blk_cell HT7.out 1
        have t2 : w7.cell? ⟨tb, 2, none⟩ = some (.string ⟨R.x.toArray⟩) := blk_cell HT7.out 2
        have t3 : w7.cell? ⟨tb, 3, none⟩ = some (.int .i64 R.ln) := blk_cell HT7.out 3
        have t4 : w7.cell? ⟨tb, 4, none⟩ = some (.int .i64 R.cl) := blk_cell HT7.out 4
        have t5 : w7.cell? ⟨tb, 5, none⟩ = some (.int .i64 (R.nx : Nat)) := blk_cell HT7.out 5
        have r0 : w7.cell? ⟨w.heap.size, 0, none⟩ = some (.int .i64 0) := blk_cell HR7.out 0
        have s0 := blk_frozen HR7.out 0
        have r1 : w7.cell? ⟨w.heap.size, 1, none⟩ = some (.int .i64 0) := blk_cell HR7.out 1
        have s1 := blk_frozen HR7.out 1
        have r2 : w7.cell? ⟨w.heap.size, 2, none⟩ = some (.string ⟨#[]⟩) := blk_cell HR7.out 2
        have s2 := blk_frozen HR7.out 2
        have r3 : w7.cell? ⟨w.heap.size, 3, none⟩ = some (.int .i64 0) := blk_cell HR7.out 3
        have s3 := blk_frozen HR7.out 3
        have r4 : w7.cell? ⟨w.heap.size, 4, none⟩ = some (.int .i64 0) := blk_cell HR7.out 4
        have s4 := blk_frozen HR7.out 4
        have r5 : w7.cell? ⟨w.heap.size, 5, none⟩ = some (.int .i64 0) := blk_cell HR7.out 5
        have s5 := blk_frozen HR7.out 5
        (go_wp2_with fail; repeat (go_region; go_wp2_with fail))
        have HX := tok_put HR7.out (R.k) (R.n) (⟨R.x.toArray⟩) (R.ln) (R.cl) ((R.nx : Nat))
        have q0 := blk_cell HX 0
        have q1 := blk_cell HX 1
        have q2 := blk_cell HX 2
        have q3 := blk_cell HX 3
        have q4 := blk_cell HX 4
        have q5 := blk_cell HX 5
        clear r0 s0 r1 s1 r2 s2 r3 s3 r4 s4 r5 s5 t0 t1 t2 t3 t4 t5
        (try simp only [Exit.inBlock, Exit.then])
        refine bodyPost_ret (by simp [results, Tryd.results65, go_sem, q0, q1, q2, q3, q4, q5]; rfl) rfl ?_
        exact ⟨rfl, fun _ => by skip; exact (blk_far (blk_far (blk_far (blk_far (blk_far (blk_far HL7.out hbr _) hbr _) hbr _) hbr _) hbr _) hbr _), (keep_farB (keep_farB (keep_farB (keep_farB (keep_farB (keep_farB HK7.out (Nat.le_refl _) _) (Nat.le_refl _) _) (Nat.le_refl _) _) (Nat.le_refl _) _) (Nat.le_refl _) _) (Nat.le_refl _) _)⟩
  · rw [show errV ((sharpL T j (T.data.toList.drop (j + 1))).1) = kindV er by rw [hr0]; exact errV_ne hcode]
    have HC := Lib.hid hcode
    have HRL := Lib.hid (show R.ln = l ∧ R.cl = c by rw [← HR1.out]; exact ⟨rfl, rfl⟩)
    obtain ⟨k', n', x', nx', hp5⟩ := HPOS.out (by rw [hr0]; exact hcode)
    have HT5 := Lib.hid hp5
    clear hr0 hp5 HTT
    have t3 : w5.cell? ⟨tb, 3, none⟩ = some (.int .i64 l) := blk_cell HT5.out 3
    have t4 : w5.cell? ⟨tb, 4, none⟩ = some (.int .i64 c) := blk_cell HT5.out 4
    have r0 : w5.cell? ⟨w.heap.size, 0, none⟩ = some (.int .i64 0) := blk_cell HR5.out 0
    have s0 := blk_frozen HR5.out 0
    have r1 : w5.cell? ⟨w.heap.size, 1, none⟩ = some (.int .i64 0) := blk_cell HR5.out 1
    have s1 := blk_frozen HR5.out 1
    have r2 : w5.cell? ⟨w.heap.size, 2, none⟩ = some (.string ⟨#[]⟩) := blk_cell HR5.out 2
    have s2 := blk_frozen HR5.out 2
    have r3 : w5.cell? ⟨w.heap.size, 3, none⟩ = some (.int .i64 0) := blk_cell HR5.out 3
    have s3 := blk_frozen HR5.out 3
    have r4 : w5.cell? ⟨w.heap.size, 4, none⟩ = some (.int .i64 0) := blk_cell HR5.out 4
    have s4 := blk_frozen HR5.out 4
    have r5 : w5.cell? ⟨w.heap.size, 5, none⟩ = some (.int .i64 0) := blk_cell HR5.out 5
    have s5 := blk_frozen HR5.out 5
    go_wp2_with fail
    go_region_held3 (fun w' => w'.cell? ⟨tb, 3, none⟩ = some (.int .i64 l) ∧ w'.cell? ⟨tb, 4, none⟩ = some (.int .i64 c)) (go_keep) (fail)
    clear r0 s0 r1 s1 r2 s2 r3 s3 r4 s4 r5 s5 t3 t4
    have HX := Lib.hid (show TokAt w.heap.size 0 0 ⟨#[]⟩ 0 0 0 (((((((w5.setCell ⟨w.heap.size, 0, none⟩ (.int .i64 0)).setCell ⟨w.heap.size, 1, none⟩ (.int .i64 0)).setCell ⟨w.heap.size, 2, none⟩ (.string ⟨#[]⟩)).setCell ⟨w.heap.size, 3, none⟩ (.int .i64 0)).setCell ⟨w.heap.size, 4, none⟩ (.int .i64 0)).setCell ⟨w.heap.size, 5, none⟩ (.int .i64 0)).drew) from blk_drew (tok_put HR5.out 0 0 ⟨#[]⟩ 0 0 0))
    have HK8 := Lib.hid (show KeepB w (((((((w5.setCell ⟨w.heap.size, 0, none⟩ (.int .i64 0)).setCell ⟨w.heap.size, 1, none⟩ (.int .i64 0)).setCell ⟨w.heap.size, 2, none⟩ (.string ⟨#[]⟩)).setCell ⟨w.heap.size, 3, none⟩ (.int .i64 0)).setCell ⟨w.heap.size, 4, none⟩ (.int .i64 0)).setCell ⟨w.heap.size, 5, none⟩ (.int .i64 0)).drew) b none from keep_drewB (keep_farB (keep_farB (keep_farB (keep_farB (keep_farB (keep_farB HK5.out (Nat.le_refl _) _) (Nat.le_refl _) _) (Nat.le_refl _) _) (Nat.le_refl _) _) (Nat.le_refl _) _) (Nat.le_refl _) _))
    clear HL5 HT5 HK5 HR5
    generalize ((((((w5.setCell ⟨w.heap.size, 0, none⟩ (.int .i64 0)).setCell ⟨w.heap.size, 1, none⟩ (.int .i64 0)).setCell ⟨w.heap.size, 2, none⟩ (.string ⟨#[]⟩)).setCell ⟨w.heap.size, 3, none⟩ (.int .i64 0)).setCell ⟨w.heap.size, 4, none⟩ (.int .i64 0)).setCell ⟨w.heap.size, 5, none⟩ (.int .i64 0)).drew = w8 at HX HK8 ⊢
    go_wp2_with fail
    have q0 := blk_cell HX.out 0
    have q1 := blk_cell HX.out 1
    have q2 := blk_cell HX.out 2
    have q3 := blk_cell HX.out 3
    have q4 := blk_cell HX.out 4
    have q5 := blk_cell HX.out 5
    (try simp only [Exit.inBlock, Exit.then])
    refine bodyPost_ret (by simp [results, Tryd.results65, go_sem, q0, q1, q2, q3, q4, q5]; rfl) rfl ?_
    exact ⟨by unfold tokRet; rw [if_neg HC.out, HRL.out.1, HRL.out.2]; rfl, fun h => absurd h HC.out, HK8.out⟩
end Go.Proofs.YthighbbikpnpgaaDoor

/-! LeTe -/
namespace Go.Proofs.YthighbbikpnpgaaDoor
open Go.RowKit Go.Proofs.YthighbbikpnpgaaDoorW.PrintWords

set_option maxRecDepth 400000 in
set_option maxHeartbeats 16000000 in
theorem token_str (b : Nat) (T : ByteArray) (i : Nat) (ln cl : Int) (w : World) (h : LexAt b T i ln cl w) (hi : i ≤ T.size) (hT : T.size ≤ 1000000000) (h1 : 0 ≤ ln) (h2 : ln ≤ 1100000000) (h3 : 0 ≤ cl) (h4 : cl ≤ 1100000000) (j : Nat) (l c : Int) (hs : SkipS T i ln cl j l c) (hj : j < T.size) (x : UInt8) (hx : ∀ h, T[j]'h = x) (hn : ¬ (0 : Int) < (oneP x (twoP T (j + 1))).2) (h34 : x = 34) :
    Calls Tryd.prog 65 #[.pointer (some ⟨b, 0, none⟩)] w (TokenTo b T (tokX T j x l c) (whereL ((T.data.toList.drop j).take ((tokX T j x l c).2.nx - j)) l c) w) := by
  have hsk := fun (w : World) h => skip_any b T i ln cl w h hi hT h1 h2 h3 h4
  have hl := hs.line
  have hc := hs.col h3
  have hge := hs.ge
  have hle := hs.le
  simp only [hs.eq] at hsk
  have HL := Lib.hid h
  have HSK := Lib.hid hsk
  have HT := Lib.hid hT
  have HB := Lib.hid (show 0 ≤ l ∧ l ≤ 1100000000 + (j : Nat) ∧ 0 ≤ c ∧ c ≤ 1100000000 + (j : Nat) by omega)
  have hst := hs.stop hj
  rw [hx] at hst
  obtain ⟨R, hR⟩ : ∃ R, tokX T j x l c = R := ⟨_, rfl⟩
  have HRX := Lib.hid hR
  have hpl := tokX_place T j x l c hj hx hst.1 hst.2
  rw [hR] at hpl ⊢
  obtain ⟨q, hq⟩ : ∃ q, whereL ((T.data.toList.drop j).take (R.2.nx - j)) l c = q := ⟨_, rfl⟩
  have HQ := Lib.hid hq
  rw [hq]
  have HPL := Lib.hid hpl
  have HX := Lib.hid hx
  have HJT := Lib.hid hj
  have hj' : (j : Int) < (T.size : Nat) := by omega
  have hje : ¬ (j : Int) = (T.size : Nat) := by omega
  have hjb : ((j : Int) == (T.size : Nat)) = false := beq_eq_false_iff_ne.2 hje
  have x256 : x.toNat < 256 := x.toNat_lt
  subst h34
  rw [tokX, if_neg hn, if_neg (by decide), if_pos rfl] at HRX
  obtain ⟨⟨ok, on⟩, ho⟩ : ∃ o, oneP 34 (twoP T (j + 1)) = o := ⟨_, rfl⟩
  have HO := Lib.hid ho
  rw [ho] at hn
  simp only at hn
  have hnb : decide ((0 : Int) < on) = false := decide_eq_false hn
  clear ho 
  clear hsk hl hc hT h1 h2 h3 h4 h hi hge hs hle hst hR hpl hq
  go_enter Tryd.func65, Tryd.ntmps65
  go_wp2_with fail
  refine (HSK.out _ (blk_alloc HL.out _)).mono ?_
  rintro e w1 hw1
  obtain rfl := hw1.ret
  have HW1 := Lib.hid hw1
  clear hw1
  have d0 : w1.cell? ⟨b, 0, none⟩ = some (.string T) := blk_cell HW1.out.lies 0
  have d1 : w1.cell? ⟨b, 1, none⟩ = some (.int .i64 (j : Nat)) := blk_cell HW1.out.lies 1
  have d2 : w1.cell? ⟨b, 2, none⟩ = some (.int .i64 l) := blk_cell HW1.out.lies 2
  have d3 : w1.cell? ⟨b, 3, none⟩ = some (.int .i64 c) := blk_cell HW1.out.lies 3
  have lb : b < w1.heap.size := blk_lt HW1.out.lies
  have lbw : b < w.heap.size := blk_lt HL.out
  have HRB := Lib.hid (show TokAt w.heap.size 0 0 ⟨#[]⟩ 0 0 0 w1 from HW1.out.keep.blk (blk_new w _) (by omega) (by simp))
  have lr : w.heap.size < w1.heap.size := blk_lt HRB.out
  go_wp2_with fail
  go_region
  go_wp2_with fail
  go_region
  have HL3 := Lib.hid (show LexAt b T (j : Nat) l c ((w1.alloc (.cells #[.int .i64 14, .int .i64 0, .string ⟨#[]⟩, .int .i64 l, .int .i64 c, .int .i64 (j : Nat)] 60)).drew.drew) from blk_drew (blk_drew (blk_alloc HW1.out.lies _)))
  have HT3 := Lib.hid (show TokAt w1.heap.size 14 0 ⟨#[]⟩ l c (j : Nat) ((w1.alloc (.cells #[.int .i64 14, .int .i64 0, .string ⟨#[]⟩, .int .i64 l, .int .i64 c, .int .i64 (j : Nat)] 60)).drew.drew) from blk_drew (blk_drew (blk_new w1 _)))
  have HR3 := Lib.hid (show TokAt w.heap.size 0 0 ⟨#[]⟩ 0 0 0 ((w1.alloc (.cells #[.int .i64 14, .int .i64 0, .string ⟨#[]⟩, .int .i64 l, .int .i64 c, .int .i64 (j : Nat)] 60)).drew.drew) from blk_drew (blk_drew (blk_alloc HRB.out _)))
  have HK3 := Lib.hid (show KeepB w ((w1.alloc (.cells #[.int .i64 14, .int .i64 0, .string ⟨#[]⟩, .int .i64 l, .int .i64 c, .int .i64 (j : Nat)] 60)).drew.drew) b none from by
    have h1 : KeepB w (w.alloc (.cells #[.int .i64 0, .int .i64 0, .string ⟨#[]⟩, .int .i64 0, .int .i64 0, .int .i64 0] 60)) b none := keep_allocB (KeepB.refl w b none) _
    exact keep_allocB (h1.trans HW1.out.keep (.inl rfl)) _)
  clear d0 d1 d2 d3
  generalize (w1.alloc (.cells #[.int .i64 14, .int .i64 0, .string ⟨#[]⟩, .int .i64 l, .int .i64 c, .int .i64 (j : Nat)] 60)).drew.drew = w3 at HL3 HT3 HR3 HK3 ⊢
  have htb : w.heap.size ≤ w1.heap.size := Nat.le_of_lt lr
  have hrt : w.heap.size ≠ w1.heap.size := Nat.ne_of_lt lr
  have hbt : b ≠ w1.heap.size := Nat.ne_of_lt lb
  have hbr : b ≠ w.heap.size := Nat.ne_of_lt lbw
  clear HW1 HRB lb lr
  generalize w1.heap.size = tb at HT3 htb hrt hbt ⊢
  go_wp2_with fail
  refine (one_same b T j _ (twoP T (j + 1)) l c _ HL3.out HJT.out HX.out (two_is T (j + 1)) HT.out).mono ?_
  rintro e w4 ⟨rfl, hb4⟩
  rw [HO.out]
  have HL4 := Lib.hid (show LexAt b T (j : Nat) l c w4 from blk_below HL3.out hb4)
  have HT4 := Lib.hid (show TokAt tb 14 0 ⟨#[]⟩ l c (j : Nat) w4 from blk_below HT3.out hb4)
  have HR4 := Lib.hid (show TokAt w.heap.size 0 0 ⟨#[]⟩ 0 0 0 w4 from blk_below HR3.out hb4)
  have HK4 := Lib.hid (show KeepB w w4 b none from HK3.out.trans (KeepB.of_below hb4 b none) (.inl rfl))
  clear hb4 HL3 HT3 HR3 HK3
  have d0 : w4.cell? ⟨b, 0, none⟩ = some (.string T) := blk_cell HL4.out 0
  have d1 : w4.cell? ⟨b, 1, none⟩ = some (.int .i64 (j : Nat)) := blk_cell HL4.out 1
  (go_wp2_with fail; repeat (go_region; go_wp2_with fail))
  refine (str_any b tb T j l c 14 l c (j : Nat) _ (by first | exact HL4.out | exact blk_drew HL4.out | exact blk_drew (blk_drew HL4.out)) (by first | exact HT4.out | exact blk_drew HT4.out | exact blk_drew (blk_drew HT4.out)) HJT.out HT.out).mono ?_
  rintro e w5 hw5
  obtain rfl := hw5.ret
  have HL5 := Lib.hid (show LexAt b T (j : Nat) l c w5 from hw5.lex)
  have HTT := Lib.hid hw5.tok
  have HPOS := Lib.hid hw5.pos
  have HK5 := Lib.hid (show KeepB w w5 b none from keep_fresh HK4.out hw5.keep htb)
  have HR5 := Lib.hid (show TokAt w.heap.size 0 0 ⟨#[]⟩ 0 0 0 w5 from hw5.keep.blk HR4.out hrt (by simp))
  clear hw5 d0 d1
  obtain ⟨er, R⟩ := R
  have hr := HRX.out
  injection hr with hr0 hr1
  have HR1 := Lib.hid hr1
  clear hr1
  by_cases hcode : er = 0
  · subst hcode
    rw [show errV (strE (strP (T.data.toList.drop (j + 1)) [] (j + 1))) = .nilIface by rw [hr0]; rfl]
    have HT5 := Lib.hid (HTT.out hr0)
    have hp := HPL.out rfl
    have HNX := Lib.hid (show j ≤ R.nx ∧ R.nx ≤ T.size from ⟨Nat.le_of_lt hp.1, hp.2⟩)
    clear hr0 hp
    (go_wp2_with fail; repeat (go_region; go_wp2_with fail))
    have HG := Lib.hid (show GoI b tb w.heap.size T w R q j l c w5 from ⟨HL5.out, by rw [← HR1.out]; exact HT5.out, HR5.out, HK5.out, HQ.out, HNX.out.1, HNX.out.2, HB.out.1, HB.out.2.1, HB.out.2.2.1, HB.out.2.2.2⟩)
    go_loopg [] (R.nx - j) (fun gk w' => ∃ (p : Nat) (l' c' : Int), gk = R.nx - p ∧ Hid (GoI b tb w.heap.size T w R q p l' c' w'))
    case atStart => exact ⟨j, l, c, rfl, HG⟩
    case round =>
      clear HG
      obtain ⟨p, l', c', rfl, HJ⟩ := hrel
      have e1 : wr.cell? ⟨b, 1, none⟩ = some (.int .i64 (p : Nat)) := blk_cell HJ.out.lex 1
      have e5 : wr.cell? ⟨tb, 5, none⟩ = some (.int .i64 (R.nx : Nat)) := blk_cell HJ.out.tok 5
      by_cases hp : p < R.nx
      · have hp' : (p : Int) < (R.nx : Nat) := by omega
        have HP := Lib.hid hp
        have HX := Lib.hid (show p < T.size from Nat.lt_of_lt_of_le hp HJ.out.nx)
        clear hp
        (go_wp2_with fail; repeat (go_region; go_wp2_with fail))
        refine (step_any b T p (T[p]'HX.out) l' c' _ (by first | exact HJ.out.lex | exact blk_drew HJ.out.lex) HX.out (fun _ => rfl) HT.out HJ.out.l0 (by have := HJ.out.l1; have := HX.out; have := HT.out; omega) HJ.out.c0 (by have := HJ.out.c1; have := HX.out; have := HT.out; omega)).mono ?_
        rintro e w6 hw6
        obtain rfl := hw6.ret
        have HW := Lib.hid (HJ.out.next (w0 := wr.drew) hbt hbr HP.out (fun _ => rfl) ⟨rfl, rfl, rfl, rfl⟩ hw6)
        clear hw6 e1 e5
        (go_wp2_with fail; repeat (go_region; go_wp2_with fail))
        go_roundg (R.nx - (p + 1))
        case measure => have := HP.out; omega
        case rel => exact ⟨p + 1, _, _, rfl, HW⟩
      · have hp' : ¬ (p : Int) < (R.nx : Nat) := by omega
        have hpe : p = R.nx := by have := HJ.out.le; omega
        have HE := Lib.hid (show (l', c') = q ∧ p = R.nx from ⟨by
          have := HJ.out.rest
          rw [hpe, Nat.sub_self, List.take_zero, whereL] at this
          exact this, hpe⟩)
        clear hpe
        go_wp2_with fail
        go_region
        have HL7 := Lib.hid (show LexAt b T (R.nx : Nat) q.1 q.2 wr.drew from by rw [← HE.out.1, ← HE.out.2]; exact HJ.out.lex)
        have HT7 := Lib.hid (show TokAt tb R.k R.n ⟨R.x.toArray⟩ R.ln R.cl (R.nx : Nat) wr.drew from HJ.out.tok)
        have HR7 := Lib.hid (show TokAt w.heap.size 0 0 ⟨#[]⟩ 0 0 0 wr.drew from HJ.out.res)
        have HK7 := Lib.hid (show KeepB w wr.drew b none from HJ.out.keep)
        clear e1 e5 HJ HE hp
        generalize wr.drew = w7 at HL7 HT7 HR7 HK7 ⊢
        have t0 : w7.cell? ⟨tb, 0, none⟩ = some (.int .i64 R.k) := blk_cell HT7.out 0
        have t1 : w7.cell? ⟨tb, 1, none⟩ = some (.int .i64 R.n) := blk_cell HT7.out 1
        have t2 : w7.cell? ⟨tb, 2, none⟩ = some (.string ⟨R.x.toArray⟩) := blk_cell HT7.out 2
        have t3 : w7.cell? ⟨tb, 3, none⟩ = some (.int .i64 R.ln) := blk_cell HT7.out 3
        have t4 : w7.cell? ⟨tb, 4, none⟩ = some (.int .i64 R.cl) := blk_cell HT7.out 4
        have t5 : w7.cell? ⟨tb, 5, none⟩ = some (.int .i64 (R.nx : Nat)) := blk_cell HT7.out 5
        have r0 : w7.cell? ⟨w.heap.size, 0, none⟩ = some (.int .i64 0) := blk_cell HR7.out 0
        have s0 := blk_frozen HR7.out 0
        have r1 : w7.cell? ⟨w.heap.size, 1, none⟩ = some (.int .i64 0) := blk_cell HR7.out 1
        have s1 := blk_frozen HR7.out 1
        have r2 : w7.cell? ⟨w.heap.size, 2, none⟩ = some (.string ⟨#[]⟩) := blk_cell HR7.out 2
        have s2 := blk_frozen HR7.out 2
        have r3 : w7.cell? ⟨w.heap.size, 3, none⟩ = some (.int .i64 0) := blk_cell HR7.out 3
        have s3 := blk_frozen HR7.out 3
        have r4 : w7.cell? ⟨w.heap.size, 4, none⟩ = some (.int .i64 0) := blk_cell HR7.out 4
        have s4 := blk_frozen HR7.out 4
        have r5 : w7.cell? ⟨w.heap.size, 5, none⟩ = some (.int .i64 0) := blk_cell HR7.out 5
        have s5 := blk_frozen HR7.out 5
        (go_wp2_with fail; repeat (go_region; go_wp2_with fail))
        have HX := tok_put HR7.out (R.k) (R.n) (⟨R.x.toArray⟩) (R.ln) (R.cl) ((R.nx : Nat))
        have q0 := blk_cell HX 0
        have q1 := blk_cell HX 1
        have q2 := blk_cell HX 2
        have q3 := blk_cell HX 3
        have q4 := blk_cell HX 4
        have q5 := blk_cell HX 5
        clear r0 s0 r1 s1 r2 s2 r3 s3 r4 s4 r5 s5 t0 t1 t2 t3 t4 t5
        (try simp only [Exit.inBlock, Exit.then])
        refine bodyPost_ret (by simp [results, Tryd.results65, go_sem, q0, q1, q2, q3, q4, q5]; rfl) rfl ?_
        exact ⟨rfl, fun _ => by skip; exact (blk_far (blk_far (blk_far (blk_far (blk_far (blk_far HL7.out hbr _) hbr _) hbr _) hbr _) hbr _) hbr _), (keep_farB (keep_farB (keep_farB (keep_farB (keep_farB (keep_farB HK7.out (Nat.le_refl _) _) (Nat.le_refl _) _) (Nat.le_refl _) _) (Nat.le_refl _) _) (Nat.le_refl _) _) (Nat.le_refl _) _)⟩
  · rw [show errV (strE (strP (T.data.toList.drop (j + 1)) [] (j + 1))) = kindV er by rw [hr0]; exact errV_ne hcode]
    have HC := Lib.hid hcode
    have HRL := Lib.hid (show R.ln = l ∧ R.cl = c by rw [← HR1.out]; exact ⟨rfl, rfl⟩)
    obtain ⟨k', n', x', nx', hp5⟩ := HPOS.out (by rw [hr0]; exact hcode)
    have HT5 := Lib.hid hp5
    clear hr0 hp5 HTT
    have t3 : w5.cell? ⟨tb, 3, none⟩ = some (.int .i64 l) := blk_cell HT5.out 3
    have t4 : w5.cell? ⟨tb, 4, none⟩ = some (.int .i64 c) := blk_cell HT5.out 4
    have r0 : w5.cell? ⟨w.heap.size, 0, none⟩ = some (.int .i64 0) := blk_cell HR5.out 0
    have s0 := blk_frozen HR5.out 0
    have r1 : w5.cell? ⟨w.heap.size, 1, none⟩ = some (.int .i64 0) := blk_cell HR5.out 1
    have s1 := blk_frozen HR5.out 1
    have r2 : w5.cell? ⟨w.heap.size, 2, none⟩ = some (.string ⟨#[]⟩) := blk_cell HR5.out 2
    have s2 := blk_frozen HR5.out 2
    have r3 : w5.cell? ⟨w.heap.size, 3, none⟩ = some (.int .i64 0) := blk_cell HR5.out 3
    have s3 := blk_frozen HR5.out 3
    have r4 : w5.cell? ⟨w.heap.size, 4, none⟩ = some (.int .i64 0) := blk_cell HR5.out 4
    have s4 := blk_frozen HR5.out 4
    have r5 : w5.cell? ⟨w.heap.size, 5, none⟩ = some (.int .i64 0) := blk_cell HR5.out 5
    have s5 := blk_frozen HR5.out 5
    go_wp2_with fail
    go_region_held3 (fun w' => w'.cell? ⟨tb, 3, none⟩ = some (.int .i64 l) ∧ w'.cell? ⟨tb, 4, none⟩ = some (.int .i64 c)) (go_keep) (fail)
    clear r0 s0 r1 s1 r2 s2 r3 s3 r4 s4 r5 s5 t3 t4
    have HX := Lib.hid (show TokAt w.heap.size 0 0 ⟨#[]⟩ 0 0 0 (((((((w5.setCell ⟨w.heap.size, 0, none⟩ (.int .i64 0)).setCell ⟨w.heap.size, 1, none⟩ (.int .i64 0)).setCell ⟨w.heap.size, 2, none⟩ (.string ⟨#[]⟩)).setCell ⟨w.heap.size, 3, none⟩ (.int .i64 0)).setCell ⟨w.heap.size, 4, none⟩ (.int .i64 0)).setCell ⟨w.heap.size, 5, none⟩ (.int .i64 0)).drew) from blk_drew (tok_put HR5.out 0 0 ⟨#[]⟩ 0 0 0))
    have HK8 := Lib.hid (show KeepB w (((((((w5.setCell ⟨w.heap.size, 0, none⟩ (.int .i64 0)).setCell ⟨w.heap.size, 1, none⟩ (.int .i64 0)).setCell ⟨w.heap.size, 2, none⟩ (.string ⟨#[]⟩)).setCell ⟨w.heap.size, 3, none⟩ (.int .i64 0)).setCell ⟨w.heap.size, 4, none⟩ (.int .i64 0)).setCell ⟨w.heap.size, 5, none⟩ (.int .i64 0)).drew) b none from keep_drewB (keep_farB (keep_farB (keep_farB (keep_farB (keep_farB (keep_farB HK5.out (Nat.le_refl _) _) (Nat.le_refl _) _) (Nat.le_refl _) _) (Nat.le_refl _) _) (Nat.le_refl _) _) (Nat.le_refl _) _))
    clear HL5 HT5 HK5 HR5
    generalize ((((((w5.setCell ⟨w.heap.size, 0, none⟩ (.int .i64 0)).setCell ⟨w.heap.size, 1, none⟩ (.int .i64 0)).setCell ⟨w.heap.size, 2, none⟩ (.string ⟨#[]⟩)).setCell ⟨w.heap.size, 3, none⟩ (.int .i64 0)).setCell ⟨w.heap.size, 4, none⟩ (.int .i64 0)).setCell ⟨w.heap.size, 5, none⟩ (.int .i64 0)).drew = w8 at HX HK8 ⊢
    go_wp2_with fail
    have q0 := blk_cell HX.out 0
    have q1 := blk_cell HX.out 1
    have q2 := blk_cell HX.out 2
    have q3 := blk_cell HX.out 3
    have q4 := blk_cell HX.out 4
    have q5 := blk_cell HX.out 5
    (try simp only [Exit.inBlock, Exit.then])
    refine bodyPost_ret (by simp [results, Tryd.results65, go_sem, q0, q1, q2, q3, q4, q5]; rfl) rfl ?_
    exact ⟨by unfold tokRet; rw [if_neg HC.out, HRL.out.1, HRL.out.2]; rfl, fun h => absurd h HC.out, HK8.out⟩
end Go.Proofs.YthighbbikpnpgaaDoor

/-! LeTf -/
namespace Go.Proofs.YthighbbikpnpgaaDoor
open Go.RowKit Go.Proofs.YthighbbikpnpgaaDoorW.PrintWords

set_option maxRecDepth 400000 in
set_option maxHeartbeats 16000000 in
theorem token_word (b : Nat) (T : ByteArray) (i : Nat) (ln cl : Int) (w : World) (h : LexAt b T i ln cl w) (hi : i ≤ T.size) (hT : T.size ≤ 1000000000) (h1 : 0 ≤ ln) (h2 : ln ≤ 1100000000) (h3 : 0 ≤ cl) (h4 : cl ≤ 1100000000) (j : Nat) (l c : Int) (hs : SkipS T i ln cl j l c) (hj : j < T.size) (x : UInt8) (hx : ∀ h, T[j]'h = x) (hn : ¬ (0 : Int) < (oneP x (twoP T (j + 1))).2) (h35 : x ≠ 35) (h34 : x ≠ 34) :
    Calls Tryd.prog 65 #[.pointer (some ⟨b, 0, none⟩)] w (TokenTo b T (tokX T j x l c) (whereL ((T.data.toList.drop j).take ((tokX T j x l c).2.nx - j)) l c) w) := by
  have hsk := fun (w : World) h => skip_any b T i ln cl w h hi hT h1 h2 h3 h4
  have hl := hs.line
  have hc := hs.col h3
  have hge := hs.ge
  have hle := hs.le
  simp only [hs.eq] at hsk
  have HL := Lib.hid h
  have HSK := Lib.hid hsk
  have HT := Lib.hid hT
  have HB := Lib.hid (show 0 ≤ l ∧ l ≤ 1100000000 + (j : Nat) ∧ 0 ≤ c ∧ c ≤ 1100000000 + (j : Nat) by omega)
  have hst := hs.stop hj
  rw [hx] at hst
  obtain ⟨R, hR⟩ : ∃ R, tokX T j x l c = R := ⟨_, rfl⟩
  have HRX := Lib.hid hR
  have hpl := tokX_place T j x l c hj hx hst.1 hst.2
  rw [hR] at hpl ⊢
  obtain ⟨q, hq⟩ : ∃ q, whereL ((T.data.toList.drop j).take (R.2.nx - j)) l c = q := ⟨_, rfl⟩
  have HQ := Lib.hid hq
  rw [hq]
  have HPL := Lib.hid hpl
  have HX := Lib.hid hx
  have HJT := Lib.hid hj
  have hj' : (j : Int) < (T.size : Nat) := by omega
  have hje : ¬ (j : Int) = (T.size : Nat) := by omega
  have hjb : ((j : Int) == (T.size : Nat)) = false := beq_eq_false_iff_ne.2 hje
  have x256 : x.toNat < 256 := x.toNat_lt
  rw [tokX, if_neg hn, if_neg h35, if_neg h34] at HRX
  have b35 := u8ne (n := 35) (by omega) h35
  have b34 := u8ne (n := 34) (by omega) h34
  obtain ⟨⟨ok, on⟩, ho⟩ : ∃ o, oneP x (twoP T (j + 1)) = o := ⟨_, rfl⟩
  have HO := Lib.hid ho
  rw [ho] at hn
  simp only at hn
  have hnb : decide ((0 : Int) < on) = false := decide_eq_false hn
  clear ho h35 h34
  clear hsk hl hc hT h1 h2 h3 h4 h hi hge hs hle hst hR hpl hq
  go_enter Tryd.func65, Tryd.ntmps65
  go_wp2_with fail
  refine (HSK.out _ (blk_alloc HL.out _)).mono ?_
  rintro e w1 hw1
  obtain rfl := hw1.ret
  have HW1 := Lib.hid hw1
  clear hw1
  have d0 : w1.cell? ⟨b, 0, none⟩ = some (.string T) := blk_cell HW1.out.lies 0
  have d1 : w1.cell? ⟨b, 1, none⟩ = some (.int .i64 (j : Nat)) := blk_cell HW1.out.lies 1
  have d2 : w1.cell? ⟨b, 2, none⟩ = some (.int .i64 l) := blk_cell HW1.out.lies 2
  have d3 : w1.cell? ⟨b, 3, none⟩ = some (.int .i64 c) := blk_cell HW1.out.lies 3
  have lb : b < w1.heap.size := blk_lt HW1.out.lies
  have lbw : b < w.heap.size := blk_lt HL.out
  have HRB := Lib.hid (show TokAt w.heap.size 0 0 ⟨#[]⟩ 0 0 0 w1 from HW1.out.keep.blk (blk_new w _) (by omega) (by simp))
  have lr : w.heap.size < w1.heap.size := blk_lt HRB.out
  go_wp2_with fail
  go_region
  go_wp2_with fail
  go_region
  have HL3 := Lib.hid (show LexAt b T (j : Nat) l c ((w1.alloc (.cells #[.int .i64 14, .int .i64 0, .string ⟨#[]⟩, .int .i64 l, .int .i64 c, .int .i64 (j : Nat)] 60)).drew.drew) from blk_drew (blk_drew (blk_alloc HW1.out.lies _)))
  have HT3 := Lib.hid (show TokAt w1.heap.size 14 0 ⟨#[]⟩ l c (j : Nat) ((w1.alloc (.cells #[.int .i64 14, .int .i64 0, .string ⟨#[]⟩, .int .i64 l, .int .i64 c, .int .i64 (j : Nat)] 60)).drew.drew) from blk_drew (blk_drew (blk_new w1 _)))
  have HR3 := Lib.hid (show TokAt w.heap.size 0 0 ⟨#[]⟩ 0 0 0 ((w1.alloc (.cells #[.int .i64 14, .int .i64 0, .string ⟨#[]⟩, .int .i64 l, .int .i64 c, .int .i64 (j : Nat)] 60)).drew.drew) from blk_drew (blk_drew (blk_alloc HRB.out _)))
  have HK3 := Lib.hid (show KeepB w ((w1.alloc (.cells #[.int .i64 14, .int .i64 0, .string ⟨#[]⟩, .int .i64 l, .int .i64 c, .int .i64 (j : Nat)] 60)).drew.drew) b none from by
    have h1 : KeepB w (w.alloc (.cells #[.int .i64 0, .int .i64 0, .string ⟨#[]⟩, .int .i64 0, .int .i64 0, .int .i64 0] 60)) b none := keep_allocB (KeepB.refl w b none) _
    exact keep_allocB (h1.trans HW1.out.keep (.inl rfl)) _)
  clear d0 d1 d2 d3
  generalize (w1.alloc (.cells #[.int .i64 14, .int .i64 0, .string ⟨#[]⟩, .int .i64 l, .int .i64 c, .int .i64 (j : Nat)] 60)).drew.drew = w3 at HL3 HT3 HR3 HK3 ⊢
  have htb : w.heap.size ≤ w1.heap.size := Nat.le_of_lt lr
  have hrt : w.heap.size ≠ w1.heap.size := Nat.ne_of_lt lr
  have hbt : b ≠ w1.heap.size := Nat.ne_of_lt lb
  have hbr : b ≠ w.heap.size := Nat.ne_of_lt lbw
  clear HW1 HRB lb lr
  generalize w1.heap.size = tb at HT3 htb hrt hbt ⊢
  go_wp2_with fail
  refine (one_same b T j _ (twoP T (j + 1)) l c _ HL3.out HJT.out HX.out (two_is T (j + 1)) HT.out).mono ?_
  rintro e w4 ⟨rfl, hb4⟩
  rw [HO.out]
  have HL4 := Lib.hid (show LexAt b T (j : Nat) l c w4 from blk_below HL3.out hb4)
  have HT4 := Lib.hid (show TokAt tb 14 0 ⟨#[]⟩ l c (j : Nat) w4 from blk_below HT3.out hb4)
  have HR4 := Lib.hid (show TokAt w.heap.size 0 0 ⟨#[]⟩ 0 0 0 w4 from blk_below HR3.out hb4)
  have HK4 := Lib.hid (show KeepB w w4 b none from HK3.out.trans (KeepB.of_below hb4 b none) (.inl rfl))
  clear hb4 HL3 HT3 HR3 HK3
  have d0 : w4.cell? ⟨b, 0, none⟩ = some (.string T) := blk_cell HL4.out 0
  have d1 : w4.cell? ⟨b, 1, none⟩ = some (.int .i64 (j : Nat)) := blk_cell HL4.out 1
  (go_wp2_with fail; repeat (go_region; go_wp2_with fail))
  refine (word_any b tb T j l c 14 l c (j : Nat) _ (by first | exact HL4.out | exact blk_drew HL4.out | exact blk_drew (blk_drew HL4.out)) (by first | exact HT4.out | exact blk_drew HT4.out | exact blk_drew (blk_drew HT4.out)) (Nat.le_of_lt HJT.out) HT.out).mono ?_
  rintro e w5 hw5
  obtain rfl := hw5.ret
  have HL5 := Lib.hid (show LexAt b T (j : Nat) l c w5 from hw5.lex)
  have HTT := Lib.hid hw5.tok
  have HPOS := Lib.hid hw5.pos
  have HK5 := Lib.hid (show KeepB w w5 b none from keep_fresh HK4.out hw5.keep htb)
  have HR5 := Lib.hid (show TokAt w.heap.size 0 0 ⟨#[]⟩ 0 0 0 w5 from hw5.keep.blk HR4.out hrt (by simp))
  clear hw5 d0 d1
  obtain ⟨er, R⟩ := R
  have hr := HRX.out
  injection hr with hr0 hr1
  have HR1 := Lib.hid hr1
  clear hr1
  by_cases hcode : er = 0
  · subst hcode
    rw [show errV (wordE (wordAt T j)) = .nilIface by rw [hr0]; rfl]
    have HT5 := Lib.hid (HTT.out hr0)
    have hp := HPL.out rfl
    have HNX := Lib.hid (show j ≤ R.nx ∧ R.nx ≤ T.size from ⟨Nat.le_of_lt hp.1, hp.2⟩)
    clear hr0 hp
    (go_wp2_with fail; repeat (go_region; go_wp2_with fail))
    have HG := Lib.hid (show GoI b tb w.heap.size T w R q j l c w5 from ⟨HL5.out, by rw [← HR1.out]; exact HT5.out, HR5.out, HK5.out, HQ.out, HNX.out.1, HNX.out.2, HB.out.1, HB.out.2.1, HB.out.2.2.1, HB.out.2.2.2⟩)
    go_loopg [] (R.nx - j) (fun gk w' => ∃ (p : Nat) (l' c' : Int), gk = R.nx - p ∧ Hid (GoI b tb w.heap.size T w R q p l' c' w'))
    case atStart => exact ⟨j, l, c, rfl, HG⟩
    case round =>
      clear HG
      obtain ⟨p, l', c', rfl, HJ⟩ := hrel
      have e1 : wr.cell? ⟨b, 1, none⟩ = some (.int .i64 (p : Nat)) := blk_cell HJ.out.lex 1
      have e5 : wr.cell? ⟨tb, 5, none⟩ = some (.int .i64 (R.nx : Nat)) := blk_cell HJ.out.tok 5
      by_cases hp : p < R.nx
      · have hp' : (p : Int) < (R.nx : Nat) := by omega
        have HP := Lib.hid hp
        have HX := Lib.hid (show p < T.size from Nat.lt_of_lt_of_le hp HJ.out.nx)
        clear hp
        (go_wp2_with fail; repeat (go_region; go_wp2_with fail))
        refine (step_any b T p (T[p]'HX.out) l' c' _ (by first | exact HJ.out.lex | exact blk_drew HJ.out.lex) HX.out (fun _ => rfl) HT.out HJ.out.l0 (by have := HJ.out.l1; have := HX.out; have := HT.out; omega) HJ.out.c0 (by have := HJ.out.c1; have := HX.out; have := HT.out; omega)).mono ?_
        rintro e w6 hw6
        obtain rfl := hw6.ret
        have HW := Lib.hid (HJ.out.next (w0 := wr.drew) hbt hbr HP.out (fun _ => rfl) ⟨rfl, rfl, rfl, rfl⟩ hw6)
        clear hw6 e1 e5
        (go_wp2_with fail; repeat (go_region; go_wp2_with fail))
        go_roundg (R.nx - (p + 1))
        case measure => have := HP.out; omega
        case rel => exact ⟨p + 1, _, _, rfl, HW⟩
      · have hp' : ¬ (p : Int) < (R.nx : Nat) := by omega
        have hpe : p = R.nx := by have := HJ.out.le; omega
        have HE := Lib.hid (show (l', c') = q ∧ p = R.nx from ⟨by
          have := HJ.out.rest
          rw [hpe, Nat.sub_self, List.take_zero, whereL] at this
          exact this, hpe⟩)
        clear hpe
        go_wp2_with fail
        go_region
        have HL7 := Lib.hid (show LexAt b T (R.nx : Nat) q.1 q.2 wr.drew from by rw [← HE.out.1, ← HE.out.2]; exact HJ.out.lex)
        have HT7 := Lib.hid (show TokAt tb R.k R.n ⟨R.x.toArray⟩ R.ln R.cl (R.nx : Nat) wr.drew from HJ.out.tok)
        have HR7 := Lib.hid (show TokAt w.heap.size 0 0 ⟨#[]⟩ 0 0 0 wr.drew from HJ.out.res)
        have HK7 := Lib.hid (show KeepB w wr.drew b none from HJ.out.keep)
        clear e1 e5 HJ HE hp
        generalize wr.drew = w7 at HL7 HT7 HR7 HK7 ⊢
        have t0 : w7.cell? ⟨tb, 0, none⟩ = some (.int .i64 R.k) := blk_cell HT7.out 0
        have t1 : w7.cell? ⟨tb, 1, none⟩ = some (.int .i64 R.n) := blk_cell HT7.out 1
        have t2 : w7.cell? ⟨tb, 2, none⟩ = some (.string ⟨R.x.toArray⟩) := blk_cell HT7.out 2
        have t3 : w7.cell? ⟨tb, 3, none⟩ = some (.int .i64 R.ln) := blk_cell HT7.out 3
        have t4 : w7.cell? ⟨tb, 4, none⟩ = some (.int .i64 R.cl) := blk_cell HT7.out 4
        have t5 : w7.cell? ⟨tb, 5, none⟩ = some (.int .i64 (R.nx : Nat)) := blk_cell HT7.out 5
        have r0 : w7.cell? ⟨w.heap.size, 0, none⟩ = some (.int .i64 0) := blk_cell HR7.out 0
        have s0 := blk_frozen HR7.out 0
        have r1 : w7.cell? ⟨w.heap.size, 1, none⟩ = some (.int .i64 0) := blk_cell HR7.out 1
        have s1 := blk_frozen HR7.out 1
        have r2 : w7.cell? ⟨w.heap.size, 2, none⟩ = some (.string ⟨#[]⟩) := blk_cell HR7.out 2
        have s2 := blk_frozen HR7.out 2
        have r3 : w7.cell? ⟨w.heap.size, 3, none⟩ = some (.int .i64 0) := blk_cell HR7.out 3
        have s3 := blk_frozen HR7.out 3
        have r4 : w7.cell? ⟨w.heap.size, 4, none⟩ = some (.int .i64 0) := blk_cell HR7.out 4
        have s4 := blk_frozen HR7.out 4
        have r5 : w7.cell? ⟨w.heap.size, 5, none⟩ = some (.int .i64 0) := blk_cell HR7.out 5
        have s5 := blk_frozen HR7.out 5
        (go_wp2_with fail; repeat (go_region; go_wp2_with fail))
        have HX := tok_put HR7.out (R.k) (R.n) (⟨R.x.toArray⟩) (R.ln) (R.cl) ((R.nx : Nat))
        have q0 := blk_cell HX 0
        have q1 := blk_cell HX 1
        have q2 := blk_cell HX 2
        have q3 := blk_cell HX 3
        have q4 := blk_cell HX 4
        have q5 := blk_cell HX 5
        clear r0 s0 r1 s1 r2 s2 r3 s3 r4 s4 r5 s5 t0 t1 t2 t3 t4 t5
        (try simp only [Exit.inBlock, Exit.then])
        refine bodyPost_ret (by simp [results, Tryd.results65, go_sem, q0, q1, q2, q3, q4, q5]; rfl) rfl ?_
        exact ⟨rfl, fun _ => by skip; exact (blk_far (blk_far (blk_far (blk_far (blk_far (blk_far HL7.out hbr _) hbr _) hbr _) hbr _) hbr _) hbr _), (keep_farB (keep_farB (keep_farB (keep_farB (keep_farB (keep_farB HK7.out (Nat.le_refl _) _) (Nat.le_refl _) _) (Nat.le_refl _) _) (Nat.le_refl _) _) (Nat.le_refl _) _) (Nat.le_refl _) _)⟩
  · rw [show errV (wordE (wordAt T j)) = kindV er by rw [hr0]; exact errV_ne hcode]
    have HC := Lib.hid hcode
    have HRL := Lib.hid (show R.ln = l ∧ R.cl = c by rw [← HR1.out]; exact ⟨rfl, rfl⟩)
    obtain ⟨k', n', x', nx', hp5⟩ := HPOS.out (by rw [hr0]; exact hcode)
    have HT5 := Lib.hid hp5
    clear hr0 hp5 HTT
    have t3 : w5.cell? ⟨tb, 3, none⟩ = some (.int .i64 l) := blk_cell HT5.out 3
    have t4 : w5.cell? ⟨tb, 4, none⟩ = some (.int .i64 c) := blk_cell HT5.out 4
    have r0 : w5.cell? ⟨w.heap.size, 0, none⟩ = some (.int .i64 0) := blk_cell HR5.out 0
    have s0 := blk_frozen HR5.out 0
    have r1 : w5.cell? ⟨w.heap.size, 1, none⟩ = some (.int .i64 0) := blk_cell HR5.out 1
    have s1 := blk_frozen HR5.out 1
    have r2 : w5.cell? ⟨w.heap.size, 2, none⟩ = some (.string ⟨#[]⟩) := blk_cell HR5.out 2
    have s2 := blk_frozen HR5.out 2
    have r3 : w5.cell? ⟨w.heap.size, 3, none⟩ = some (.int .i64 0) := blk_cell HR5.out 3
    have s3 := blk_frozen HR5.out 3
    have r4 : w5.cell? ⟨w.heap.size, 4, none⟩ = some (.int .i64 0) := blk_cell HR5.out 4
    have s4 := blk_frozen HR5.out 4
    have r5 : w5.cell? ⟨w.heap.size, 5, none⟩ = some (.int .i64 0) := blk_cell HR5.out 5
    have s5 := blk_frozen HR5.out 5
    go_wp2_with fail
    go_region_held3 (fun w' => w'.cell? ⟨tb, 3, none⟩ = some (.int .i64 l) ∧ w'.cell? ⟨tb, 4, none⟩ = some (.int .i64 c)) (go_keep) (fail)
    clear r0 s0 r1 s1 r2 s2 r3 s3 r4 s4 r5 s5 t3 t4
    have HX := Lib.hid (show TokAt w.heap.size 0 0 ⟨#[]⟩ 0 0 0 (((((((w5.setCell ⟨w.heap.size, 0, none⟩ (.int .i64 0)).setCell ⟨w.heap.size, 1, none⟩ (.int .i64 0)).setCell ⟨w.heap.size, 2, none⟩ (.string ⟨#[]⟩)).setCell ⟨w.heap.size, 3, none⟩ (.int .i64 0)).setCell ⟨w.heap.size, 4, none⟩ (.int .i64 0)).setCell ⟨w.heap.size, 5, none⟩ (.int .i64 0)).drew) from blk_drew (tok_put HR5.out 0 0 ⟨#[]⟩ 0 0 0))
    have HK8 := Lib.hid (show KeepB w (((((((w5.setCell ⟨w.heap.size, 0, none⟩ (.int .i64 0)).setCell ⟨w.heap.size, 1, none⟩ (.int .i64 0)).setCell ⟨w.heap.size, 2, none⟩ (.string ⟨#[]⟩)).setCell ⟨w.heap.size, 3, none⟩ (.int .i64 0)).setCell ⟨w.heap.size, 4, none⟩ (.int .i64 0)).setCell ⟨w.heap.size, 5, none⟩ (.int .i64 0)).drew) b none from keep_drewB (keep_farB (keep_farB (keep_farB (keep_farB (keep_farB (keep_farB HK5.out (Nat.le_refl _) _) (Nat.le_refl _) _) (Nat.le_refl _) _) (Nat.le_refl _) _) (Nat.le_refl _) _) (Nat.le_refl _) _))
    clear HL5 HT5 HK5 HR5
    generalize ((((((w5.setCell ⟨w.heap.size, 0, none⟩ (.int .i64 0)).setCell ⟨w.heap.size, 1, none⟩ (.int .i64 0)).setCell ⟨w.heap.size, 2, none⟩ (.string ⟨#[]⟩)).setCell ⟨w.heap.size, 3, none⟩ (.int .i64 0)).setCell ⟨w.heap.size, 4, none⟩ (.int .i64 0)).setCell ⟨w.heap.size, 5, none⟩ (.int .i64 0)).drew = w8 at HX HK8 ⊢
    go_wp2_with fail
    have q0 := blk_cell HX.out 0
    have q1 := blk_cell HX.out 1
    have q2 := blk_cell HX.out 2
    have q3 := blk_cell HX.out 3
    have q4 := blk_cell HX.out 4
    have q5 := blk_cell HX.out 5
    (try simp only [Exit.inBlock, Exit.then])
    refine bodyPost_ret (by simp [results, Tryd.results65, go_sem, q0, q1, q2, q3, q4, q5]; rfl) rfl ?_
    exact ⟨by unfold tokRet; rw [if_neg HC.out, HRL.out.1, HRL.out.2]; rfl, fun h => absurd h HC.out, HK8.out⟩
end Go.Proofs.YthighbbikpnpgaaDoor

/-! LeTg -/
namespace Go.Proofs.YthighbbikpnpgaaDoor
open Go.RowKit Go.Proofs.YthighbbikpnpgaaDoorW.PrintWords

theorem TokenTo.at_ {b : Nat} {T : ByteArray} {R : Int × TokR} {q q' : Int × Int} {w : World} {e : Ending} {w' : World} (h : TokenTo b T R q w e w') (hq : R.1 = 0 → q = q') : TokenTo b T R q' w e w' :=
  ⟨h.ret, fun h0 => by rw [← hq h0]; exact h.lex h0, h.keep⟩

theorem token_any (b : Nat) (T : ByteArray) (i : Nat) (ln cl : Int) (w : World) (h : LexAt b T i ln cl w) (hi : i ≤ T.size) (hT : T.size ≤ 1000000000) (h1 : 0 ≤ ln) (h2 : ln ≤ 1100000000) (h3 : 0 ≤ cl) (h4 : cl ≤ 1100000000) :
    Calls Tryd.prog 65 #[.pointer (some ⟨b, 0, none⟩)] w (TokenTo b T (tokP T i ln cl) (whereL ((T.data.toList.drop i).take ((tokP T i ln cl).2.nx - i)) ln cl) w) := by
  obtain ⟨j, l, c, hs⟩ := skip_spec T i ln cl hi
  rw [hs.tok]
  by_cases hj : j < T.size
  · have hst := hs.stop hj
    obtain ⟨x, hx⟩ : ∃ x, T[j]'hj = x := ⟨_, rfl⟩
    have hbx : ∀ h, T[j]'h = x := fun _ => hx
    rw [hx] at hst
    have hq : (tokX T j x l c).1 = 0 → whereL ((T.data.toList.drop j).take ((tokX T j x l c).2.nx - j)) l c = whereL ((T.data.toList.drop i).take ((tokX T j x l c).2.nx - i)) ln cl := fun h0 =>
      (hs.after (Nat.le_of_lt (tokX_place T j x l c hj hbx hst.1 hst.2 h0).1)).symm
    rw [tokB, dif_pos hj, hx]
    by_cases hn : (0 : Int) < (oneP x (twoP T (j + 1))).2
    · exact (token_one b T i ln cl w h hi hT h1 h2 h3 h4 j l c hs hj x hbx hn).mono fun e w' h => h.at_ hq
    · by_cases h35 : x = 35
      · exact (token_sharp b T i ln cl w h hi hT h1 h2 h3 h4 j l c hs hj x hbx hn h35).mono fun e w' h => h.at_ hq
      · by_cases h34 : x = 34
        · exact (token_str b T i ln cl w h hi hT h1 h2 h3 h4 j l c hs hj x hbx hn h34).mono fun e w' h => h.at_ hq
        · exact (token_word b T i ln cl w h hi hT h1 h2 h3 h4 j l c hs hj x hbx hn h35 h34).mono fun e w' h => h.at_ hq
  · have hj' : j = T.size := by have := hs.le; omega
    rw [tokB_end hj]
    exact (token_end b T i ln cl w h hi hT h1 h2 h3 h4 j l c hs hj).mono fun e w' h => h.at_ fun _ => by
      rw [hs.after (Nat.le_refl j), Nat.sub_self, List.take_zero, whereL]
end Go.Proofs.YthighbbikpnpgaaDoor

/-! LeV -/
namespace Go.Proofs.YthighbbikpnpgaaDoor
open Go.RowKit Go.Proofs.YthighbbikpnpgaaDoorW.PrintWords

theorem tokRet_form (R : Int × TokR) : ∃ t e, tokRet R = .tuple #[tokV t, e] := by
  unfold tokRet
  split
  · exact ⟨_, _, rfl⟩
  · exact ⟨_, _, rfl⟩

structure NextTo (v : Value) (w : World) (e : Ending) (w' : World) : Prop where
  ret : e = .returned v
  below : Below w.heap.size w w'

set_option maxRecDepth 400000 in
set_option maxHeartbeats 4000000 in
theorem next_ok (T : ByteArray) (i : Nat) (l c : Int) (w : World) (hi : i ≤ T.size) (hT : T.size ≤ 1000000000) (h1 : 1 ≤ l) (h2 : l ≤ 1073741824) (h3 : 1 ≤ c) (h4 : c ≤ 1073741824) :
    Calls Tryd.prog 32 #[.string T, .int .i64 (i : Nat), .int .i64 l, .int .i64 c] w (NextTo (tokRet (tokP T i l c)) w) := by
  have HTK := Lib.hid (fun (b : Nat) (w : World) h => token_any b T i l c w h hi hT (by omega) (by omega) (by omega) (by omega))
  have hi' : (i : Int) ≤ (T.size : Nat) := by omega
  have hi0 : ¬ (T.size : Int) < (i : Nat) := by omega
  have hi1 : decide ((T.size : Int) < (i : Nat)) = false := decide_eq_false hi0
  have hm : ¬ min l c < 1 := by omega
  have hm1 : decide (min l c < 1) = false := decide_eq_false hm
  have hM : ¬ 1073741824 < max l c := by omega
  have hM1 : decide (1073741824 < max l c) = false := decide_eq_false hM
  clear hi hT h1 h2 h3 h4
  go_enter Tryd.func32, Tryd.ntmps32
  (go_wp2_with fail; repeat (go_region; go_wp2_with fail))
  refine (HTK.out (w.heap.size + 1) _ ?hb).mono ?_
  case hb =>
    have := blk_new (w.alloc (.cells #[.int .i64 0, .int .i64 0, .string ⟨#[]⟩, .int .i64 0, .int .i64 0, .int .i64 0] 60)) (.cells #[.string T, .int .i64 (i : Nat), .int .i64 l, .int .i64 c] 121 (0, 0))
    rw [show (w.alloc (.cells #[.int .i64 0, .int .i64 0, .string ⟨#[]⟩, .int .i64 0, .int .i64 0, .int .i64 0] 60)).heap.size = w.heap.size + 1 by simp] at this
    exact this
  rintro e w1 hw1
  obtain rfl := hw1.ret
  have HR := Lib.hid (show TokAt w.heap.size 0 0 ⟨#[]⟩ 0 0 0 w1 from hw1.keep.blk (blk_alloc (blk_new w _) _) (by omega) (by simp))
  have HB := Lib.hid (show Below w.heap.size w w1 from ((keep_allocB (keep_allocB (KeepB.refl w (w.heap.size + 1) none) _) _).trans hw1.keep (.inl rfl)).below (by omega))
  obtain ⟨t, e', ht⟩ := tokRet_form (tokP T i l c)
  rw [ht, show tokV t = .agg #[.int .i64 t.k, .int .i64 t.n, .string ⟨t.x.toArray⟩, .int .i64 t.ln, .int .i64 t.cl, .int .i64 (t.nx : Nat)] from rfl]
  have HTR := Lib.hid ht
  clear hw1 ht
  have r0 : w1.cell? ⟨w.heap.size, 0, none⟩ = some (.int .i64 0) := blk_cell HR.out 0
  have s0 := blk_frozen HR.out 0
  have r1 : w1.cell? ⟨w.heap.size, 1, none⟩ = some (.int .i64 0) := blk_cell HR.out 1
  have s1 := blk_frozen HR.out 1
  have r2 : w1.cell? ⟨w.heap.size, 2, none⟩ = some (.string ⟨#[]⟩) := blk_cell HR.out 2
  have s2 := blk_frozen HR.out 2
  have r3 : w1.cell? ⟨w.heap.size, 3, none⟩ = some (.int .i64 0) := blk_cell HR.out 3
  have s3 := blk_frozen HR.out 3
  have r4 : w1.cell? ⟨w.heap.size, 4, none⟩ = some (.int .i64 0) := blk_cell HR.out 4
  have s4 := blk_frozen HR.out 4
  have r5 : w1.cell? ⟨w.heap.size, 5, none⟩ = some (.int .i64 0) := blk_cell HR.out 5
  have s5 := blk_frozen HR.out 5
  go_wp2_with fail
  have HX := tok_put HR.out t.k t.n ⟨t.x.toArray⟩ t.ln t.cl (t.nx : Nat)
  have q0 := blk_cell HX 0
  have q1 := blk_cell HX 1
  have q2 := blk_cell HX 2
  have q3 := blk_cell HX 3
  have q4 := blk_cell HX 4
  have q5 := blk_cell HX 5
  clear r0 s0 r1 s1 r2 s2 r3 s3 r4 s4 r5 s5
  (try simp only [Exit.inBlock, Exit.then])
  refine bodyPost_ret (by simp [results, Tryd.results32, go_sem, q0, q1, q2, q3, q4, q5]; rfl) rfl ?_
  exact ⟨by rw [HTR.out]; rfl, (below_set (below_set (below_set (below_set (below_set (below_set HB.out (Nat.le_refl _)) (Nat.le_refl _)) (Nat.le_refl _)) (Nat.le_refl _)) (Nat.le_refl _)) (Nat.le_refl _))⟩
end Go.Proofs.YthighbbikpnpgaaDoor
