/-
  Walk: a number's text by the reference.
  Layer 7's names: when a text may be a symbol's name, in plain words; and by lex and by the reference.
  Walks: lex.Symbol and the reference's Symbol.
  lex.Symbol whole; the reference's digits and Symbol.
  The lexer: blanks, a step.
  The lexer: where a token ends; blanks are skipped.
  The lexer skips blanks and remarks.
  The lexer: a token of a byte, or of two.
  The lexer reads a word.
  A strings.Builder that the call has made itself, alone in its block or at the head of a struct: what its methods do. (The shelf's layings of these methods do not fit this translation's copyCheck.)
  The lexer's strings, plain; a builder's length.
-/
import Derived.Test.YthighbbikpnpgaaDoorLB1
import Derived.Laws.IdiomStrings
import Derived.Lib.Bytealg
import Derived.Lib.IndexLaws
import Derived.Test.YthighbbikpnpgaaDoorWWords
import Derived.Deep.LoopGhost
import Derived.Lib.Builder
import Derived.Lib.AppendStr
import Derived.Lib.OthersKept
import Derived.Lib.Strings
import Derived.Lib.UnsafeStr
import Derived.RegionTactic

/-! FU -/
namespace Go.Proofs.YthighbbikpnpgaaDoor
open Go.RowKit

theorem dec_small {u : Nat} (h : u < 10) : Lib.decDigits u = [UInt8.ofNat (48 + u)] := by rw [Lib.decDigits, dif_pos h]
theorem dec_big {u : Nat} (h : ¬ u < 10) : Lib.decDigits u = Lib.decDigits (u / 10) ++ [UInt8.ofNat (48 + u % 10)] := by rw [Lib.decDigits, dif_neg h]

/-- A string of one byte, out of the newest block. -/
theorem one_string (w : World) (c : Int) (h0 : 0 ≤ c) (h1 : c < 256) :
    (convert 76 9 (.slice (some ⟨w.heap.size, 0, none⟩) 1 1)).run Tryd.prog (w.alloc (.cells #[.int .u8 c] 5)) = .ok (.string ⟨#[UInt8.ofNat c.toNat]⟩) (w.alloc (.cells #[.int .u8 c] 5)) := by
  have hc : ((UInt8.ofNat c.toNat).toNat : Int) = c := by
    simp [UInt8.toNat_ofNat']
    omega
  refine run_convert_bytes_back (w.alloc (.cells #[.int .u8 c] 5)) 76 9 5 ⟨w.heap.size, 0, none⟩ 1 [UInt8.ofNat c.toNat] Tryd.underlying76 Tryd.underlying5 Tryd.underlying9 ?_
  intro j hj
  obtain rfl : j = 0 := by simpa using hj
  rw [news_new w [.int .u8 c] 5 w.heap.size rfl 0 (.int .u8 c) rfl]
  simp only [List.getElem_cons_zero, hc]

theorem mk_cons (c : UInt8) (t : List UInt8) : (⟨#[c]⟩ : ByteArray) ++ ⟨t.toArray⟩ = ⟨(c :: t).toArray⟩ := by
  apply ByteArray.ext
  rw [ByteArray.data_append]
  simp

set_option maxRecDepth 16000 in
theorem reftext_any (n : Int) (w : World) (h0 : -9223372036854775808 ≤ n) (h1 : n ≤ 9223372036854775807) :
    Calls Tryd.prog 39 #[.int .i64 n] w fun e w' => e = .returned (.string ⟨(Lib.itoa n).toArray⟩) ∧ Below w.heap.size w w' := by
  obtain ⟨W, rfl⟩ : ∃ W : World, W = w := ⟨w, rfl⟩
  have hlen := Lib.itoa_length_le n h0 h1
  have HI : Hid (Lib.itoa n = if n < 0 then 45 :: Lib.decDigits n.natAbs else Lib.decDigits n.toNat) := rfl
  by_cases hn : n < 0
  · obtain ⟨u, hu⟩ : ∃ u : Nat, u = n.natAbs := ⟨_, rfl⟩
    have wn : IntKind.u64.wrap (-IntKind.u64.wrap n) = (u : Int) := by rw [u64w, u64w]; omega
    have hd : (Lib.decDigits u).length ≤ 20 := by
      have := HI.out
      rw [if_pos hn, ← hu] at this
      rw [this] at hlen
      simp at hlen
      omega
    have HI2 : Hid (Lib.itoa n = 45 :: Lib.decDigits u) := by rw [Hid, HI.out, if_pos hn, ← hu]
    have hu' : u ≤ 9223372036854775808 := by omega
    clear hu
    go_enter Tryd.func39, Tryd.ntmps39
    go_wp2_with fail
    go_loopw [3, 4] (fun x s wr => ∃ (y : Nat) (t : List UInt8), x = .int .u64 y ∧ s = .string ⟨t.toArray⟩ ∧ y ≤ 9223372036854775808 ∧ Below W.heap.size W wr ∧ Hid (Lib.decDigits u = Lib.decDigits y ++ t)) (fun x _ _ => (intOf x).toNat)
    case atStart => exact ⟨u, [], rfl, rfl, by omega, Below.refl _ _, by simp [Hid]⟩
    case round =>
      obtain ⟨y, t, rfl, rfl, hy, hb, H⟩ := hrel
      have ht : t.length ≤ 21 := by
        have := congrArg List.length H.out
        rw [List.length_append] at this
        omega
      have hcs := one_string wr (48 + (y : Int) % 10) (by omega) (by omega)
      have hcn : (48 + (y : Int) % 10).toNat = 48 + y % 10 := by omega
      rw [hcn] at hcs
      have hbs := hb.size
      have HAP : Hid (({ data := #[48 + UInt8.ofNat (y % 10)] } : ByteArray) ++ { data := t.toArray } = ⟨(UInt8.ofNat (48 + y % 10) :: t).toArray⟩) := by
        rw [Hid, ← mk_cons, UInt8.ofNat_add]; rfl
      by_cases hy10 : y < 10
      · have HD := Lib.hid (show Lib.decDigits u = UInt8.ofNat (48 + y % 10) :: t by rw [H.out, dec_small hy10, Nat.mod_eq_of_lt hy10]; rfl)
        have hq : (y : Int) / 10 = 0 := by omega
        go_wp2_with fail
        go_ret
        exact ⟨by rw [HI2.out, HD.out, ← mk_cons 45 (_ :: _), ← HAP.out]; rfl, hb.alloc hbs _⟩
      · have HD : Hid (Lib.decDigits u = Lib.decDigits (y / 10) ++ (UInt8.ofNat (48 + y % 10) :: t)) := by rw [Hid, H.out, dec_big hy10]; simp
        have hq : ((y : Int) / 10 == 0) = false := by simp; omega
        go_wp2_with fail
        go_roundw
        case rel => exact ⟨y / 10, _, by go_num, by rw [HAP.out], by omega, hb.alloc hbs _, HD⟩
        case measure => simp [intOf]; omega
  · obtain ⟨u, hu⟩ : ∃ u : Nat, n = u := ⟨n.toNat, by omega⟩
    subst hu
    have hd : (Lib.decDigits u).length ≤ 21 := by
      have := HI.out
      rw [if_neg hn, Int.toNat_natCast] at this
      rw [this] at hlen
      exact hlen
    have HI2 : Hid (Lib.itoa u = Lib.decDigits u) := by rw [Hid, HI.out, if_neg hn, Int.toNat_natCast]
    go_enter Tryd.func39, Tryd.ntmps39
    go_wp2_with fail
    go_loopw [3, 4] (fun x s wr => ∃ (y : Nat) (t : List UInt8), x = .int .u64 y ∧ s = .string ⟨t.toArray⟩ ∧ y ≤ 9223372036854775808 ∧ Below W.heap.size W wr ∧ Hid (Lib.decDigits u = Lib.decDigits y ++ t)) (fun x _ _ => (intOf x).toNat)
    case atStart => exact ⟨u, [], rfl, rfl, by omega, Below.refl _ _, by simp [Hid]⟩
    case round =>
      obtain ⟨y, t, rfl, rfl, hy, hb, H⟩ := hrel
      have ht : t.length ≤ 21 := by
        have := congrArg List.length H.out
        rw [List.length_append] at this
        omega
      have hcs := one_string wr (48 + (y : Int) % 10) (by omega) (by omega)
      have hcn : (48 + (y : Int) % 10).toNat = 48 + y % 10 := by omega
      rw [hcn] at hcs
      have hbs := hb.size
      have HAP : Hid (({ data := #[48 + UInt8.ofNat (y % 10)] } : ByteArray) ++ { data := t.toArray } = ⟨(UInt8.ofNat (48 + y % 10) :: t).toArray⟩) := by
        rw [Hid, ← mk_cons, UInt8.ofNat_add]; rfl
      by_cases hy10 : y < 10
      · have HD := Lib.hid (show Lib.decDigits u = UInt8.ofNat (48 + y % 10) :: t by rw [H.out, dec_small hy10, Nat.mod_eq_of_lt hy10]; rfl)
        have hq : (y : Int) / 10 = 0 := by omega
        go_wp2_with fail
        go_ret
        exact ⟨by rw [HI2.out, HD.out, ← HAP.out]; rfl, hb.alloc hbs _⟩
      · have HD : Hid (Lib.decDigits u = Lib.decDigits (y / 10) ++ (UInt8.ofNat (48 + y % 10) :: t)) := by rw [Hid, H.out, dec_big hy10]; simp
        have hq : ((y : Int) / 10 == 0) = false := by simp; omega
        go_wp2_with fail
        go_roundw
        case rel => exact ⟨y / 10, _, by go_num, by rw [HAP.out], by omega, hb.alloc hbs _, HD⟩
        case measure => simp [intOf]; omega
end Go.Proofs.YthighbbikpnpgaaDoor

/-! LxA -/
namespace Go.Proofs.YthighbbikpnpgaaDoor
open Go.RowKit

/-- A byte that no name has. -/
def markB (c : UInt8) : Bool := decide (0 ≤ Lib.indexByte [40, 41, 34, 59, 39, 44, 96, 35] c)
def symCh (c : UInt8) : Bool := decide (33 ≤ c.toNat) && decide (c.toNat ≤ 126) && !markB c
def symL (s : List UInt8) : Bool := decide (1 ≤ s.length) && decide (s.length ≤ 60) && !(s == [46]) && !okL (bodyL s) && s.all symCh

theorem fitL_code (n : Int) : (fitL n).2 = 0 ∨ (fitL n).2 = 11 := by unfold fitL; split <;> simp

theorem digits_any (s : ByteArray) (w : World) :
    Calls Tryd.prog 79 #[.string s] w fun e w' => e = .returned (.bool (okL (bodyL s.data.toList))) ∧ Below w.heap.size w w' := by
  obtain ⟨W, rfl⟩ : ∃ W : World, W = w := ⟨w, rfl⟩
  have cP := Lib.hid (parse_any s W)
  have hp : parseL s.data.toList = parseL s.data.toList := rfl
  have hok : (okL (bodyL s.data.toList) = true ∧ ((parseL s.data.toList).2 = 0 ∨ (parseL s.data.toList).2 = 11)) ∨ (okL (bodyL s.data.toList) = false ∧ (parseL s.data.toList).2 = 6) := by
    cases h : okL (bodyL s.data.toList)
    · exact .inr ⟨rfl, by rw [parseL, h]; rfl⟩
    · exact .inl ⟨rfl, by rw [parseL, h]; exact fitL_code _⟩
  clear hp
  generalize okL (bodyL s.data.toList) = ok at hok ⊢
  generalize parseL s.data.toList = x at hok cP
  obtain ⟨n, k⟩ := x
  simp only at hok
  rw [resV] at cP
  have h3 : (ok = true ∧ k = 0) ∨ (ok = true ∧ k = 11) ∨ (ok = false ∧ k = 6) := by
    rcases hok with ⟨h, h0 | h1⟩ | ⟨h, h6⟩
    · exact .inl ⟨h, h0⟩
    · exact .inr (.inl ⟨h, h1⟩)
    · exact .inr (.inr ⟨h, h6⟩)
  clear hok
  rcases h3 with ⟨rfl, rfl⟩ | ⟨rfl, rfl⟩ | ⟨rfl, rfl⟩
  · have e0 : errV 0 = .nilIface := rfl
    rw [e0] at cP
    go_enter Tryd.func79, Tryd.ntmps79
    go_wp2_with fail
    refine cP.out.mono ?_
    rintro e w' ⟨rfl, hb⟩
    go_wp2_with fail
    go_ret
    exact ⟨rfl, hb⟩
  all_goals
    have e0 : errV 11 = kindV 11 := rfl
    have e6 : errV 6 = kindV 6 := rfl
    (try rw [e0] at cP); (try rw [e6] at cP)
    clear e0 e6
    go_enter Tryd.func79, Tryd.ntmps79
    go_wp2_with fail
    refine cP.out.mono ?_
    rintro e w' ⟨rfl, hb⟩
    go_wp2_with fail
    refine (is_kind _ _ _).mono ?_
    rintro e w'' ⟨rfl, rfl⟩
    go_wp2_with fail
    go_ret
    exact ⟨rfl, hb⟩

theorem indexbyte_any (s : ByteArray) (c : Int) (w : World) :
    Calls Tryd.prog 80 #[.string s, .int .u8 c] w fun e w' => e = .returned (.int .i64 (Lib.indexByte s.data.toList c.toNat.toUInt8)) ∧ w' = w := Tryd.strings_IndexByte s c w
end Go.Proofs.YthighbbikpnpgaaDoor

/-! LxB -/
namespace Go.Proofs.YthighbbikpnpgaaDoor
open Go.RowKit

/-- The newest block's bytes, one by one. -/
theorem bytes_at (W : World) (s : ByteArray) (j : Nat) (hj : j < s.data.toList.length) : (Lib.bytesWorld W 5 s).cell? ⟨W.heap.size, j, none⟩ = some (.int .u8 (s.data.toList[j].toNat : Int)) := by
  rw [Lib.bytesWorld_cell W 5 s j (by simpa using hj)]
  simp [List.getD, List.getElem?_eq_getElem hj]

theorem sym_short (s : ByteArray) (h : s.data.toList = []) (W : World) :
    Calls Tryd.prog 59 #[.string s] W fun e w' => e = .returned (.bool false) ∧ Below W.heap.size W w' := by
  obtain rfl : s = ⟨#[]⟩ := by apply ByteArray.ext; simpa using h
  go_enter Tryd.func59, Tryd.ntmps59
  go_wp2_with fail
  go_ret
  exact ⟨rfl, Below.refl _ _⟩

theorem sym_dot (W : World) :
    Calls Tryd.prog 59 #[.string ⟨#[46]⟩] W fun e w' => e = .returned (.bool false) ∧ Below W.heap.size W w' := by
  go_enter Tryd.func59, Tryd.ntmps59
  go_wp2_with fail
  go_ret
  exact ⟨rfl, Below.refl _ _⟩

set_option maxRecDepth 16000 in
theorem sym_long (s : ByteArray) (h : 60 < s.data.toList.length) (W : World) :
    Calls Tryd.prog 59 #[.string s] W fun e w' => e = .returned (.bool false) ∧ Below W.heap.size W w' := by
  have h0 : ¬ s.toList = [] := by
    rw [ByteArray.toList_eq]
    intro e
    rw [e] at h
    simp at h
  have h2 : s.size = s.data.toList.length := by simp
  have h1 : (60 : Int) < s.size := by omega
  clear h h2
  go_enter Tryd.func59, Tryd.ntmps59
  go_wp2_with fail
  go_ret
  exact ⟨rfl, Below.refl _ _⟩

set_option maxRecDepth 16000 in
theorem sym_digits (s : ByteArray) (h0 : s.data.toList ≠ []) (h1 : s.data.toList.length ≤ 60) (h2 : s.data.toList ≠ [46]) (hd : okL (bodyL s.data.toList) = true) (W : World) :
    Calls Tryd.prog 59 #[.string s] W fun e w' => e = .returned (.bool false) ∧ Below W.heap.size W w' := by
  have g0 : ¬ s.toList = [] := by rw [ByteArray.toList_eq]; exact h0
  have g00 : s.toList.isEmpty = false := by simpa using g0
  have g2 : ¬ s.toList = [46] := by rw [ByteArray.toList_eq]; exact h2
  have g22 : (s.toList == [46]) = false := by simpa using g2
  have e2 : s.size = s.data.toList.length := by simp
  have g1 : ¬ (60 : Int) < s.size := by omega
  have g1' : (s.size : Int) ≤ 60 := by omega
  have cD := Lib.hid (digits_any s W)
  rw [hd] at cD
  clear e2 h0 h1 h2 hd
  go_enter Tryd.func59, Tryd.ntmps59
  go_wp2_with fail
  refine cD.out.mono ?_
  rintro e w' ⟨rfl, hb⟩
  go_wp2_with fail
  go_ret
  exact ⟨rfl, hb⟩

theorem take_all {l : List UInt8} {p : UInt8 → Bool} {k : Nat} (h : (l.take (k + 1)).all p = false) : l.all p = false := by
  rw [← Bool.not_eq_true] at h ⊢
  exact fun hh => h (all_take hh _)

set_option maxRecDepth 16000 in
theorem sym_bytes (s : ByteArray) (h0 : s.data.toList ≠ []) (h1 : s.data.toList.length ≤ 60) (h2 : s.data.toList ≠ [46]) (hd : okL (bodyL s.data.toList) = false) (W : World) :
    Calls Tryd.prog 59 #[.string s] W fun e w' => e = .returned (.bool (s.data.toList.all symCh)) ∧ Below W.heap.size W w' := by
  obtain ⟨R, hR⟩ : ∃ R, s.data.toList.all symCh = R := ⟨_, rfl⟩
  have HRR := Lib.hid hR
  rw [hR]
  clear hR
  have hcv := fun (w : World) (s : ByteArray) => Lib.run_convert_string_bytes w 9 76 5 s Tryd.underlying9 Tryd.underlying76 Tryd.underlying5
  have g0 : ¬ s.toList = [] := by rw [ByteArray.toList_eq]; exact h0
  have g00 : s.toList.isEmpty = false := by simpa using g0
  have g2 : ¬ s.toList = [46] := by rw [ByteArray.toList_eq]; exact h2
  have g22 : (s.toList == [46]) = false := by simpa using g2
  have e2 : s.size = s.data.toList.length := by simp
  have g1 : ¬ (60 : Int) < s.size := by omega
  have g1' : (s.size : Int) ≤ 60 := by omega
  have cD := Lib.hid (digits_any s W)
  rw [hd] at cD
  have HE2 := Lib.hid e2
  clear h0 h1 h2 hd e2
  go_enter Tryd.func59, Tryd.ntmps59
  go_wp2_with fail
  refine cD.out.mono ?_
  rintro e w' ⟨rfl, hb⟩
  go_wp2_with fail
  clear hcv
  have hcells := Lib.hid (bytes_at w' s)
  have hbl := below_trans hb (below_bytes (W := w') 5 s)
  generalize Lib.bytesWorld w' 5 s = w1 at hcells hbl ⊢
  have e2 := HE2.out
  clear HE2
  have hR := HRR.out
  clear HRR
  generalize hE : s.data.toList = E at hcells e2 hR
  clear hE
  have hEl : E.length ≤ s.size ∧ s.size ≤ E.length := by omega
  have HR := Lib.hid hR
  clear hR
  clear g0 g00 g2 g22 e2
  go_loop [23] (fun i => ∃ k : Nat, k ≤ E.length ∧ i = .int .i64 k ∧ (E.take k).all symCh = true) (fun i => E.length - (intOf i).toNat)
  case atStart => exact ⟨0, by omega, rfl, rfl⟩
  case round =>
    obtain ⟨k, hk, rfl, hall⟩ := hrel
    obtain ⟨hE1, hE2⟩ := hEl
    by_cases hlt : k < E.length
    · have hks : k < s.size := by omega
      have hks' : (k : Int) < s.size := by omega
      have htk := Lib.hid (List.take_succ_eq_append_getElem hlt)
      have hck := hcells.out k hlt
      generalize E[k] = x at htk hck
      have HN : Hid (symCh x = false → E.all symCh = false) := by
        intro hx
        refine take_all (k := k) ?_
        rw [htk.out, List.all_append]
        simp [hx]
      have HY : Hid (symCh x = true → (E.take (k + 1)).all symCh = true) := by
        intro hx
        rw [htk.out, List.all_append, hall]
        simp [hx]
      have hxx := Lib.hid (show symCh x = (decide (33 ≤ x.toNat) && decide (x.toNat ≤ 126) && !markB x) from rfl)
      have hx256 : x.toNat < 256 := x.toNat_lt
      have hmk : Hid (markB x = decide (0 ≤ Lib.indexByte [40, 41, 34, 59, 39, 44, 96, 35] x)) := rfl
      have hxu : ((x.toNat : Int).toNat.toUInt8) = x := by simp
      clear htk hall
      by_cases h33 : x.toNat < 33
      · have b1 : decide ((x.toNat : Int) < 33) = true := by simp; omega
        have hF := Lib.hid (HN.out (by rw [hxx.out]; simp; omega))
        clear HN HY hxx hmk hxu
        go_wp2_with fail
        go_ret
        exact ⟨by rw [← HR.out, hF.out]; rfl, hbl⟩
      · have b1 : decide ((x.toNat : Int) < 33) = false := by simp; omega
        by_cases h126 : 126 < x.toNat
        · have b2 : decide (126 < (x.toNat : Int)) = true := by simp; omega
          have hF := Lib.hid (HN.out (by rw [hxx.out]; simp; omega))
          clear HN HY hxx hmk hxu
          go_wp2_with fail
          go_ret
          exact ⟨by rw [← HR.out, hF.out]; rfl, hbl⟩
        · have b2 : decide (126 < (x.toNat : Int)) = false := by simp; omega
          have HS := Lib.hid (show symCh x = !decide (0 ≤ Lib.indexByte [40, 41, 34, 59, 39, 44, 96, 35] x) by rw [hxx.out, hmk.out]; simp; omega)
          have cI := Lib.hid (indexbyte_any ⟨#[40, 41, 34, 59, 39, 44, 96, 35]⟩ (x.toNat : Int) w1)
          rw [hxu] at cI
          have cI2 : Hid (Calls Tryd.prog 80 #[.string ⟨#[40, 41, 34, 59, 39, 44, 96, 35]⟩, .int .u8 x.toNat] w1 fun e w' => e = .returned (.int .i64 (Lib.indexByte [40, 41, 34, 59, 39, 44, 96, 35] x)) ∧ w' = w1) := cI
          clear cI hxx hmk hxu
          generalize Lib.indexByte [40, 41, 34, 59, 39, 44, 96, 35] x = q at HS cI2
          by_cases hq : 0 ≤ q
          · have hF := Lib.hid (HN.out (by rw [HS.out]; simp [hq]))
            clear HN HY HS
            go_wp2_with fail
            refine cI2.out.mono ?_
            rintro e w' ⟨rfl, rfl⟩
            go_wp2_with fail
            go_ret
            exact ⟨by rw [← HR.out, hF.out]; rfl, hbl⟩
          · have hF := Lib.hid (HY.out (by rw [HS.out]; simp [hq]))
            clear HN HY HS
            go_wp2_with fail
            refine cI2.out.mono ?_
            rintro e w' ⟨rfl, rfl⟩
            go_wp2_with fail
            go_round
            case rel => exact ⟨k + 1, by omega, by go_num, hF.out⟩
            case measure => simp [intOf]; omega
    · obtain rfl : k = E.length := by omega
      rw [List.take_length] at hall
      have HA := Lib.hid hall
      have hge : ¬ (E.length : Int) < (s.size : Int) := by omega
      clear hall
      go_wp2_with fail
      go_ret
      exact ⟨by rw [← HR.out, HA.out]; rfl, hbl⟩
end Go.Proofs.YthighbbikpnpgaaDoor

/-! LxC -/
namespace Go.Proofs.YthighbbikpnpgaaDoor
open Go.RowKit

theorem symL_cases (l : List UInt8) : (l = [] ∧ symL l = false) ∨ (60 < l.length ∧ symL l = false) ∨ (l = [46] ∧ symL l = false) ∨
    (l ≠ [] ∧ l.length ≤ 60 ∧ l ≠ [46] ∧ okL (bodyL l) = true ∧ symL l = false) ∨ (l ≠ [] ∧ l.length ≤ 60 ∧ l ≠ [46] ∧ okL (bodyL l) = false ∧ symL l = l.all symCh) := by
  by_cases h0 : l = []
  · subst h0; exact .inl ⟨rfl, rfl⟩
  · by_cases h1 : 60 < l.length
    · refine .inr (.inl ⟨h1, ?_⟩)
      have : decide (l.length ≤ 60) = false := by simp; omega
      simp [symL, this]
    · by_cases h2 : l = [46]
      · subst h2; exact .inr (.inr (.inl ⟨rfl, rfl⟩))
      · have e1 : decide (1 ≤ l.length) = true := by cases l with | nil => exact absurd rfl h0 | cons _ _ => simp
        have e2 : decide (l.length ≤ 60) = true := by simp; omega
        have e3 : (l == [46]) = false := by simpa using h2
        cases hk : okL (bodyL l)
        · exact .inr (.inr (.inr (.inr ⟨h0, by omega, h2, rfl, by simp only [symL, e1, e2, e3, hk]; rfl⟩)))
        · exact .inr (.inr (.inr (.inl ⟨h0, by omega, h2, rfl, by simp only [symL, e1, e2, e3, hk]; rfl⟩)))

theorem symbol_any (s : ByteArray) (W : World) :
    Calls Tryd.prog 59 #[.string s] W fun e w' => e = .returned (.bool (symL s.data.toList)) ∧ Below W.heap.size W w' := by
  rcases symL_cases s.data.toList with ⟨h, e⟩ | ⟨h, e⟩ | ⟨h, e⟩ | ⟨h0, h1, h2, h3, e⟩ | ⟨h0, h1, h2, h3, e⟩
  · rw [e]; exact sym_short s h W
  · rw [e]; exact sym_long s h W
  · rw [e]
    obtain rfl : s = ⟨#[46]⟩ := by apply ByteArray.ext; rw [← Array.toList_inj, h]
    exact sym_dot W
  · rw [e]; exact sym_digits s h0 h1 h2 h3 W
  · rw [e]; exact sym_bytes s h0 h1 h2 h3 W

theorem refdig_minus (D : List UInt8) (hs : D.length ≤ 4611686018427387904) (W : World) :
    Calls Tryd.prog 81 #[.string ⟨⟨45 :: D⟩⟩] W fun e w' => e = .returned (.bool (okL D)) ∧ w' = W := by
  have eb := ba_zero 45 D
  have hext : (⟨⟨45 :: D⟩⟩ : ByteArray).extract 1 (D.length + 1) = ⟨⟨D⟩⟩ := by
    rw [Lib.extract_eq]; simp
  go_enter Tryd.func81, Tryd.ntmps81
  go_wp2_with fail
  clear eb hext
  go_loop [3] (fun i => ∃ k : Nat, k ≤ D.length ∧ i = .int .i64 k ∧ (D.take k).all digB = true) (fun i => D.length - (intOf i).toNat)
  case atStart => exact ⟨0, by omega, rfl, rfl⟩
  case round =>
    obtain ⟨k, hk, rfl, hall⟩ := hrel
    by_cases hlt : k < D.length
    · have htk := Lib.hid (List.take_succ_eq_append_getElem hlt)
      obtain ⟨x, hx0⟩ : ∃ x, D[k] = x := ⟨_, rfl⟩
      have hbx : ∀ h : k < (⟨⟨D⟩⟩ : ByteArray).size, (⟨⟨D⟩⟩ : ByteArray)[k]'h = x := fun _ => hx0
      rw [hx0] at htk
      clear hx0
      have hx256 : x.toNat < 256 := x.toNat_lt
      by_cases hd : digB x = true
      · obtain ⟨d1, d2⟩ := digB_iff.1 hd
        have b1 : decide ((x.toNat : Int) < 48) = false := by simp; omega
        have b2 : decide (57 < (x.toNat : Int)) = false := by simp; omega
        have HALL := Lib.hid (show (D.take (k + 1)).all digB = true by rw [htk.out, List.all_append, hall]; simp [hd])
        clear htk hall hd
        go_wp2_with fail
        go_round
        case rel => exact ⟨k + 1, by omega, by go_num, HALL.out⟩
        case measure => simp [intOf]; omega
      · have hF := Lib.hid (show okL D = false by
          have : D.all digB = false := take_all (k := k) (by rw [htk.out, List.all_append]; simp [hd])
          rw [okL, this]; simp)
        have hx : x.toNat < 48 ∨ 57 < x.toNat := by
          rcases Nat.lt_or_ge x.toNat 48 with h | h
          · exact .inl h
          · rcases Nat.lt_or_ge 57 x.toNat with h' | h'
            · exact .inr h'
            · exact absurd (digB_iff.2 ⟨h, h'⟩) hd
        clear htk hd hall
        rcases hx with h | h
        · have b1 : decide ((x.toNat : Int) < 48) = true := by simp; omega
          go_wp2_with fail
          go_ret
          exact ⟨by rw [hF.out]; rfl, rfl⟩
        · have b1 : decide ((x.toNat : Int) < 48) = false := by simp; omega
          have b2 : decide (57 < (x.toNat : Int)) = true := by simp; omega
          go_wp2_with fail
          go_ret
          exact ⟨by rw [hF.out]; rfl, rfl⟩
    · obtain rfl : k = D.length := by omega
      rw [List.take_length] at hall
      have hF := Lib.hid (show okL D = (decide (1 ≤ D.length) && decide (D.length ≤ 30)) by rw [okL, hall, Bool.and_true])
      clear hall
      by_cases l1 : 1 ≤ D.length
      · by_cases l2 : D.length ≤ 30
        · have m1 : decide (1 ≤ (D.length : Int)) = true := by simp; omega
          have m2 : decide ((D.length : Int) ≤ 30) = true := by simp; omega
          have hG := Lib.hid (show okL D = true by rw [hF.out, decide_eq_true l1, decide_eq_true l2]; rfl)
          clear hF
          go_wp2_with fail
          go_ret
          exact ⟨by rw [hG.out]; first | rfl | simp [m1, m2] | simp; omega, rfl⟩
        · have m1 : decide (1 ≤ (D.length : Int)) = true := by simp; omega
          have m2 : decide ((D.length : Int) ≤ 30) = false := by simp; omega
          have hG := Lib.hid (show okL D = false by rw [hF.out, decide_eq_false l2]; simp)
          clear hF
          go_wp2_with fail
          go_ret
          exact ⟨by rw [hG.out]; first | rfl | simp [m1, m2] | simp; omega, rfl⟩
      · have m1 : decide (1 ≤ (D.length : Int)) = false := by simp; omega
        have hG := Lib.hid (show okL D = false by rw [hF.out, decide_eq_false l1]; rfl)
        clear hF
        go_wp2_with fail
        go_ret
        exact ⟨by rw [hG.out]; first | rfl | simp [m1] | simp; omega, rfl⟩

theorem refdig_plus (D : List UInt8) (hs : D.length ≤ 4611686018427387904) (W : World) :
    Calls Tryd.prog 81 #[.string ⟨⟨43 :: D⟩⟩] W fun e w' => e = .returned (.bool (okL D)) ∧ w' = W := by
  have eb := ba_zero 43 D
  have hext : (⟨⟨43 :: D⟩⟩ : ByteArray).extract 1 (D.length + 1) = ⟨⟨D⟩⟩ := by
    rw [Lib.extract_eq]; simp
  go_enter Tryd.func81, Tryd.ntmps81
  go_wp2_with fail
  clear eb hext
  go_loop [3] (fun i => ∃ k : Nat, k ≤ D.length ∧ i = .int .i64 k ∧ (D.take k).all digB = true) (fun i => D.length - (intOf i).toNat)
  case atStart => exact ⟨0, by omega, rfl, rfl⟩
  case round =>
    obtain ⟨k, hk, rfl, hall⟩ := hrel
    by_cases hlt : k < D.length
    · have htk := Lib.hid (List.take_succ_eq_append_getElem hlt)
      obtain ⟨x, hx0⟩ : ∃ x, D[k] = x := ⟨_, rfl⟩
      have hbx : ∀ h : k < (⟨⟨D⟩⟩ : ByteArray).size, (⟨⟨D⟩⟩ : ByteArray)[k]'h = x := fun _ => hx0
      rw [hx0] at htk
      clear hx0
      have hx256 : x.toNat < 256 := x.toNat_lt
      by_cases hd : digB x = true
      · obtain ⟨d1, d2⟩ := digB_iff.1 hd
        have b1 : decide ((x.toNat : Int) < 48) = false := by simp; omega
        have b2 : decide (57 < (x.toNat : Int)) = false := by simp; omega
        have HALL := Lib.hid (show (D.take (k + 1)).all digB = true by rw [htk.out, List.all_append, hall]; simp [hd])
        clear htk hall hd
        go_wp2_with fail
        go_round
        case rel => exact ⟨k + 1, by omega, by go_num, HALL.out⟩
        case measure => simp [intOf]; omega
      · have hF := Lib.hid (show okL D = false by
          have : D.all digB = false := take_all (k := k) (by rw [htk.out, List.all_append]; simp [hd])
          rw [okL, this]; simp)
        have hx : x.toNat < 48 ∨ 57 < x.toNat := by
          rcases Nat.lt_or_ge x.toNat 48 with h | h
          · exact .inl h
          · rcases Nat.lt_or_ge 57 x.toNat with h' | h'
            · exact .inr h'
            · exact absurd (digB_iff.2 ⟨h, h'⟩) hd
        clear htk hd hall
        rcases hx with h | h
        · have b1 : decide ((x.toNat : Int) < 48) = true := by simp; omega
          go_wp2_with fail
          go_ret
          exact ⟨by rw [hF.out]; rfl, rfl⟩
        · have b1 : decide ((x.toNat : Int) < 48) = false := by simp; omega
          have b2 : decide (57 < (x.toNat : Int)) = true := by simp; omega
          go_wp2_with fail
          go_ret
          exact ⟨by rw [hF.out]; rfl, rfl⟩
    · obtain rfl : k = D.length := by omega
      rw [List.take_length] at hall
      have hF := Lib.hid (show okL D = (decide (1 ≤ D.length) && decide (D.length ≤ 30)) by rw [okL, hall, Bool.and_true])
      clear hall
      by_cases l1 : 1 ≤ D.length
      · by_cases l2 : D.length ≤ 30
        · have m1 : decide (1 ≤ (D.length : Int)) = true := by simp; omega
          have m2 : decide ((D.length : Int) ≤ 30) = true := by simp; omega
          have hG := Lib.hid (show okL D = true by rw [hF.out, decide_eq_true l1, decide_eq_true l2]; rfl)
          clear hF
          go_wp2_with fail
          go_ret
          exact ⟨by rw [hG.out]; first | rfl | simp [m1, m2] | simp; omega, rfl⟩
        · have m1 : decide (1 ≤ (D.length : Int)) = true := by simp; omega
          have m2 : decide ((D.length : Int) ≤ 30) = false := by simp; omega
          have hG := Lib.hid (show okL D = false by rw [hF.out, decide_eq_false l2]; simp)
          clear hF
          go_wp2_with fail
          go_ret
          exact ⟨by rw [hG.out]; first | rfl | simp [m1, m2] | simp; omega, rfl⟩
      · have m1 : decide (1 ≤ (D.length : Int)) = false := by simp; omega
        have hG := Lib.hid (show okL D = false by rw [hF.out, decide_eq_false l1]; rfl)
        clear hF
        go_wp2_with fail
        go_ret
        exact ⟨by rw [hG.out]; first | rfl | simp [m1] | simp; omega, rfl⟩

theorem refdig_none (c : UInt8) (r : List UInt8) (hc : ¬ c = 45) (hc' : ¬ c = 43) (hs : (c :: r).length ≤ 4611686018427387904) (W : World) :
    Calls Tryd.prog 81 #[.string ⟨⟨c :: r⟩⟩] W fun e w' => e = .returned (.bool (okL (c :: r))) ∧ w' = W := by
  have eb := ba_zero c r
  have g45 : ((c.toNat : Int) == 45) = false := (u8beq c 45).trans (by simpa using hc)
  have g43 : ((c.toNat : Int) == 43) = false := (u8beq c 43).trans (by simpa using hc')
  have hpos : 0 < (⟨⟨c :: r⟩⟩ : ByteArray).size := by show 0 < (c :: r).length; simp
  obtain ⟨D, hD⟩ : ∃ D, D = c :: r := ⟨_, rfl⟩
  have hDl : 0 < D.length := by rw [hD]; simp
  rw [← hD] at eb hs ⊢
  clear hD hpos
  go_enter Tryd.func81, Tryd.ntmps81
  go_wp2_with fail
  clear eb g45 g43 hDl
  go_loop [3] (fun i => ∃ k : Nat, k ≤ D.length ∧ i = .int .i64 k ∧ (D.take k).all digB = true) (fun i => D.length - (intOf i).toNat)
  case atStart => exact ⟨0, by omega, rfl, rfl⟩
  case round =>
    obtain ⟨k, hk, rfl, hall⟩ := hrel
    by_cases hlt : k < D.length
    · have htk := Lib.hid (List.take_succ_eq_append_getElem hlt)
      obtain ⟨x, hx0⟩ : ∃ x, D[k] = x := ⟨_, rfl⟩
      have hbx : ∀ h : k < (⟨⟨D⟩⟩ : ByteArray).size, (⟨⟨D⟩⟩ : ByteArray)[k]'h = x := fun _ => hx0
      rw [hx0] at htk
      clear hx0
      have hx256 : x.toNat < 256 := x.toNat_lt
      by_cases hd : digB x = true
      · obtain ⟨d1, d2⟩ := digB_iff.1 hd
        have b1 : decide ((x.toNat : Int) < 48) = false := by simp; omega
        have b2 : decide (57 < (x.toNat : Int)) = false := by simp; omega
        have HALL := Lib.hid (show (D.take (k + 1)).all digB = true by rw [htk.out, List.all_append, hall]; simp [hd])
        clear htk hall hd
        go_wp2_with fail
        go_round
        case rel => exact ⟨k + 1, by omega, by go_num, HALL.out⟩
        case measure => simp [intOf]; omega
      · have hF := Lib.hid (show okL D = false by
          have : D.all digB = false := take_all (k := k) (by rw [htk.out, List.all_append]; simp [hd])
          rw [okL, this]; simp)
        have hx : x.toNat < 48 ∨ 57 < x.toNat := by
          rcases Nat.lt_or_ge x.toNat 48 with h | h
          · exact .inl h
          · rcases Nat.lt_or_ge 57 x.toNat with h' | h'
            · exact .inr h'
            · exact absurd (digB_iff.2 ⟨h, h'⟩) hd
        clear htk hd hall
        rcases hx with h | h
        · have b1 : decide ((x.toNat : Int) < 48) = true := by simp; omega
          go_wp2_with fail
          go_ret
          exact ⟨by rw [hF.out]; rfl, rfl⟩
        · have b1 : decide ((x.toNat : Int) < 48) = false := by simp; omega
          have b2 : decide (57 < (x.toNat : Int)) = true := by simp; omega
          go_wp2_with fail
          go_ret
          exact ⟨by rw [hF.out]; rfl, rfl⟩
    · obtain rfl : k = D.length := by omega
      rw [List.take_length] at hall
      have hF := Lib.hid (show okL D = (decide (1 ≤ D.length) && decide (D.length ≤ 30)) by rw [okL, hall, Bool.and_true])
      clear hall
      by_cases l1 : 1 ≤ D.length
      · by_cases l2 : D.length ≤ 30
        · have m1 : decide (1 ≤ (D.length : Int)) = true := by simp; omega
          have m2 : decide ((D.length : Int) ≤ 30) = true := by simp; omega
          have hG := Lib.hid (show okL D = true by rw [hF.out, decide_eq_true l1, decide_eq_true l2]; rfl)
          clear hF
          go_wp2_with fail
          go_ret
          exact ⟨by rw [hG.out]; first | rfl | simp [m1, m2] | simp; omega, rfl⟩
        · have m1 : decide (1 ≤ (D.length : Int)) = true := by simp; omega
          have m2 : decide ((D.length : Int) ≤ 30) = false := by simp; omega
          have hG := Lib.hid (show okL D = false by rw [hF.out, decide_eq_false l2]; simp)
          clear hF
          go_wp2_with fail
          go_ret
          exact ⟨by rw [hG.out]; first | rfl | simp [m1, m2] | simp; omega, rfl⟩
      · have m1 : decide (1 ≤ (D.length : Int)) = false := by simp; omega
        have hG := Lib.hid (show okL D = false by rw [hF.out, decide_eq_false l1]; rfl)
        clear hF
        go_wp2_with fail
        go_ret
        exact ⟨by rw [hG.out]; first | rfl | simp [m1] | simp; omega, rfl⟩

theorem refdigits_any (s : ByteArray) (hs : s.data.toList.length ≤ 4611686018427387904) (W : World) :
    Calls Tryd.prog 81 #[.string s] W fun e w' => e = .returned (.bool (okL (bodyL s.data.toList))) ∧ w' = W := by
  obtain ⟨⟨l⟩⟩ := s
  rw [show (ByteArray.mk ⟨l⟩).data.toList = l from rfl] at hs ⊢
  rcases l with _ | ⟨c, r⟩
  · have H := Lib.hid (show okL (bodyL []) = false from rfl)
    go_enter Tryd.func81, Tryd.ntmps81
    go_wp2_with fail
    go_loop [3] (fun i => i = .int .i64 0) (fun _ => 0)
    case atStart => rfl
    case round =>
      subst hrel
      go_wp2_with fail
      go_ret
      exact ⟨by rw [H.out]; rfl, rfl⟩
  · by_cases h45 : c = 45
    · subst h45
      exact refdig_minus r (by simp at hs; omega) W
    · by_cases h43 : c = 43
      · subst h43
        exact refdig_plus r (by simp at hs; omega) W
      · have e : bodyL (c :: r) = c :: r := by simp [bodyL, h45, h43]
        rw [e]
        exact refdig_none c r h45 h43 hs W
end Go.Proofs.YthighbbikpnpgaaDoor

/-! LeA -/
namespace Go.Proofs.YthighbbikpnpgaaDoor
open Go.RowKit Go.Proofs.YthighbbikpnpgaaDoorW.PrintWords

/-- The lexer's block. -/
def LexAt (b : Nat) (T : ByteArray) (at_ ln cl : Int) (w : World) : Prop := w.heap[b]? = some (.cells #[.string T, .int .i64 at_, .int .i64 ln, .int .i64 cl] 121 (0, 0))

/-- Nothing but one block changes; the streams are as they were. -/
def KeepB (w w' : World) (g : Nat) (row : Option Nat) : Prop := KeepBut w w' g row ∧ w'.os = w.os ∧ w'.tape = w.tape ∧ w'.output = w.output
theorem KeepB.refl (w : World) (g : Nat) (row : Option Nat) : KeepB w w g row := ⟨KeepBut.refl w g row, rfl, rfl, rfl⟩
theorem KeepB.of_below {w w1 : World} (h : Below w.heap.size w w1) (g : Nat) (row : Option Nat) : KeepB w w1 g row := ⟨KeepBut.of_below h g row, h.os, h.tape, h.output⟩
theorem KeepB.set_ {w w1 : World} {g : Nat} {row : Option Nat} (h : KeepB w w1 g row) (j : Nat) (u : Value) : KeepB w (w1.setCell ⟨g, j, none⟩ u) g row := ⟨h.1.set_ j u, h.2.1, h.2.2.1, h.2.2.2⟩
theorem KeepB.trans {w w1 w2 : World} {g : Nat} {row row1 : Option Nat} (h : KeepB w w1 g row) (k : KeepB w1 w2 g row1) (hr : row1 = row ∨ ∃ b, row1 = some b ∧ w.heap.size ≤ b) : KeepB w w2 g row := ⟨h.1.trans k.1 hr, k.2.1.trans h.2.1, k.2.2.1.trans h.2.2.1, k.2.2.2.trans h.2.2.2⟩
theorem KeepB.blk {w w1 : World} {g g' : Nat} {row : Option Nat} {o : Obj} (h : KeepB w w1 g row) (hb : w.heap[g']? = some o) (hg : g' ≠ g) (hr : some g' ≠ row) : w1.heap[g']? = some o := h.1.blk hb hg hr
theorem keep_allocB {w W : World} {g : Nat} (h : KeepB w W g none) (o : Obj) : KeepB w (W.alloc o) g none := ⟨keep_alloc h.1 o, h.2.1, h.2.2.1, h.2.2.2⟩
theorem KeepB.below {w w' : World} {g : Nat} (h : KeepB w w' g none) (hb : w.heap.size ≤ g) : Below w.heap.size w w' := ⟨h.2.1, h.2.2.1, h.2.2.2, h.1.1, fun i hi => h.1.2 i hi (by omega) (by simp)⟩

def blankB (c : UInt8) : Bool := c == 32 || c == 9 || c == 10 || c == 13
def endB (c : UInt8) : Bool := blankB c || c == 40 || c == 41 || c == 34 || c == 59 || c == 39

theorem byte_int (c : UInt8) (n : Nat) (hn : n < 256) : ((c.toNat : Int) = (n : Nat)) ↔ c = n.toUInt8 := by
  constructor
  · intro h
    have h1 : c.toNat = n := by omega
    apply UInt8.toNat_inj.1
    rw [h1]
    simp
    omega
  · rintro rfl
    simp
    omega

set_option maxRecDepth 16000 in
theorem blank_any (c : UInt8) (w : World) : Calls Tryd.prog 106 #[.int .u8 (c.toNat : Int)] w fun e w' => e = .returned (.bool (blankB c)) ∧ w' = w := by
  have h : c = 32 ∨ c = 9 ∨ c = 10 ∨ c = 13 ∨ (((c.toNat : Int) == 32) = false ∧ ((c.toNat : Int) == 9) = false ∧ ((c.toNat : Int) == 10) = false ∧ ((c.toNat : Int) == 13) = false ∧ blankB c = false) := by
    by_cases h1 : c = 32; · exact .inl h1
    by_cases h2 : c = 9; · exact .inr (.inl h2)
    by_cases h3 : c = 10; · exact .inr (.inr (.inl h3))
    by_cases h4 : c = 13; · exact .inr (.inr (.inr (.inl h4)))
    refine .inr (.inr (.inr (.inr ⟨?_, ?_, ?_, ?_, by simp [blankB, h1, h2, h3, h4]⟩)))
    · exact beq_eq_false_iff_ne.2 (fun e => h1 ((byte_int c 32 (by omega)).1 e))
    · exact beq_eq_false_iff_ne.2 (fun e => h2 ((byte_int c 9 (by omega)).1 e))
    · exact beq_eq_false_iff_ne.2 (fun e => h3 ((byte_int c 10 (by omega)).1 e))
    · exact beq_eq_false_iff_ne.2 (fun e => h4 ((byte_int c 13 (by omega)).1 e))
  rcases h with rfl | rfl | rfl | rfl | ⟨e1, e2, e3, e4, hf⟩
  · go_enter Tryd.func106, Tryd.ntmps106
    go_wp2_with fail
    go_ret
    exact ⟨rfl, rfl⟩
  · go_enter Tryd.func106, Tryd.ntmps106
    go_wp2_with fail
    go_ret
    exact ⟨rfl, rfl⟩
  · go_enter Tryd.func106, Tryd.ntmps106
    go_wp2_with fail
    go_ret
    exact ⟨rfl, rfl⟩
  · go_enter Tryd.func106, Tryd.ntmps106
    go_wp2_with fail
    go_ret
    exact ⟨rfl, rfl⟩
  · rw [hf]
    clear hf
    go_enter Tryd.func106, Tryd.ntmps106
    go_wp2_with fail
    go_ret
    exact ⟨rfl, rfl⟩

theorem wrapL {n : Int} (h0 : 0 ≤ n) (h : n ≤ 4611686018427387904) : wrap64 (n + 1) = n + 1 := by
  unfold wrap64; omega

def lineOf (c : UInt8) (ln : Int) : Int := if c = 10 then ln + 1 else ln
def colOf (c : UInt8) (cl : Int) : Int := if c = 10 then 1 else cl + 1

structure StepTo (b : Nat) (T : ByteArray) (c : UInt8) (at_ ln cl : Int) (w : World) (e : Ending) (w' : World) : Prop where
  ret : e = .returned (.int .u8 (c.toNat : Int))
  lies : LexAt b T (at_ + 1) (lineOf c ln) (colOf c cl) w'
  keep : KeepB w w' b none
  size : w'.heap.size = w.heap.size



set_option maxRecDepth 16000 in
theorem step_any (b : Nat) (T : ByteArray) (i : Nat) (x : UInt8) (ln cl : Int) (w : World) (h : LexAt b T i ln cl w) (hi : i < T.size) (hx : ∀ h, T[i]'h = x) (hT : T.size ≤ 1000000000) (h1 : 0 ≤ ln) (h2 : ln ≤ 4000000000) (h3 : 0 ≤ cl) (h4 : cl ≤ 4000000000) :
    Calls Tryd.prog 89 #[.pointer (some ⟨b, 0, none⟩)] w (StepTo b T x i ln cl w) := by
  have hi' : (i : Int) < (T.size : Nat) := by omega
  have c0 : w.cell? ⟨b, 0, none⟩ = some (.string T) := blk_cell h 0
  have c1 : w.cell? ⟨b, 1, none⟩ = some (.int .i64 (i : Nat)) := blk_cell h 1
  have c2 : w.cell? ⟨b, 2, none⟩ = some (.int .i64 ln) := blk_cell h 2
  have c3 : w.cell? ⟨b, 3, none⟩ = some (.int .i64 cl) := blk_cell h 3
  have f0 := blk_frozen h 0
  have f1 := blk_frozen h 1
  have f2 := blk_frozen h 2
  have f3 := blk_frozen h 3
  have x256 : x.toNat < 256 := x.toNat_lt
  have HL := Lib.hid h
  clear h
  by_cases h10 : x = 10
  · subst h10
    go_enter Tryd.func89, Tryd.ntmps89
    go_wp2_with fail
    go_region
    go_wp2_with fail
    go_ret
    exact ⟨rfl, blk_drew (blk_set (blk_set (blk_set (blk_set HL.out 1 _) 3 _) 2 _) 3 _), ((((KeepB.refl w b none).set_ 1 _).set_ 3 _).set_ 2 _).set_ 3 _, by simp⟩
  · have b10 : ((x.toNat : Int) == 10) = false := beq_eq_false_iff_ne.2 (fun e => h10 ((byte_int x 10 (by omega)).1 e))
    have H10 := Lib.hid h10
    clear h10
    go_enter Tryd.func89, Tryd.ntmps89
    go_wp2_with fail
    go_region
    go_wp2_with fail
    go_ret
    have e1 : lineOf x ln = ln := by unfold lineOf; rw [if_neg H10.out]
    have e2 : colOf x cl = cl + 1 := by unfold colOf; rw [if_neg H10.out]
    refine ⟨rfl, ?_, ((KeepB.refl w b none).set_ 1 _).set_ 3 _, by simp⟩
    rw [e1, e2]
    exact blk_drew (blk_set (blk_set HL.out 1 _) 3 _)
end Go.Proofs.YthighbbikpnpgaaDoor

/-! LeB -/
namespace Go.Proofs.YthighbbikpnpgaaDoor
open Go.RowKit Go.Proofs.YthighbbikpnpgaaDoorW.PrintWords

def endAt (T : ByteArray) (k : Nat) : Bool := if h : k < T.size then endB (T[k]'h) else true

theorem end_index (x : UInt8) (h : blankB x = false) : decide (0 ≤ Lib.indexByte [40, 41, 34, 59, 39] x) = endB x := by
  rw [endB, h, Bool.false_or]
  by_cases h0 : x = 40; · subst h0; rfl
  by_cases h1 : x = 41; · subst h1; rfl
  by_cases h2 : x = 34; · subst h2; rfl
  by_cases h3 : x = 59; · subst h3; rfl
  by_cases h4 : x = 39; · subst h4; rfl
  have e : Lib.indexByte [40, 41, 34, 59, 39] x = -1 := by
    simp [Lib.indexByte, Ne.symm h0, Ne.symm h1, Ne.symm h2, Ne.symm h3, Ne.symm h4]
  rw [e]
  simp [h0, h1, h2, h3, h4]

set_option maxRecDepth 16000 in
theorem ends_any (b : Nat) (T : ByteArray) (i k : Nat) (ln cl : Int) (w : World) (h : LexAt b T i ln cl w) :
    Calls Tryd.prog 107 #[.pointer (some ⟨b, 0, none⟩), .int .i64 (k : Nat)] w fun e w' => e = .returned (.bool (endAt T k)) ∧ Below w.heap.size w w' := by
  have c0 : w.cell? ⟨b, 0, none⟩ = some (.string T) := blk_cell h 0
  by_cases hlt : k < T.size
  · have hi' : (k : Int) < (T.size : Nat) := by omega
    obtain ⟨x, hx⟩ : ∃ x, T[k]'hlt = x := ⟨_, rfl⟩
    have hbx : ∀ h, T[k]'h = x := fun _ => hx
    have e : endAt T k = endB x := by rw [endAt, dif_pos hlt, hx]
    have x256 : x.toNat < 256 := x.toNat_lt
    rw [e]
    clear h e hx
    cases hB : blankB x
    · have HI := Lib.hid (end_index x hB)
      have HB := Lib.hid (blank_any x)
      rw [hB] at HB
      clear hB
      go_enter Tryd.func107, Tryd.ntmps107
      go_wp2_with fail
      refine (HB.out _).mono ?_
      rintro e w' ⟨rfl, rfl⟩
      go_wp2_with fail
      refine (indexbyte_any _ _ _).mono ?_
      rintro e w' ⟨rfl, rfl⟩
      go_wp2_with fail
      go_ret
      exact ⟨by rw [← HI.out]; simp [show ¬ T.size ≤ k by omega], Below.refl _ _⟩
    · have HB := Lib.hid (blank_any x)
      rw [hB] at HB
      rw [show endB x = true by rw [endB, hB]; rfl]
      clear hB
      go_enter Tryd.func107, Tryd.ntmps107
      go_wp2_with fail
      refine (HB.out _).mono ?_
      rintro e w' ⟨rfl, rfl⟩
      go_wp2_with fail
      go_ret
      exact ⟨rfl, Below.refl _ _⟩
  · have hi' : ¬ (k : Int) < (T.size : Nat) := by omega
    have e : endAt T k = true := by rw [endAt, dif_neg hlt]
    rw [e]
    clear h e
    go_enter Tryd.func107, Tryd.ntmps107
    go_wp2_with fail
    go_ret
    exact ⟨rfl, Below.refl _ _⟩

/-- Behind blanks and remarks: the place, the line, the column. -/
def skipR : List UInt8 → Bool → Nat → Int → Int → Nat × Int × Int
  | [], _, k, ln, cl => (k, ln, cl)
  | x :: r, note, k, ln, cl => if (note || x == 59) = false ∧ blankB x = false then (k, ln, cl) else skipR r ((note || x == 59) && !(x == 10)) (k + 1) (lineOf x ln) (colOf x cl)

theorem skipR_blank {x : UInt8} (h : blankB x = true) (r : List UInt8) (k : Nat) (ln cl : Int) : skipR (x :: r) false k ln cl = skipR r false (k + 1) (lineOf x ln) (colOf x cl) := by
  have h59 : (x == 59) = false := by
    by_cases e : x = 59
    · subst e; cases h
    · simpa using e
  rw [skipR, if_neg (by rw [h]; simp), h59]; rfl
theorem skipR_note (r : List UInt8) (k : Nat) (ln cl : Int) : skipR (59 :: r) false k ln cl = skipR (59 :: r) true k ln cl := by
  rw [skipR, skipR]; rfl
theorem skipR_on {x : UInt8} (h : x ≠ 10) (r : List UInt8) (k : Nat) (ln cl : Int) : skipR (x :: r) true k ln cl = skipR r true (k + 1) (lineOf x ln) (colOf x cl) := by
  rw [skipR, if_neg (by simp), show (x == 10) = false by simpa using h]; rfl
theorem skipR_off (r : List UInt8) (k : Nat) (ln cl : Int) : skipR (10 :: r) true k ln cl = skipR (10 :: r) false k ln cl := by
  rw [skipR, skipR]; rfl
theorem skipR_end {x : UInt8} (h : blankB x = false) (h59 : x ≠ 59) (r : List UInt8) (k : Nat) (ln cl : Int) : skipR (x :: r) false k ln cl = (k, ln, cl) := by
  rw [skipR, if_pos ⟨by simp [h59], h⟩]

structure SkipI (b : Nat) (T : ByteArray) (w : World) (R : Nat × Int × Int) (note : Bool) (j : Nat) (ln cl : Int) (w' : World) : Prop where
  lies : LexAt b T j ln cl w'
  keep : KeepB w w' b none
  rest : skipR (T.data.toList.drop j) note j ln cl = R
  le : j ≤ T.size
  l0 : 0 ≤ ln
  l1 : ln ≤ 1100000000 + j
  c0 : 0 ≤ cl
  c1 : cl ≤ 1100000000 + j

theorem drop_cons {T : ByteArray} {j : Nat} (h : j < T.size) : T.data.toList.drop j = T[j]'h :: T.data.toList.drop (j + 1) := List.drop_eq_getElem_cons (by simpa using h)
theorem SkipI.step {b : Nat} {T : ByteArray} {w : World} {R : Nat × Int × Int} {note note' : Bool} {j : Nat} {ln cl : Int} {w1 : World} (h : SkipI b T w R note j ln cl w1) (hj : j < T.size) {x : UInt8} (hx : ∀ h, T[j]'h = x)
    (hs : skipR (x :: T.data.toList.drop (j + 1)) note j ln cl = skipR (T.data.toList.drop (j + 1)) note' (j + 1) (lineOf x ln) (colOf x cl)) {e : Ending} {w2 : World} (hw : StepTo b T x j ln cl w1 e w2) : SkipI b T w R note' (j + 1) (lineOf x ln) (colOf x cl) w2 where
  lies := hw.lies
  keep := h.keep.trans hw.keep (.inl rfl)
  rest := by rw [← hs, ← h.rest, drop_cons hj, hx hj]
  le := hj
  l0 := by have := h.l0; unfold lineOf; split <;> omega
  l1 := by have := h.l1; unfold lineOf; split <;> omega
  c0 := by have := h.c0; unfold colOf; split <;> omega
  c1 := by have := h.c1; unfold colOf; split <;> omega
end Go.Proofs.YthighbbikpnpgaaDoor

/-! LeC -/
namespace Go.Proofs.YthighbbikpnpgaaDoor
open Go.RowKit Go.Proofs.YthighbbikpnpgaaDoorW.PrintWords

structure SkipTo (b : Nat) (T : ByteArray) (R : Nat × Int × Int) (w : World) (e : Ending) (w' : World) : Prop where
  ret : e = .returned (.tuple #[])
  lies : LexAt b T R.1 R.2.1 R.2.2 w'
  keep : KeepB w w' b none

set_option maxRecDepth 400000 in
set_option maxHeartbeats 4000000 in
theorem skip_any (b : Nat) (T : ByteArray) (i : Nat) (ln cl : Int) (w : World) (h : LexAt b T i ln cl w) (hi : i ≤ T.size) (hT : T.size ≤ 1000000000) (h1 : 0 ≤ ln) (h2 : ln ≤ 1100000000) (h3 : 0 ≤ cl) (h4 : cl ≤ 1100000000) :
    Calls Tryd.prog 84 #[.pointer (some ⟨b, 0, none⟩)] w (SkipTo b T (skipR (T.data.toList.drop i) false i ln cl) w) := by
  obtain ⟨R, hR⟩ : ∃ R, skipR (T.data.toList.drop i) false i ln cl = R := ⟨_, rfl⟩
  have HI : Hid (SkipI b T w R false i ln cl w) := Lib.hid ⟨h, KeepB.refl _ _ _, hR, hi, h1, by omega, h3, by omega⟩
  rw [hR]
  have HT := Lib.hid hT
  clear h h1 h2 h3 h4 hR hi hT
  go_enter Tryd.func84, Tryd.ntmps84
  go_wp2_with fail
  go_loopg [] (T.size - i) (fun gk w' => ∃ (j : Nat) (l c : Int), gk = T.size - j ∧ Hid (SkipI b T w R false j l c w'))
  case atStart => exact ⟨i, ln, cl, rfl, HI⟩
  case round =>
    obtain ⟨j, l, c, rfl, HJ⟩ := hrel
    have d0 : wr.cell? ⟨b, 0, none⟩ = some (.string T) := blk_cell HJ.out.lies 0
    have d1 : wr.cell? ⟨b, 1, none⟩ = some (.int .i64 (j : Nat)) := blk_cell HJ.out.lies 1
    by_cases hlt : j < T.size
    · have hlt' : (j : Int) < (T.size : Nat) := by omega
      obtain ⟨x, hx⟩ : ∃ x, T[j]'hlt = x := ⟨_, rfl⟩
      have hbx : ∀ h, T[j]'h = x := fun _ => hx
      have HX := Lib.hid hbx
      clear hx
      have x256 : x.toNat < 256 := x.toNat_lt
      go_wp2_with fail
      go_region
      go_wp2_with fail
      go_region
      go_wp2_with fail
      refine (blank_any x _).mono ?_
      rintro e w1 ⟨rfl, rfl⟩
      have HD := Lib.hid (show SkipI b T w R false j l c wr.drew.drew from ⟨HJ.out.lies, HJ.out.keep, HJ.out.rest, HJ.out.le, HJ.out.l0, HJ.out.l1, HJ.out.c0, HJ.out.c1⟩)
      have HLT := Lib.hid hlt
      have hbl : blankB x = true ∨ blankB x = false := by cases blankB x <;> simp
      rcases hbl with hbl | hbl
      · rw [hbl]
        have HS := Lib.hid (fun k l c => skipR_blank hbl (T.data.toList.drop (j + 1)) k l c)
        clear hbl
        go_wp2_with fail
        refine (step_any b T j x l c _ HD.out.lies HLT.out HX.out (by have := HT.out; omega) HD.out.l0 (by have := HD.out.l1; have := HLT.out; have := HT.out; omega) HD.out.c0 (by have := HD.out.c1; have := HLT.out; have := HT.out; omega)).mono ?_
        rintro e w2 hw2
        obtain rfl := hw2.ret
        have HW2 := Lib.hid (HD.out.step HLT.out HX.out (HS.out _ _ _) hw2)
        clear hw2 d0 d1
        go_wp2_with fail
        go_roundg (T.size - (j + 1))
        case measure => have := HLT.out; omega
        case rel => exact ⟨j + 1, _, _, rfl, HW2⟩
      · rw [hbl]
        by_cases h59 : x = 59
        · subst h59
          have HN := Lib.hid (show SkipI b T w R true j l c wr.drew.drew from ⟨HJ.out.lies, HJ.out.keep, by rw [drop_cons HLT.out, HX.out, ← skipR_note, ← HJ.out.rest, drop_cons HLT.out, HX.out], HJ.out.le, HJ.out.l0, HJ.out.l1, HJ.out.c0, HJ.out.c1⟩)
          clear hbl
          go_wp2_with fail
          have HX59 := Lib.hid (fun (h : j < T.size) => HX.out h)
          clear d0 d1 HD HX hbx HJ hlt' hlt
          go_loopg [] (T.size - j) (fun gk w' => ∃ (k : Nat) (l c : Int), gk = T.size - k ∧ j ≤ k ∧ Hid (SkipI b T w R true k l c w'))
          case atStart => exact ⟨j, l, c, rfl, Nat.le_refl _, HN⟩
          case round =>
            clear HN
            obtain ⟨k, l, c, rfl, hjk, HJ⟩ := hrel
            have d0 : wr.cell? ⟨b, 0, none⟩ = some (.string T) := blk_cell HJ.out.lies 0
            have d1 : wr.cell? ⟨b, 1, none⟩ = some (.int .i64 (k : Nat)) := blk_cell HJ.out.lies 1
            by_cases hlt : k < T.size
            · have hlt' : (k : Int) < (T.size : Nat) := by omega
              obtain ⟨y, hy⟩ : ∃ y, T[k]'hlt = y := ⟨_, rfl⟩
              have hby : ∀ h, T[k]'h = y := fun _ => hy
              have HY := Lib.hid hby
              clear hy
              have y256 : y.toNat < 256 := y.toNat_lt
              by_cases h10 : y = 10
              · subst h10
                have hne : j ≠ k := fun e => by subst e; have h1 := HX59.out HLT.out; have h2 := HY.out HLT.out; rw [h1] at h2; cases h2
                have HN := Lib.hid (show SkipI b T w R false k l c wr.drew from ⟨HJ.out.lies, HJ.out.keep, by rw [drop_cons hlt, HY.out, ← skipR_off, ← HJ.out.rest, drop_cons hlt, HY.out], HJ.out.le, HJ.out.l0, HJ.out.l1, HJ.out.c0, HJ.out.c1⟩)
                have HLK := Lib.hid hlt
                go_wp2_with fail
                go_region
                go_wp2_with fail
                go_roundg (T.size - k)
                case measure => have := HLT.out; have := HLK.out; omega
                case rel => exact ⟨k, _, _, rfl, HN⟩
              · have b10 : ((y.toNat : Int) == 10) = false := beq_eq_false_iff_ne.2 (fun e => h10 ((byte_int y 10 (by omega)).1 e))
                have HS := Lib.hid (fun k l c => skipR_on h10 (T.data.toList.drop (k + 1)) k l c)
                have HLK := Lib.hid hlt
                have HD := Lib.hid (show SkipI b T w R true k l c wr.drew from ⟨HJ.out.lies, HJ.out.keep, HJ.out.rest, HJ.out.le, HJ.out.l0, HJ.out.l1, HJ.out.c0, HJ.out.c1⟩)
                clear h10
                go_wp2_with fail
                go_region
                go_wp2_with fail
                refine (step_any b T k y l c _ HD.out.lies HLK.out HY.out (by have := HT.out; omega) HD.out.l0 (by have := HD.out.l1; have := HLK.out; have := HT.out; omega) HD.out.c0 (by have := HD.out.c1; have := HLK.out; have := HT.out; omega)).mono ?_
                rintro e w2 hw2
                obtain rfl := hw2.ret
                have HW2 := Lib.hid (HD.out.step HLK.out HY.out (HS.out _ _ _) hw2)
                clear hw2 d0 d1
                go_wp2_with fail
                go_roundg (T.size - (k + 1))
                case measure => have := HLK.out; omega
                case rel => exact ⟨k + 1, _, _, rfl, by omega, HW2⟩
            · have hlt' : ¬ (k : Int) < (T.size : Nat) := by omega
              have hkT : k = T.size := by have := HJ.out.le; omega
              have HN := Lib.hid (show SkipI b T w R false k l c wr.drew from ⟨HJ.out.lies, HJ.out.keep, by rw [← HJ.out.rest, List.drop_eq_nil_of_le (by simp; omega), skipR, skipR], HJ.out.le, HJ.out.l0, HJ.out.l1, HJ.out.c0, HJ.out.c1⟩)
              have HK := Lib.hid hkT
              clear hkT
              go_wp2_with fail
              go_region
              go_wp2_with fail
              go_roundg (T.size - k)
              case measure => have := HLT.out; have := HK.out; omega
              case rel => exact ⟨k, _, _, rfl, HN⟩
        · have b59 : ((x.toNat : Int) == 59) = false := beq_eq_false_iff_ne.2 (fun e => h59 ((byte_int x 59 (by omega)).1 e))
          have HE := Lib.hid (show (j, l, c) = R by rw [← HJ.out.rest, drop_cons HLT.out, HX.out, skipR_end hbl h59])
          clear hbl h59
          go_wp2_with fail
          go_end0
          exact ⟨rfl, by rw [← HE.out]; exact HD.out.lies, HD.out.keep⟩
    · have hlt' : ¬ (j : Int) < (T.size : Nat) := by omega
      have hjT : j = T.size := by have := HJ.out.le; omega
      have HE := Lib.hid (show (j, l, c) = R by rw [← HJ.out.rest, List.drop_eq_nil_of_le (by simp; omega), skipR])
      clear hjT
      go_wp2_with fail
      go_region
      go_wp2_with fail
      go_end0
      exact ⟨rfl, by rw [← HE.out]; exact HJ.out.lies, HJ.out.keep⟩
end Go.Proofs.YthighbbikpnpgaaDoor

/-! LeD -/
namespace Go.Proofs.YthighbbikpnpgaaDoor
open Go.RowKit Go.Proofs.YthighbbikpnpgaaDoorW.PrintWords

def oneP (x two : UInt8) : Int × Int :=
  if x = 40 then (1, 1) else if x = 41 then (2, 1) else if x = 39 then (4, 1) else if x = 96 then (5, 1)
  else if x = 44 then (if two = 64 then (7, 2) else (6, 1)) else if x = 35 then (if two = 40 then (3, 2) else (0, 0)) else (0, 0)

theorem u8ne {x : UInt8} {n : Nat} (hn : n < 256) (h : x ≠ n.toUInt8) : ((x.toNat : Int) == (n : Nat)) = false := beq_eq_false_iff_ne.2 (fun e => h ((byte_int x n hn).1 e))

def TwoAt (T : ByteArray) (k : Nat) (two : UInt8) : Prop := (k < T.size ∧ ∀ h, T[k]'h = two) ∨ (¬ k < T.size ∧ two = 0)
theorem two_at (T : ByteArray) (k : Nat) : ∃ two, TwoAt T k two := by
  by_cases h : k < T.size
  · exact ⟨T[k]'h, .inl ⟨h, fun _ => rfl⟩⟩
  · exact ⟨0, .inr ⟨h, rfl⟩⟩


set_option maxRecDepth 100000 in
set_option maxHeartbeats 4000000 in
theorem one_any (b : Nat) (T : ByteArray) (i : Nat) (x two : UInt8) (ln cl : Int) (w : World) (h : LexAt b T i ln cl w) (hi : i < T.size) (hx : ∀ h, T[i]'h = x) (ht : TwoAt T (i + 1) two) (hT : T.size ≤ 1000000000) :
    Calls Tryd.prog 85 #[.pointer (some ⟨b, 0, none⟩)] w fun e w' => e = .returned (.tuple #[.int .i64 (oneP x two).1, .int .i64 (oneP x two).2]) ∧ w'.heap = w.heap := by
  have hi' : (i : Int) < (T.size : Nat) := by omega
  have c0 : w.cell? ⟨b, 0, none⟩ = some (.string T) := blk_cell h 0
  have c1 : w.cell? ⟨b, 1, none⟩ = some (.int .i64 (i : Nat)) := blk_cell h 1
  have x256 : x.toNat < 256 := x.toNat_lt
  have t256 : two.toNat < 256 := two.toNat_lt
  clear h
  have hx' : x = 40 ∨ x = 41 ∨ x = 39 ∨ x = 96 ∨ x = 44 ∨ x = 35 ∨ (((x.toNat : Int) == 40) = false ∧ ((x.toNat : Int) == 41) = false ∧ ((x.toNat : Int) == 39) = false ∧ ((x.toNat : Int) == 96) = false ∧ ((x.toNat : Int) == 44) = false ∧ ((x.toNat : Int) == 35) = false ∧ ∀ t, oneP x t = (0, 0)) := by
    by_cases h1 : x = 40; · exact .inl h1
    by_cases h2 : x = 41; · exact .inr (.inl h2)
    by_cases h3 : x = 39; · exact .inr (.inr (.inl h3))
    by_cases h4 : x = 96; · exact .inr (.inr (.inr (.inl h4)))
    by_cases h5 : x = 44; · exact .inr (.inr (.inr (.inr (.inl h5))))
    by_cases h6 : x = 35; · exact .inr (.inr (.inr (.inr (.inr (.inl h6)))))
    refine .inr (.inr (.inr (.inr (.inr (.inr ⟨u8ne (n := 40) (by omega) h1, u8ne (n := 41) (by omega) h2, u8ne (n := 39) (by omega) h3, u8ne (n := 96) (by omega) h4, u8ne (n := 44) (by omega) h5, u8ne (n := 35) (by omega) h6, fun t => ?_⟩)))))
    rw [oneP, if_neg h1, if_neg h2, if_neg h3, if_neg h4, if_neg h5, if_neg h6]
  rcases ht with ⟨hk, ht⟩ | ⟨hk, rfl⟩
  · have hk' : (i : Int) + 1 < (T.size : Nat) := by omega
    have ht' : ∀ h, T[((i : Int) + 1).toNat]'h = two := fun h => ht (by omega)
    rcases hx' with rfl | rfl | rfl | rfl | rfl | rfl | ⟨e1, e2, e3, e4, e5, e6, e⟩
    · go_enter Tryd.func85, Tryd.ntmps85
      (go_wp2_with fail; repeat (go_region; go_wp2_with fail))
      go_ret2
      exact ⟨rfl, rfl⟩
    · go_enter Tryd.func85, Tryd.ntmps85
      (go_wp2_with fail; repeat (go_region; go_wp2_with fail))
      go_ret2
      exact ⟨rfl, rfl⟩
    · go_enter Tryd.func85, Tryd.ntmps85
      (go_wp2_with fail; repeat (go_region; go_wp2_with fail))
      go_ret2
      exact ⟨rfl, rfl⟩
    · go_enter Tryd.func85, Tryd.ntmps85
      (go_wp2_with fail; repeat (go_region; go_wp2_with fail))
      go_ret2
      exact ⟨rfl, rfl⟩
    · by_cases h2 : two = 64
      · subst h2
        go_enter Tryd.func85, Tryd.ntmps85
        (go_wp2_with fail; repeat (go_region; go_wp2_with fail))
        go_ret2
        exact ⟨rfl, rfl⟩
      · have b2 := u8ne (n := 64) (by omega) h2
        rw [show oneP 44 two = (6, 1) by simp [oneP, h2]]
        clear h2
        go_enter Tryd.func85, Tryd.ntmps85
        (go_wp2_with fail; repeat (go_region; go_wp2_with fail))
        go_ret2
        exact ⟨rfl, rfl⟩
    · by_cases h2 : two = 40
      · subst h2
        go_enter Tryd.func85, Tryd.ntmps85
        (go_wp2_with fail; repeat (go_region; go_wp2_with fail))
        go_ret2
        exact ⟨rfl, rfl⟩
      · have b2 := u8ne (n := 40) (by omega) h2
        rw [show oneP 35 two = (0, 0) by simp [oneP, h2]]
        clear h2
        go_enter Tryd.func85, Tryd.ntmps85
        (go_wp2_with fail; repeat (go_region; go_wp2_with fail))
        go_ret2
        exact ⟨rfl, rfl⟩
    · rw [e]
      clear e
      go_enter Tryd.func85, Tryd.ntmps85
      (go_wp2_with fail; repeat (go_region; go_wp2_with fail))
      go_ret2
      exact ⟨rfl, rfl⟩
  · have hk' : ¬ (i : Int) + 1 < (T.size : Nat) := by omega
    rcases hx' with rfl | rfl | rfl | rfl | rfl | rfl | ⟨e1, e2, e3, e4, e5, e6, e⟩
    · go_enter Tryd.func85, Tryd.ntmps85
      (go_wp2_with fail; repeat (go_region; go_wp2_with fail))
      go_ret2
      exact ⟨rfl, rfl⟩
    · go_enter Tryd.func85, Tryd.ntmps85
      (go_wp2_with fail; repeat (go_region; go_wp2_with fail))
      go_ret2
      exact ⟨rfl, rfl⟩
    · go_enter Tryd.func85, Tryd.ntmps85
      (go_wp2_with fail; repeat (go_region; go_wp2_with fail))
      go_ret2
      exact ⟨rfl, rfl⟩
    · go_enter Tryd.func85, Tryd.ntmps85
      (go_wp2_with fail; repeat (go_region; go_wp2_with fail))
      go_ret2
      exact ⟨rfl, rfl⟩
    · go_enter Tryd.func85, Tryd.ntmps85
      (go_wp2_with fail; repeat (go_region; go_wp2_with fail))
      go_ret2
      exact ⟨rfl, rfl⟩
    · go_enter Tryd.func85, Tryd.ntmps85
      (go_wp2_with fail; repeat (go_region; go_wp2_with fail))
      go_ret2
      exact ⟨rfl, rfl⟩
    · rw [e]
      clear e
      go_enter Tryd.func85, Tryd.ntmps85
      (go_wp2_with fail; repeat (go_region; go_wp2_with fail))
      go_ret2
      exact ⟨rfl, rfl⟩
end Go.Proofs.YthighbbikpnpgaaDoor

/-! LeE -/
namespace Go.Proofs.YthighbbikpnpgaaDoor
open Go.RowKit Go.Proofs.YthighbbikpnpgaaDoorW.PrintWords

def TokAt (tb : Nat) (k n : Int) (x : ByteArray) (ln cl nx : Int) (w : World) : Prop := w.heap[tb]? = some (.cells #[.int .i64 k, .int .i64 n, .string x, .int .i64 ln, .int .i64 cl, .int .i64 nx] 60 (0, 0))

structure WordI (b tb : Nat) (T : ByteArray) (i : Nat) (lc : Int × Int) (kl : Int × Int × Int) (w : World) (p : Nat) (w' : World) : Prop where
  lex : LexAt b T i lc.1 lc.2 w'
  tok : TokAt tb kl.1 0 ⟨#[]⟩ kl.2.1 kl.2.2 (p : Nat) w'
  keep : KeepB w w' tb none
  ge : i ≤ p
  le : p ≤ T.size
  all : ((T.data.toList.drop i).take (p - i)).all (fun c => !endB c) = true

/-- The word that begins at a place. -/
def wordAt (T : ByteArray) (i : Nat) : List UInt8 := (T.data.toList.drop i).takeWhile (fun c => !endB c)

theorem takeWhile_stop {p : UInt8 → Bool} : ∀ (l : List UInt8) (m : Nat), (l.take m).all p = true → (∀ h : m < l.length, p (l[m]'h) = false) → l.takeWhile p = l.take m := by
  intro l
  induction l with
  | nil => intro m _ _; simp
  | cons x r ih =>
    intro m ha he
    match m with
    | 0 =>
      have := he (by simp)
      rw [List.take_zero, List.takeWhile_cons]
      simp at this
      simp [this]
    | m + 1 =>
      rw [List.take_succ_cons, List.all_cons, Bool.and_eq_true] at ha
      rw [List.take_succ_cons, List.takeWhile_cons, if_pos ha.1, ih m ha.2 (fun h => he (by simpa using h))]

theorem WordI.word {b tb : Nat} {T : ByteArray} {i : Nat} {lc : Int × Int} {kl : Int × Int × Int} {w : World} {p : Nat} {w' : World} (h : WordI b tb T i lc kl w p w') (he : endAt T p = true) : (T.data.toList.drop i).take (p - i) = wordAt T i := by
  refine (takeWhile_stop _ _ h.all fun hh => ?_).symm
  have h0 := h.ge
  rw [List.length_drop] at hh
  have hp : p < T.size := by
    have : T.data.toList.length = T.size := by simp
    omega
  rw [endAt, dif_pos hp] at he
  rw [List.getElem_drop]
  have e : T.data.toList[i + (p - i)]'(by omega) = T[p]'hp := by
    have e1 : i + (p - i) = p := by omega
    simp only [e1]
    rfl
  rw [e, he]
  rfl

theorem WordI.next {b tb : Nat} {T : ByteArray} {i : Nat} {lc : Int × Int} {kl : Int × Int × Int} {w : World} {p : Nat} {w1 w' : World} (h : WordI b tb T i lc kl w p w1) (he : endAt T p = false) (hl : LexAt b T i lc.1 lc.2 w') (ht : TokAt tb kl.1 0 ⟨#[]⟩ kl.2.1 kl.2.2 (p + 1 : Nat) w') (hk : KeepB w1 w' tb none) : WordI b tb T i lc kl w (p + 1) w' := by
  have hp : p < T.size := by
    by_cases hh : p < T.size
    · exact hh
    · rw [endAt, dif_neg hh] at he; cases he
  rw [endAt, dif_pos hp] at he
  have h0 := h.ge
  refine ⟨hl, ht, h.keep.trans hk (.inl rfl), by omega, hp, ?_⟩
  have hlen : p - i < (T.data.toList.drop i).length := by
    have : T.data.toList.length = T.size := by simp
    rw [List.length_drop]; omega
  have e1 : p + 1 - i = (p - i) + 1 := by omega
  rw [e1, List.take_succ_eq_append_getElem hlen, List.all_append, h.all, List.getElem_drop]
  have e : T.data.toList[i + (p - i)]'(by have : T.data.toList.length = T.size := by simp
                                          omega) = T[p]'hp := by
    have e1 : i + (p - i) = p := by omega
    simp only [e1]
    rfl
  simp only [List.all_cons, List.all_nil, e, he]
  rfl

theorem extract_list (T : ByteArray) (i p : Nat) : (T.extract i p).data.toList = (T.data.toList.drop i).take (p - i) := by
  rw [ByteArray.data_extract, Array.toList_extract, List.extract_eq_take_drop]
theorem below_drewL {w w1 : World} (h : Below w.drew.heap.size w.drew w1) : Below w.heap.size w w1 := (below_drew (Below.refl _ _)).trans h

def wordE (l : List UInt8) : Int := if l = [46] then 0 else if (parseL l).2 = 6 then (if symL l = true then 0 else 6) else (parseL l).2
def wordK (l : List UInt8) : Int × Int × List UInt8 := if l = [46] then (8, 0, []) else if (parseL l).2 = 0 then (9, (parseL l).1, []) else (13, 0, l)

structure WordTo (b tb : Nat) (T : ByteArray) (i : Nat) (ln cl tl tc : Int) (w : World) (e : Ending) (w' : World) : Prop where
  ret : e = .returned (errV (wordE (wordAt T i)))
  lex : LexAt b T i ln cl w'
  keep : KeepB w w' tb none
  pos : wordE (wordAt T i) ≠ 0 → ∃ k n x nx, TokAt tb k n x tl tc nx w'
  tok : wordE (wordAt T i) = 0 → TokAt tb (wordK (wordAt T i)).1 (wordK (wordAt T i)).2.1 ⟨(wordK (wordAt T i)).2.2.toArray⟩ tl tc ((i + (wordAt T i).length : Nat) : Int) w'

theorem parse_code (l : List UInt8) : (parseL l).2 = 0 ∨ (parseL l).2 = 11 ∨ ((parseL l).2 = 6 ∧ (parseL l).1 = 0) := by
  rw [parseL]
  split
  · rcases fitL_code (if negL l = true then -valL (bodyL l) else valL (bodyL l)) with h | h
    · exact .inl h
    · exact .inr (.inl h)
  · exact .inr (.inr ⟨rfl, rfl⟩)

set_option maxRecDepth 400000 in
set_option maxHeartbeats 4000000 in
theorem word_any (b tb : Nat) (T : ByteArray) (i : Nat) (ln cl k tl tc nx : Int) (w : World) (h : LexAt b T i ln cl w) (ht : TokAt tb k 0 ⟨#[]⟩ tl tc nx w) (hi : i ≤ T.size) (hT : T.size ≤ 1000000000) :
    Calls Tryd.prog 88 #[.pointer (some ⟨b, 0, none⟩), .pointer (some ⟨tb, 0, none⟩)] w (WordTo b tb T i ln cl tl tc w) := by
  have hne : b ≠ tb := by
    intro e
    subst e
    unfold LexAt at h; unfold TokAt at ht
    rw [h] at ht
    simp at ht
  have c0 : w.cell? ⟨b, 0, none⟩ = some (.string T) := blk_cell h 0
  have c1 : w.cell? ⟨b, 1, none⟩ = some (.int .i64 (i : Nat)) := blk_cell h 1
  have t5 : w.cell? ⟨tb, 5, none⟩ = some (.int .i64 nx) := blk_cell ht 5
  have f5 := blk_frozen ht 5
  have HL := Lib.hid h
  have HTk := Lib.hid ht
  have HT := Lib.hid hT
  have HNE := Lib.hid hne
  clear h ht hT
  go_enter Tryd.func88, Tryd.ntmps88
  (go_wp2_with fail; repeat (go_region; go_wp2_with fail))
  go_loopg [] (T.size - i) (fun gk w' => ∃ (p : Nat), gk = T.size - p ∧ Hid (WordI b tb T i (ln, cl) (k, tl, tc) w p w'))
  case atStart =>
    refine ⟨i, rfl, Lib.hid ⟨?_, ?_, ?_, Nat.le_refl _, hi, by simp⟩⟩
    · exact blk_drew (blk_far HL.out HNE.out _)
    · exact blk_drew (blk_set HTk.out 5 _)
    · exact (KeepB.refl w tb none).set_ 5 _
  case round =>
    clear HL HTk c0 c1 t5 f5
    obtain ⟨p, rfl, HJ⟩ := hrel
    have hp := HJ.out.le
    have d5 : wr.cell? ⟨tb, 5, none⟩ = some (.int .i64 (p : Nat)) := blk_cell HJ.out.tok 5
    have g5 := blk_frozen HJ.out.tok 5
    have HTT := HT.out
    have hE : endAt T p = true ∨ endAt T p = false := by cases endAt T p <;> simp
    go_wp2_with fail
    refine (ends_any b T i p ln cl _ HJ.out.lex).mono ?_
    rintro e w1 ⟨rfl, hb1⟩
    have HB1 := Lib.hid hb1
    clear hb1
    rcases hE with hE | hE
    · rw [hE]
      have HW := Lib.hid (HJ.out.word hE)
      have hip := HJ.out.ge
      clear hE
      have HL1 := Lib.hid (show LexAt b T i ln cl w1 from blk_below HJ.out.lex HB1.out)
      have HT1 := Lib.hid (show TokAt tb k 0 ⟨#[]⟩ tl tc (p : Nat) w1 from blk_below HJ.out.tok HB1.out)
      have HK1 := Lib.hid (show KeepB w w1 tb none from HJ.out.keep.trans (KeepB.of_below HB1.out tb none) (.inl rfl))
      clear d5 g5 HJ HB1
      have d0 : w1.cell? ⟨b, 0, none⟩ = some (.string T) := blk_cell HL1.out 0
      have d1 : w1.cell? ⟨b, 1, none⟩ = some (.int .i64 (i : Nat)) := blk_cell HL1.out 1
      have d5 : w1.cell? ⟨tb, 5, none⟩ = some (.int .i64 (p : Nat)) := blk_cell HT1.out 5
      have j1 : (i : Int) ≤ (p : Nat) := by omega
      have j2 : (p : Int) ≤ (T.size : Nat) := by omega
      (go_wp2_with fail; repeat (go_region; go_wp2_with fail))
      obtain ⟨S, hS⟩ : ∃ S, T.extract i p = S := ⟨_, rfl⟩
      have HSL := Lib.hid (show S.data.toList = wordAt T i by rw [← hS, ← HW.out, extract_list])
      have HPL := Lib.hid (show p = i + (wordAt T i).length by
        rw [← HW.out, List.length_take, List.length_drop]
        have : T.data.toList.length = T.size := by simp
        omega)
      rw [hS]
      clear hS
      refine (parse_any S _).mono ?_
      rintro e w2 ⟨rfl, hb2⟩
      have hb12 := below_drewL hb2
      clear hb2
      rw [HSL.out]
      have HL2 := Lib.hid (show LexAt b T i ln cl w2 from blk_below HL1.out hb12)
      have HT2 := Lib.hid (show TokAt tb k 0 ⟨#[]⟩ tl tc (p : Nat) w2 from blk_below HT1.out hb12)
      have HK2 := Lib.hid (show KeepB w w2 tb none from HK1.out.trans (KeepB.of_below hb12 tb none) (.inl rfl))
      clear d0 d1 d5 hb12 HL1 HT1 HK1
      have e0 : w2.cell? ⟨tb, 0, none⟩ = some (.int .i64 k) := blk_cell HT2.out 0
      have e1 : w2.cell? ⟨tb, 1, none⟩ = some (.int .i64 0) := blk_cell HT2.out 1
      have e2 : w2.cell? ⟨tb, 2, none⟩ = some (.string ⟨#[]⟩) := blk_cell HT2.out 2
      have k0 := blk_frozen HT2.out 0
      have k1 := blk_frozen HT2.out 1
      have k2 := blk_frozen HT2.out 2
      by_cases hdot : wordAt T i = [46]
      · rw [hdot]
        have hr : resV (parseL [46]) = .tuple #[.int .i64 0, kindV 6] := by rw [resV]; rfl
        rw [hr]
        have HD := Lib.hid hdot
        obtain rfl : S = ⟨#[46]⟩ := by apply ByteArray.ext; apply Array.ext'; rw [HSL.out, hdot]
        clear hr hdot
        (go_wp2_with fail; repeat (go_region; go_wp2_with fail))
        go_ret
        refine ⟨by rw [HD.out]; rfl, blk_far HL2.out HNE.out _, HK2.out.set_ 0 _, fun h => absurd (by rw [HD.out]; rfl) h, fun _ => ?_⟩
        rw [← HPL.out, HD.out]
        exact blk_set HT2.out 0 _
      · have hSne : ¬ S.toList = [46] := by rw [ByteArray.toList_eq, HSL.out]; exact hdot
        have hSnb : (S.toList == [46]) = false := by simpa using hSne
        have hc := parse_code (wordAt T i)
        have HD := Lib.hid hdot
        obtain ⟨⟨n, cd⟩, hn⟩ : ∃ x, parseL (wordAt T i) = x := ⟨_, rfl⟩
        have HN := Lib.hid hn
        rw [hn] at hc ⊢
        simp only at hc
        clear hdot hn
        rcases hc with rfl | rfl | ⟨rfl, rfl⟩
        · rw [show resV (n, 0) = .tuple #[.int .i64 n, .nilIface] from rfl]
          (go_wp2_with fail; repeat (go_region; go_wp2_with fail))
          go_ret
          refine ⟨?_, blk_far (blk_far HL2.out HNE.out _) HNE.out _, (HK2.out.set_ 0 _).set_ 1 _, fun h => absurd (by rw [wordE, if_neg HD.out, HN.out]; rfl) h, fun _ => ?_⟩
          · rw [wordE, if_neg HD.out, HN.out]; rfl
          · rw [← HPL.out, wordK, if_neg HD.out, HN.out]
            exact blk_set (blk_set HT2.out 0 _) 1 _
        · rw [show resV (n, 11) = .tuple #[.int .i64 n, kindV 11] from rfl]
          (go_wp2_with fail; repeat (go_region; go_wp2_with fail))
          refine (is_kind _ _ _).mono ?_
          rintro e w3 ⟨rfl, rfl⟩
          (go_wp2_with fail; repeat (go_region; go_wp2_with fail))
          go_ret
          refine ⟨?_, HL2.out, HK2.out, fun _ => ⟨k, 0, ⟨#[]⟩, (p : Nat), HT2.out⟩, fun h => ?_⟩
          · rw [wordE, if_neg HD.out, HN.out]; rfl
          · rw [wordE, if_neg HD.out, HN.out] at h; cases h
        · rw [show resV (0, 6) = .tuple #[.int .i64 0, kindV 6] from rfl]
          (go_wp2_with fail; repeat (go_region; go_wp2_with fail))
          refine (is_kind _ _ _).mono ?_
          rintro e w3 ⟨rfl, rfl⟩
          (go_wp2_with fail; repeat (go_region; go_wp2_with fail))
          refine (symbol_any S _).mono ?_
          rintro e w4 ⟨rfl, hb4⟩
          rw [HSL.out]
          have HL3 := Lib.hid (show LexAt b T i ln cl w4 from blk_below HL2.out hb4)
          have HT3 := Lib.hid (show TokAt tb k 0 ⟨#[]⟩ tl tc (p : Nat) w4 from blk_below HT2.out hb4)
          have HK3 := Lib.hid (show KeepB w w4 tb none from HK2.out.trans (KeepB.of_below hb4 tb none) (.inl rfl))
          clear hb4 e0 e1 e2 k0 k1 k2
          have e0 : w4.cell? ⟨tb, 0, none⟩ = some (.int .i64 k) := blk_cell HT3.out 0
          have e2 : w4.cell? ⟨tb, 2, none⟩ = some (.string ⟨#[]⟩) := blk_cell HT3.out 2
          have k0 := blk_frozen HT3.out 0
          have k2 := blk_frozen HT3.out 2
          have hs : symL (wordAt T i) = true ∨ symL (wordAt T i) = false := by cases symL (wordAt T i) <;> simp
          rcases hs with hs | hs
          · have HS := Lib.hid hs
            rw [hs]
            clear hs
            (go_wp2_with fail; repeat (go_region; go_wp2_with fail))
            go_ret
            refine ⟨?_, blk_far (blk_far HL3.out HNE.out _) HNE.out _, (HK3.out.set_ 0 _).set_ 2 _, fun h => absurd (by rw [wordE, if_neg HD.out, HN.out, if_pos rfl, if_pos HS.out]) h, fun _ => ?_⟩
            · rw [wordE, if_neg HD.out, HN.out, if_pos rfl, if_pos HS.out]; rfl
            · rw [← HPL.out, wordK, if_neg HD.out, HN.out, if_neg (by decide)]
              have hSS : S = ⟨(wordAt T i).toArray⟩ := by apply ByteArray.ext; apply Array.ext'; rw [HSL.out]
              rw [← hSS]
              exact blk_set (blk_set HT3.out 0 _) 2 _
          · have HS := Lib.hid hs
            rw [hs]
            clear hs
            (go_wp2_with fail; repeat (go_region; go_wp2_with fail))
            go_ret
            refine ⟨?_, HL3.out, HK3.out, fun _ => ⟨k, 0, ⟨#[]⟩, (p : Nat), HT3.out⟩, fun h => ?_⟩
            · rw [wordE, if_neg HD.out, HN.out, if_pos rfl, if_neg (by rw [HS.out]; decide)]; rfl
            · rw [wordE, if_neg HD.out, HN.out, if_pos rfl, if_neg (by rw [HS.out]; decide)] at h; cases h
    · rw [hE]
      have HN := Lib.hid (fun w' => HJ.out.next (w' := w') hE)
      have HP := Lib.hid (show p < T.size by
        by_cases hh : p < T.size
        · exact hh
        · rw [endAt, dif_neg hh] at hE; cases hE)
      clear hE
      have HL1 := Lib.hid (show LexAt b T i ln cl w1 from blk_below HJ.out.lex HB1.out)
      have HT1 := Lib.hid (show TokAt tb k 0 ⟨#[]⟩ tl tc (p : Nat) w1 from blk_below HJ.out.tok HB1.out)
      clear d5 g5
      have d5 : w1.cell? ⟨tb, 5, none⟩ = some (.int .i64 (p : Nat)) := blk_cell HT1.out 5
      have g5 := blk_frozen HT1.out 5
      (go_wp2_with fail; repeat (go_region; go_wp2_with fail))
      go_roundg (T.size - (p + 1))
      case measure => have := HP.out; omega
      case rel => exact ⟨p + 1, rfl, Lib.hid (HN.out _ (blk_far HL1.out HNE.out _) (blk_set HT1.out 5 _) ((KeepB.of_below HB1.out tb none).set_ 5 _))⟩
end Go.Proofs.YthighbbikpnpgaaDoor

/-! Bz -/
namespace Go.Proofs.YthighbbikpnpgaaDoor
open Go.RowKit

/-- The builder lies at the head of block b (one of the call's own, from B on) of type T, behind it the cells 'tail'; it holds the bytes l. -/
def Bld (T : TypeId) (tail : List Value) (B b : Nat) (l : List UInt8) (w : World) : Prop :=
  B ≤ b ∧ ∃ p v, (p = .pointer none ∨ p = .pointer (some ⟨b, 0, none⟩)) ∧ w.heap[b]? = some (.cells (p :: v :: tail).toArray T (0, 0)) ∧ w.ownsRow B 5 1 v l.length (Lib.byteCells l) ∧ v.ownBlock ≠ some b ∧ (l = [] → v = .slice none 0 0)

/-- Is a builder found at the head of a block of type T with n cells behind it? -/
def Lies (T : TypeId) (n : Nat) : Prop := liesAt Tryd.prog Tryd.prog.depth T ((2 + n) / Tryd.prog.cellsOf T) 0 176 1 = true ∧ T ≠ 5

theorem Bld.lt {T : TypeId} {tail : List Value} {B b : Nat} {l : List UInt8} {w : World} (h : Bld T tail B b l w) : b < w.heap.size := by
  obtain ⟨_, p, v, _, hb, _⟩ := h
  exact heap_lt hb

theorem bld_fresh (T : TypeId) (tail : List Value) (w : World) (B : Nat) (hB : B ≤ w.heap.size) : Bld T tail B w.heap.size [] (w.alloc (.cells (.pointer none :: .slice none 0 0 :: tail).toArray T)) :=
  ⟨hB, _, _, .inl rfl, heap_alloc_new w _, World.ownsRow_nil _ _ _ _, by simp [Value.ownBlock], fun _ => rfl⟩

theorem Bld.below {T : TypeId} {tail : List Value} {B b : Nat} {l : List UInt8} {w w' : World} (h : Bld T tail B b l w) (hb : Below w.heap.size w w') : Bld T tail B b l w' := by
  obtain ⟨hB, p, v, hp, hk, hown, hne, h0⟩ := h
  exact ⟨hB, p, v, hp, heap_below hk hb (heap_lt hk), own_below hown hb, hne, h0⟩

/-- What the builder's methods leave as it was: all but its block and rows of bytes that nobody has marked. -/
def Oth (b : Nat) (w w' : World) : Prop := ∀ k o, w.heap[k]? = some o → k ≠ b → (∀ c, o ≠ .cells c 5 (0, 0)) → w'.heap[k]? = some o
theorem Oth.refl (b : Nat) (w : World) : Oth b w w := fun _ _ h _ _ => h
theorem Oth.trans {b : Nat} {a c d : World} (h : Oth b a c) (k : Oth b c d) : Oth b a d := fun i o hi hb ho => k i o (h i o hi hb ho) hb ho
theorem Oth.alloc {b : Nat} {a w : World} (h : Oth b a w) (o : Obj) : Oth b a (w.alloc o) := by
  intro k x hk hb hx
  have h1 := h k x hk hb hx
  have hlt : k < w.heap.size := (Array.getElem?_eq_some_iff.1 h1).1
  exact (RowKit.Below.heap_alloc w o k hlt).trans h1
theorem Oth.setCell {b : Nat} {a w : World} (h : Oth b a w) (p : Addr) (hp : p.block = b) (v : Value) : Oth b a (w.setCell p v) := by
  intro k x hk hb hx
  have h1 := h k x hk hb hx
  rw [RowKit.Below.heap_setCell _ _ _ _ (fun e => hb (by rw [← hp, e]))]
  exact h1
theorem Oth.grown {b : Nat} {a w w' : World} {row : Option Nat} (h : Oth b a w) (hg : w.grownBy w' row) (hrow : ∀ g, row = some g → ∃ c, w.heap[g]? = some (.cells c 5 (0, 0))) : Oth b a w' := by
  intro k x hk hb hx
  have h1 := h k x hk hb hx
  have hlt : k < w.heap.size := (Array.getElem?_eq_some_iff.1 h1).1
  rw [hg.block k hlt ?_]
  · exact h1
  · intro hk2
    obtain ⟨c, hc⟩ := hrow k hk2.symm
    rw [h1] at hc
    exact hx c (Option.some.inj hc)
theorem own_kind {w : World} {B : Nat} {e : TypeId} {v : Value} {n : Nat} {xs : List Value} (h : w.ownsRow B e 1 v n xs) : ∀ g, v.ownBlock = some g → ∃ c, w.heap[g]? = some (.cells c e (0, 0)) := by
  intro g hg
  rcases h.2 with ⟨rfl, _⟩ | ⟨g', cap, cur, rfl, _, hgg, _⟩
  · simp [Value.ownBlock] at hg
  · simp [Value.ownBlock] at hg
    subst hg
    exact ⟨cur, hgg⟩

theorem size_builder : (Tryd.prog.info? 176).map (·.size) = some 2 := by kernel_rfl
theorem info_byte : (Tryd.prog.info? 5).map (fun i => (i.zero, i.size, i.bytes)) = some (some (.int .u8 0), 1, 1) := by kernel_rfl

set_option maxRecDepth 100000 in
theorem copyCheck_used (b : Nat) (w : World) (h0 : w.cell? ⟨b, 0, none⟩ = some (.pointer (some ⟨b, 0, none⟩))) :
    Calls Tryd.prog 123 #[.pointer (some ⟨b, 0, none⟩)] w fun e w' => e = .returned (.tuple #[]) ∧ w' = w := by
  obtain ⟨j, hj, _⟩ := Option.map_eq_some_iff.1 size_builder
  go_enter Tryd.func123, Tryd.ntmps123
  go_wp2
  rw [Lib.run_neq_ptr_same w _ Tryd.underlying174 hj]
  go_wp2
  go_end0
  exact ⟨rfl, rfl⟩

set_option maxRecDepth 100000 in
theorem copyCheck_fresh (b n : Nat) (T : TypeId) (w : World) (h0 : w.cell? ⟨b, 0, none⟩ = some (.pointer none)) (hsh : w.shape? b = some (T, 2 + n)) (hlies : Lies T n) (hfz : w.frozen? ⟨b, 0, none⟩ = false) :
    Calls Tryd.prog 123 #[.pointer (some ⟨b, 0, none⟩)] w fun e w' => e = .returned (.tuple #[]) ∧ w' = w.setCell ⟨b, 0, none⟩ (.pointer (some ⟨b, 0, none⟩)) := by
  obtain ⟨j, hj, hjs⟩ := Option.map_eq_some_iff.1 size_builder
  go_enter Tryd.func123, Tryd.ntmps123
  go_wp2
  rw [Lib.run_to_unsafe w ⟨b, 0, none⟩ Tryd.underlying174 Tryd.underlying162 hj (by rw [hjs]; decide) hsh (by show 0 < 2 + n; omega)]
  simp only [Result.andThen]
  rw [Oper.upon_value]
  go_wp2
  rw [run_callFunc_extern Tryd.func130 (by kernel_rfl) (by kernel_rfl) (by kernel_rfl) (e := Extern.AbiNoEscape.same) (by kernel_rfl)]
  rw [Lib.run_noEscape]
  simp only [Result.andThen]
  rw [Oper.upon_value]
  go_wp2
  rw [Lib.run_from_unsafe w ⟨b, 0, none⟩ Tryd.underlying162 Tryd.underlying174 hj hsh hlies.1]
  simp only [Result.andThen]
  rw [Oper.upon_value]
  go_wp2
  go_end0
  exact ⟨rfl, rfl⟩

/-- A builder that has been written, its first cell told. -/
def BldU (T : TypeId) (tail : List Value) (B b : Nat) (l : List UInt8) (w : World) : Prop :=
  B ≤ b ∧ ∃ v, w.heap[b]? = some (.cells (.pointer (some ⟨b, 0, none⟩) :: v :: tail).toArray T (0, 0)) ∧ w.ownsRow B 5 1 v l.length (Lib.byteCells l) ∧ v.ownBlock ≠ some b ∧ (l = [] → v = .slice none 0 0)

theorem BldU.bld {T : TypeId} {tail : List Value} {B b : Nat} {l : List UInt8} {w : World} (h : BldU T tail B b l w) : Bld T tail B b l w := by
  obtain ⟨hB, v, hb, hown, hne, h0⟩ := h
  exact ⟨hB, _, v, .inr rfl, hb, hown, hne, h0⟩

theorem set_heap {w : World} {b : Nat} {cs : Array Value} {T : TypeId} (h : w.heap[b]? = some (.cells cs T (0, 0))) (i : Nat) (u : Value) :
    (w.setCell ⟨b, i, none⟩ u).heap[b]? = some (.cells (cs.setIfInBounds i u) T (0, 0)) := by
  simp [World.setCell, Array.getElem?_modify, h]

theorem own_ne_block {w : World} {B : Nat} {e T : TypeId} {v : Value} {n : Nat} {xs : List Value} {b : Nat} {cs : Array Value} {fr : Nat × Nat} (hown : w.ownsRow B e 1 v n xs) (hb : w.heap[b]? = some (.cells cs T fr)) (hTe : T ≠ e) : v.ownBlock ≠ some b :=
  Lib.ownBlock_ne hown hb hTe

theorem own_set {w : World} {B : Nat} {e : TypeId} {v : Value} {n : Nat} {xs : List Value} {b : Nat} (hown : w.ownsRow B e 1 v n xs) (hne : v.ownBlock ≠ some b) (i : Nat) (u : Value) : (w.setCell ⟨b, i, none⟩ u).ownsRow B e 1 v n xs :=
  hown.kept (row := some b) ⟨rfl, rfl, rfl, by simp [World.setCell], fun k _ hk => Below.heap_setCell _ _ _ _ (by intro e; exact hk (by rw [e]))⟩ (.inr hne)

theorem copyCheck_any (T : TypeId) (tail : List Value) (B b : Nat) (l : List UInt8) (w : World) (h : Bld T tail B b l w) (hlies : Lies T tail.length) :
    Calls Tryd.prog 123 #[.pointer (some ⟨b, 0, none⟩)] w fun e w' => e = .returned (.tuple #[]) ∧ BldU T tail B b l w' ∧ Below B w w' ∧ Oth b w w' := by
  obtain ⟨hB, p, v, hp, hb, hown, hne, hnil⟩ := h
  rcases hp with rfl | rfl
  · have h0 : w.cell? ⟨b, 0, none⟩ = some (.pointer none) := by rw [Lib.cell_of_heap hb]; rfl
    have hsh : w.shape? b = some (T, 2 + tail.length) := by
      simp [World.shape?, hb]; omega
    refine (copyCheck_fresh b tail.length T w h0 hsh hlies (Lib.frozen_of_heap hb 0)).mono ?_
    rintro e w' ⟨rfl, rfl⟩
    refine ⟨rfl, ⟨hB, v, ?_, own_set hown hne _ _, hne, hnil⟩, (Below.refl B w).setCell (p := ⟨b, 0, none⟩) hB _, (Oth.refl _ _).setCell ⟨b, 0, none⟩ rfl _⟩
    rw [set_heap hb]
    rfl
  · refine (copyCheck_used b w (by rw [Lib.cell_of_heap hb]; rfl)).mono ?_
    rintro e w' ⟨rfl, rfl⟩
    exact ⟨rfl, ⟨hB, v, hb, hown, hne, hnil⟩, Below.refl B _, Oth.refl _ _⟩

theorem BldU.put {T : TypeId} {tail : List Value} {B b : Nat} {l : List UInt8} {w : World} {p v v' : Value} (hB : B ≤ b) (hb : w.heap[b]? = some (.cells (p :: v :: tail).toArray T (0, 0))) (hp : p = .pointer (some ⟨b, 0, none⟩))
    (hown : w.ownsRow B 5 1 v' l.length (Lib.byteCells l)) (hT : T ≠ 5) (hnil : l = [] → v' = .slice none 0 0) : BldU T tail B b l (w.setCell ⟨b, 1, none⟩ v') := by
  subst hp
  have hne := own_ne_block hown hb hT
  refine ⟨hB, v', ?_, own_set hown hne _ _, hne, hnil⟩
  rw [set_heap hb]
  rfl

theorem ba_nil {s : ByteArray} (h : s.data.toList = []) : s = ByteArray.empty := by
  obtain ⟨⟨x⟩⟩ := s
  obtain rfl : x = [] := h
  rfl

set_option maxHeartbeats 1000000 in
theorem writeString_any (T : TypeId) (tail : List Value) (B b : Nat) (l : List UInt8) (s : ByteArray) (w : World) (h : Bld T tail B b l w) (hlies : Lies T tail.length) (hlen : l.length + s.size ≤ 140737488355328) (hBw : B ≤ w.heap.size) :
    Calls Tryd.prog 115 #[.pointer (some ⟨b, 0, none⟩), .string s] w fun e w' => e = .returned (.tuple #[.int .i64 s.size, .nilIface]) ∧ BldU T tail B b (l ++ s.data.toList) w' ∧ Below B w w' ∧ Oth b w w' := by
  obtain ⟨i0, hi, hz0, hz1, hz2⟩ := info_parts info_byte
  obtain ⟨W, rfl⟩ : ∃ W : World, W = w := ⟨w, rfl⟩
  go_enter Tryd.func115, Tryd.ntmps115
  go_wp2_with fail
  refine (copyCheck_any T tail B b l _ h hlies).mono ?_
  rintro e w1 ⟨rfl, h1, hb1, ho1⟩
  obtain ⟨hB, v, hbk, hown, hne, hnil⟩ := h1
  have hNil := Lib.hid hnil
  clear hnil
  have c0 : w1.cell? ⟨b, 0, none⟩ = some (.pointer (some ⟨b, 0, none⟩)) := by rw [Lib.cell_of_heap hbk]; rfl
  have c1 : w1.cell? ⟨b, 1, none⟩ = some v := by rw [Lib.cell_of_heap hbk]; rfl
  have hbs := hb1.size
  go_wp2_with (at_builtin; refine Lib.wpList_append_own_string _ rfl _ _ 76 9 rfl B 5 i0 Tryd.underlying76 Tryd.underlying9 hi hz0 hz1 hz2 _ _ _ rfl hown s rfl ?c3 ?c4 ?c5 ?_)
  case c3 => unfold maxLen; omega
  case c4 => omega
  case c5 => omega
  intro v' w2 hown' hgrow hn'
  have hN := Lib.hid hn'
  clear hn'
  have hlt : b < w1.heap.size := heap_lt hbk
  have hb2 : w2.heap[b]? = some (.cells (.pointer (some ⟨b, 0, none⟩) :: v :: tail).toArray T (0, 0)) := by
    rw [hgrow.block b hlt (fun e => hne e.symm)]
    exact hbk
  have d0 : w2.cell? ⟨b, 0, none⟩ = some (.pointer (some ⟨b, 0, none⟩)) := by rw [Lib.cell_of_heap hb2]; rfl
  have d1 : w2.cell? ⟨b, 1, none⟩ = some v := by rw [Lib.cell_of_heap hb2]; rfl
  have f1 : w2.frozen? ⟨b, 1, none⟩ = false := Lib.frozen_of_heap hb2 1
  obtain ⟨ao, n', cap, rfl⟩ : ∃ ao n' cap, v' = .slice ao n' cap := by
    rcases hown'.2 with ⟨hv, _⟩ | ⟨g, cap, cur, hv, _⟩
    · exact ⟨_, _, _, hv⟩
    · exact ⟨_, _, _, hv⟩
  go_wp2
  go_ret2
  refine ⟨rfl, ?_, ?_, ?_⟩
  · refine BldU.put hB hb2 rfl ?_ hlies.2 ?_
    · rw [Lib.byteCells_append, List.length_append, ← Lib.size_eq]
      exact hown'
    · intro e
      rw [List.append_eq_nil_iff] at e
      exact hN.out.2 ⟨hNil.out e.1, ba_nil e.2⟩
  · exact (hb1.grown hgrow (by omega) (fun k hk => (hown.lt k hk).1)).setCell (p := ⟨b, 1, none⟩) hB _
  · exact (ho1.grown hgrow (own_kind hown)).setCell ⟨b, 1, none⟩ rfl _

set_option maxHeartbeats 1000000 in
theorem writeByte_any (T : TypeId) (tail : List Value) (B b : Nat) (l : List UInt8) (c : Int) (w : World) (h : Bld T tail B b l w) (hlies : Lies T tail.length) (hlen : l.length + 1 ≤ 140737488355328) (hBw : B ≤ w.heap.size) (h0 : 0 ≤ c) (h255 : c < 256) :
    Calls Tryd.prog 109 #[.pointer (some ⟨b, 0, none⟩), .int .u8 c] w fun e w' => e = .returned .nilIface ∧ BldU T tail B b (l ++ [UInt8.ofNat c.toNat]) w' ∧ Below B w w' ∧ Oth b w w' := by
  obtain ⟨i0, hi, hz0, hz1, hz2⟩ := info_parts info_byte
  obtain ⟨W, rfl⟩ : ∃ W : World, W = w := ⟨w, rfl⟩
  go_enter Tryd.func109, Tryd.ntmps109
  go_wp2_with fail
  refine (copyCheck_any T tail B b l _ h hlies).mono ?_
  rintro e w1 ⟨rfl, h1, hb1, ho1⟩
  obtain ⟨hB, v, hbk, hown, hne, hnil⟩ := h1
  clear hnil
  have c0 : w1.cell? ⟨b, 0, none⟩ = some (.pointer (some ⟨b, 0, none⟩)) := by rw [Lib.cell_of_heap hbk]; rfl
  have c1 : w1.cell? ⟨b, 1, none⟩ = some v := by rw [Lib.cell_of_heap hbk]; rfl
  have hbs := hb1.size
  go_wp2_with (at_builtin; refine wpList_append_own _ rfl _ _ 76 rfl B 5 i0 (.int .u8 0) 1 1 Tryd.underlying76 hi hz0 hz1 hz2 rfl (by decide) _ _ _ rfl (hown.alloc _) ⟨w1.heap.size, 0, none⟩ 1 1 [.int .u8 c] rfl rfl ?c1 ?c2 ?c3 ?c4 ?c5 ?_)
  case c1 => exact news_new _ [_] _ _ rfl
  case c2 => first | rfl | (intro u hu; simp at hu; subst hu; rfl)
  case c3 => unfold maxLen; simp; omega
  case c4 => simp; omega
  case c5 => simp; omega
  intro v' w2 hown' hgrow _
  have hlt : b < w1.heap.size := heap_lt hbk
  have hb2 : w2.heap[b]? = some (.cells (.pointer (some ⟨b, 0, none⟩) :: v :: tail).toArray T (0, 0)) := by
    rw [hgrow.block b (by simp; omega) (fun e => hne e.symm), Lib.alloc_old w1 _ b hlt]
    exact hbk
  have d0 : w2.cell? ⟨b, 0, none⟩ = some (.pointer (some ⟨b, 0, none⟩)) := by rw [Lib.cell_of_heap hb2]; rfl
  have d1 : w2.cell? ⟨b, 1, none⟩ = some v := by rw [Lib.cell_of_heap hb2]; rfl
  have f1 : w2.frozen? ⟨b, 1, none⟩ = false := Lib.frozen_of_heap hb2 1
  obtain ⟨g, cap, rfl⟩ : ∃ g cap, v' = .slice (some ⟨g, 0, none⟩) (l.length + 1) cap := by
    rcases hown'.2 with ⟨_, h0⟩ | ⟨g, cap, cur, hv, _⟩
    · omega
    · exact ⟨g, cap, hv⟩
  go_wp2
  go_ret
  refine ⟨rfl, ?_, ?_, ?_⟩
  · refine BldU.put hB hb2 rfl ?_ hlies.2 (by simp)
    have hc : ((UInt8.ofNat c.toNat).toNat : Int) = c := by
      simp [UInt8.toNat_ofNat']
      omega
    have e : Lib.byteCells [UInt8.ofNat c.toNat] = [.int .u8 c] := by rw [Lib.byteCells, List.map_cons, hc]; rfl
    rw [Lib.byteCells_append, List.length_append, e]
    exact hown'
  · exact ((hb1.alloc (by omega) _).grown hgrow (by simp; omega) (fun k hk => (hown.lt k hk).1)).setCell (p := ⟨b, 1, none⟩) hB _
  · exact ((ho1.alloc _).grown hgrow (own_kind (hown.alloc _))).setCell ⟨b, 1, none⟩ rfl _

theorem cells_byte : Tryd.prog.cellsOf 5 = 1 := by kernel_rfl

set_option maxHeartbeats 2000000 in
set_option maxRecDepth 100000 in
theorem bstring_any (T : TypeId) (tail : List Value) (B b : Nat) (l : List UInt8) (w : World) (h : Bld T tail B b l w) :
    Calls Tryd.prog 99 #[.pointer (some ⟨b, 0, none⟩)] w fun e w' => e = .returned (.string ⟨l.toArray⟩) ∧ Below B w w' := by
  obtain ⟨hB, p, v, hp, hbk, hown, hne, hnil⟩ := h
  clear hp
  by_cases h0 : l = []
  · subst h0
    obtain rfl := hnil rfl
    have hUS : ∀ (W : World) (q : Option Addr), (Builtin.unsafeString_ #[197, 3] 9 #[.pointer q, .int .i64 0]).run Tryd.prog W = .ok (.string .empty) W := fun W q => Lib.run_unsafeString_none W _ _ _ q
    have c1 : w.drew.cell? ⟨b, 1, none⟩ = some (.slice none 0 0) := by
      have : w.drew.heap[b]? = some (.cells (p :: .slice none 0 0 :: tail).toArray T (0, 0)) := hbk
      rw [Lib.cell_of_heap this]; rfl
    have hSD : (Builtin.unsafeSliceData_ #[76] 197 #[.slice none 0 0]).run Tryd.prog w.drew = .ok (.pointer none) w.drew := rfl
    clear hown hne hnil hbk
    go_enter Tryd.func99, Tryd.ntmps99
    go_wp2
    go_region
    all_goals (go_wp2; go_ret; exact ⟨rfl, Below.drew (Below.refl B w)⟩)
  · have hl0 : l.length ≠ 0 := by simpa using h0
    obtain ⟨g, cap, cur, rfl, hbg, hg, hnc, hcm, hcs, htake⟩ : ∃ g cap cur, v = .slice (some ⟨g, 0, none⟩) l.length cap ∧ B ≤ g ∧ w.heap[g]? = some (.cells cur 5 (0, 0)) ∧ l.length ≤ cap ∧ cap ≤ maxLen ∧ cur.size = cap * 1 ∧ cur.toList.take (l.length * 1) = Lib.byteCells l := by
      rcases hown.2 with ⟨_, hz⟩ | ⟨g, cap, cur, hv, r⟩
      · exact absurd hz hl0
      · exact ⟨g, cap, cur, hv, r⟩
    have c1 : w.drew.cell? ⟨b, 1, none⟩ = some (.slice (some ⟨g, 0, none⟩) l.length cap) := by
      have : w.drew.heap[b]? = some (.cells (p :: .slice (some ⟨g, 0, none⟩) l.length cap :: tail).toArray T (0, 0)) := hbk
      rw [Lib.cell_of_heap this]; rfl
    have hSD : (Builtin.unsafeSliceData_ #[76] 197 #[.slice (some ⟨g, 0, none⟩) l.length cap]).run Tryd.prog w.drew = .ok (.pointer (some ⟨g, 0, none⟩)) w.drew :=
      Lib.run_unsafeSliceData_row _ _ _ _ _ _ (by omega)
    have hUS : (Builtin.unsafeString_ #[197, 3] 9 #[.pointer (some ⟨g, 0, none⟩), .int .i64 l.length]).run Tryd.prog w.drew = .ok (.string ⟨l.toArray⟩) (w.drew.freeze ⟨g, 0, none⟩ l.length) := by
      refine Lib.run_unsafeString_row w.drew 197 3 9 5 Tryd.underlying197 cells_byte g cur.size (by have hg' : w.drew.heap[g]? = some (.cells cur 5 (0, 0)) := hg; simp [World.shape?, hg']) l h0 (by omega) (by unfold maxLen at hcm; omega) ?_
      intro j x hx
      exact hown.cells (g := g) rfl j (.int .u8 x.toNat) (by simp [Lib.byteCells, hx])
    clear hown hne hnil hbk hg hnc hcm hcs htake
    go_enter Tryd.func99, Tryd.ntmps99
    go_wp2
    go_region
    all_goals (go_wp2; go_ret; exact ⟨rfl, Lib.below_freeze (Below.drew (Below.refl B w)) (p := ⟨g, 0, none⟩) hbg _⟩)
end Go.Proofs.YthighbbikpnpgaaDoor

/-! LeF -/
namespace Go.Proofs.YthighbbikpnpgaaDoor
open Go.RowKit Go.Proofs.YthighbbikpnpgaaDoorW.PrintWords

def escD (y : UInt8) : Option UInt8 := if y = 110 then some 10 else if y = 116 then some 9 else if y = 34 then some 34 else if y = 92 then some 92 else none
def escI (y : UInt8) : Int := if y = 110 then 0 else if y = 116 then 1 else if y = 34 then 2 else if y = 92 then 3 else -1

/-- A string behind its first mark: the error's number, the bytes, the place. -/
def strP : List UInt8 → List UInt8 → Nat → Int × List UInt8 × Nat
  | [], acc, k => (5, acc, k)
  | [x], acc, k => if x = 34 then (0, acc, k) else if x = 92 then (5, acc, k) else (5, acc ++ [x], k + 1)
  | x :: y :: r, acc, k => if x = 34 then (0, acc, k) else if x = 92 then (if (escD y).isSome then strP r (acc ++ [(escD y).getD 0]) (k + 2) else (6, acc, k)) else strP (y :: r) (acc ++ [x]) (k + 1)

theorem strP_mark (r acc : List UInt8) (k : Nat) : strP (34 :: r) acc k = (0, acc, k) := by
  cases r <;> rw [strP, if_pos rfl]
theorem strP_last (acc : List UInt8) (k : Nat) : strP [92] acc k = (5, acc, k) := by
  rw [strP, if_neg (by decide), if_pos rfl]
theorem strP_esc {y : UInt8} {d : UInt8} (h : escD y = some d) (r acc : List UInt8) (k : Nat) : strP (92 :: y :: r) acc k = strP r (acc ++ [d]) (k + 2) := by
  rw [strP, if_neg (by decide), if_pos rfl, h]; rfl
theorem strP_bad {y : UInt8} (h : escD y = none) (r acc : List UInt8) (k : Nat) : strP (92 :: y :: r) acc k = (6, acc, k) := by
  rw [strP, if_neg (by decide), if_pos rfl, h]; rfl
theorem strP_on {x : UInt8} (h : x ≠ 34) (h' : x ≠ 92) (r acc : List UInt8) (k : Nat) : strP (x :: r) acc k = strP r (acc ++ [x]) (k + 1) := by
  cases r with
  | nil => simp [strP, h, h']
  | cons y r => rw [strP, if_neg h, if_neg h']

theorem esc_index (y : UInt8) (w : World) : Calls Tryd.prog 80 #[.string ⟨#[110, 116, 34, 92]⟩, .int .u8 (y.toNat : Int)] w fun e w' => e = .returned (.int .i64 (escI y)) ∧ w' = w := by
  refine (indexbyte_any _ _ w).mono ?_
  rintro e w' ⟨rfl, rfl⟩
  refine ⟨?_, rfl⟩
  have e : Lib.indexByte [110, 116, 34, 92] y = escI y := by
    unfold escI
    by_cases h0 : y = 110; · subst h0; rfl
    by_cases h1 : y = 116; · subst h1; rfl
    by_cases h2 : y = 34; · subst h2; rfl
    by_cases h3 : y = 92; · subst h3; rfl
    rw [if_neg h0, if_neg h1, if_neg h2, if_neg h3]
    simp [Lib.indexByte, Ne.symm h0, Ne.symm h1, Ne.symm h2, Ne.symm h3]
  have e2 : ((y.toNat : Int).toNat).toUInt8 = y := by simp
  rw [e2, ← e]

set_option maxHeartbeats 2000000 in
set_option maxRecDepth 100000 in
theorem blen_any (T : TypeId) (tail : List Value) (B b : Nat) (l : List UInt8) (w : World) (h : Bld T tail B b l w) :
    Calls Tryd.prog 110 #[.pointer (some ⟨b, 0, none⟩)] w fun e w' => e = .returned (.int .i64 (l.length : Nat)) ∧ w' = w := by
  obtain ⟨hB, p, v, hp, hbk, hown, hne, hnil⟩ := h
  obtain ⟨A, c, rfl⟩ := own_slice hown
  have c1 : w.cell? ⟨b, 1, none⟩ = some (.slice A l.length c) := by
    rw [cell_of_row w b 1 _ T (0, 0) hbk]; rfl
  clear hp hbk hown hne hnil
  go_enter Tryd.func110, Tryd.ntmps110
  (go_wp2_with fail; repeat (go_region; go_wp2_with fail))
  go_ret
  exact ⟨rfl, rfl⟩
end Go.Proofs.YthighbbikpnpgaaDoor
