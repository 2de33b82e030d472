/-
  The reference's Text, of lists; all together.
  The printer: lists; all together.
  Layer 9: text, Write, Display.
  Layer 9: awake.
  What the printed functions Parts, Depth, Small, Own come to.
  The reference's Symbol.
  The reference's Symbol, in the printer's form: by its contract (LxD).
-/
import Derived.Test.YthighbbikpnpgaaDoorSB1

/-! ShD -/
namespace Go.Proofs.YthighbbikpnpgaaDoor
open Go.RowKit Go.Proofs.YthighbbikpnpgaaDoor.PSh Go.Proofs.YthighbbikpnpgaaDoorW.PrintWords

/-- What stands ahead of a part. -/
def preL (dot first last : Bool) : List UInt8 := (if first = true then [] else [32]) ++ (if dot = true ∧ last = true then [46, 32] else [])
theorem items_next (dot first : Bool) (x : Dat) (r : List Dat) (p : Bool) : itemsL dot first (x :: r) p = preL dot first (decide (r = [])) ++ (txtD x p ++ itemsL dot false r p) := by
  rw [itemsL, preL]
  simp

theorem app_list (a : ByteArray) (l : List UInt8) : (a ++ ⟨l.toArray⟩ : ByteArray).data.toList = a.data.toList ++ l := by simp

theorem acc_step {dot : Bool} {l : List Dat} {p : Bool} {T : List UInt8} {acc acc' : ByteArray} {j : Nat} (hj : j < l.length) (h : acc.data.toList ++ itemsL dot (j == 0) (l.drop j) p = T)
    (e : acc'.data.toList = acc.data.toList ++ (preL dot (j == 0) (decide (l.drop (j + 1) = [])) ++ txtD l[j] p)) : acc'.data.toList ++ itemsL dot ((j + 1) == 0) (l.drop (j + 1)) p = T := by
  rw [← h, List.drop_eq_getElem_cons hj, items_next, e]
  simp
theorem drop_last {l : List Dat} {j : Nat} : (l.drop (j + 1) = []) ↔ l.length ≤ j + 1 := List.drop_eq_nil_iff

set_option maxRecDepth 400000 in
set_option maxHeartbeats 4000000 in
theorem reft_6 (n : Int) (t : ByteArray) (l : List Dat) (p : Bool) (A : Option Addr) (c : Nat) (w : World) (hC : Kd.C kD w A l.length l)
    (hlen : ([40] ++ itemsL false true l p).length ≤ 1000000000)
    (ih : ∀ x : Dat, x ∈ l → ∀ (w : World) (A : Option Addr) (c : Nat), x.f3.length ≤ c → Kd.C kD w A x.f3.length x.f3 → (txtD x p).length ≤ 1000000000 →
      Calls Tryd.prog 47 #[.agg #[.int .i64 x.f0, .int .i64 x.f1, .string x.f2, .slice A x.f3.length c], .bool p] w (StrTo (txtD x p) w)) :
    Calls Tryd.prog 47 #[.agg #[.int .i64 6, .int .i64 n, .string t, .slice A l.length c], .bool p] w (StrTo ([40] ++ itemsL false true l p) w) := by
  obtain ⟨T, hT⟩ : ∃ T, T = [40] ++ itemsL false true l p := ⟨_, rfl⟩
  rw [← hT] at hlen ⊢
  have hb1 : Below w.heap.size w (w.alloc (.cells #[.int .i64 6, .int .i64 n, .string t, .slice A l.length c] 84)) := (Below.refl _ _).alloc (Nat.le_refl _) _
  have hbx := fun (w' : World) hb => box_cells w (.int .i64 6) (.int .i64 n) (.string t) (.slice A l.length c) 84 w' hb
  have HBX := Lib.hid hbx
  have h63 : l.length ≤ 9223372036854775807 := hC.2.1
  have HC := Lib.hid (fun w' (hb : Below w.heap.size w w') => Kd.C_below hC hb)
  have HIH := Lib.hid ih
  have HT := Lib.hid hT
  have HL := Lib.hid hlen
  clear hT hlen ih hC hbx
  go_enter Tryd.func47, Tryd.ntmps47
  go_wp2_with fail
  go_loopw [5, 6] (fun s i wr => ∃ (j : Nat) (acc : ByteArray), j ≤ l.length ∧ i = .int .i64 (j : Nat) ∧ s = .string acc ∧ Hid (acc.data.toList ++ itemsL false (j == 0) (l.drop j) p = T) ∧ Hid (Below (w.alloc (.cells #[.int .i64 6, .int .i64 n, .string t, .slice A l.length c] 84)).heap.size (w.alloc (.cells #[.int .i64 6, .int .i64 n, .string t, .slice A l.length c] 84)) wr)) (fun _ i _ => l.length - (intOf i).toNat)
  case atStart => exact ⟨0, _, Nat.zero_le _, rfl, rfl, Lib.hid (by rw [HT.out]; rfl), Lib.hid (Below.refl _ _)⟩
  case round =>
    obtain ⟨j, acc, hj, rfl, rfl, HS, HB⟩ := hrel
    obtain ⟨c0, _, _, c3⟩ := HBX.out wr HB.out
    have hac : acc.size ≤ 1000000000 := by
      have h1 := HL.out
      have h2 := congrArg List.length HS.out
      rw [List.length_append] at h2
      have h3 : acc.size = acc.data.toList.length := by simp
      omega
    by_cases hlt : j < l.length
    · have hbw := below_trans hb1 HB.out
      obtain ⟨ad, rfl, A', c', hD⟩ := dat_item (HC.out wr hbw) j hlt hlt
      have hyl : (txtD l[j] p).length ≤ 1000000000 := by
        have h1 := HL.out
        have h2 := congrArg List.length HS.out
        rw [List.drop_eq_getElem_cons hlt, items_next] at h2
        simp only [List.length_append] at h2
        omega
      have HIX := Lib.hid (HIH.out l[j] (List.getElem_mem hlt) wr A' c' hD.len hD.items hyl)
      obtain ⟨y, hy⟩ : ∃ y, txtD l[j] p = y := ⟨_, rfl⟩
      have HY := Lib.hid hy
      have d0 := hD.c0
      have d1 := hD.c1
      have d2 := hD.c2
      have d3 := hD.c3
      rw [hy] at hyl HIX
      have HLT := Lib.hid hlt
      clear hD hbw hy
      generalize l[j].f0 = x0 at d0 HIX
      generalize l[j].f1 = x1 at d1 HIX
      generalize l[j].f2 = x2 at d2 HIX
      generalize l[j].f3.length = x3 at d3 HIX
      by_cases h0 : j = 0
      · have h1 : (j : Int) ≤ 0 := by omega
        have hz : (j == 0) = true := by simpa using h0
        have HP := Lib.hid (show preL false (j == 0) (decide (l.drop (j + 1) = [])) = [] by rw [hz]; simp [preL])
        clear hz h0
        go_wp2_with fail
        refine HIX.out.mono ?_
        rintro e w2 ⟨rfl, hb2⟩
        have HB2 := Lib.hid (below_trans HB.out hb2)
        clear d0 d1 d2 d3 c0 c3 hb2
        go_wp2_with fail
        go_roundw
        case rel => exact ⟨_, _, HLT.out, by go_num, rfl, Lib.hid (acc_step HLT.out HS.out (by rw [HP.out, HY.out]; simp)), HB2⟩
        case measure => have := HLT.out; simp [intOf]; omega
      · have h1 : (0 : Int) < j := by omega
        have hz : (j == 0) = false := by simpa using h0
        have HP := Lib.hid (show preL false (j == 0) (decide (l.drop (j + 1) = [])) = [32] by rw [hz]; simp [preL])
        clear hz h0
        go_wp2_with fail
        refine HIX.out.mono ?_
        rintro e w2 ⟨rfl, hb2⟩
        have HB2 := Lib.hid (below_trans HB.out hb2)
        clear d0 d1 d2 d3 c0 c3 hb2
        go_wp2_with fail
        go_roundw
        case rel => exact ⟨_, _, HLT.out, by go_num, rfl, Lib.hid (acc_step HLT.out HS.out (by rw [HP.out, HY.out]; simp)), HB2⟩
        case measure => have := HLT.out; simp [intOf]; omega
    · obtain rfl : j = l.length := by omega
      have HE := Lib.hid (show acc.data.toList ++ [41] = T by rw [← HS.out, List.drop_length, itemsL])
      go_wp2_with fail
      go_ret
      exact ⟨ret_str (ba_of (by rw [← HE.out]; simp)), below_trans hb1 HB.out⟩

set_option maxRecDepth 400000 in
set_option maxHeartbeats 4000000 in
theorem reft_8 (n : Int) (t : ByteArray) (l : List Dat) (p : Bool) (A : Option Addr) (c : Nat) (w : World) (hC : Kd.C kD w A l.length l)
    (hlen : ([35, 40] ++ itemsL false true l p).length ≤ 1000000000)
    (ih : ∀ x : Dat, x ∈ l → ∀ (w : World) (A : Option Addr) (c : Nat), x.f3.length ≤ c → Kd.C kD w A x.f3.length x.f3 → (txtD x p).length ≤ 1000000000 →
      Calls Tryd.prog 47 #[.agg #[.int .i64 x.f0, .int .i64 x.f1, .string x.f2, .slice A x.f3.length c], .bool p] w (StrTo (txtD x p) w)) :
    Calls Tryd.prog 47 #[.agg #[.int .i64 8, .int .i64 n, .string t, .slice A l.length c], .bool p] w (StrTo ([35, 40] ++ itemsL false true l p) w) := by
  obtain ⟨T, hT⟩ : ∃ T, T = [35, 40] ++ itemsL false true l p := ⟨_, rfl⟩
  rw [← hT] at hlen ⊢
  have hb1 : Below w.heap.size w (w.alloc (.cells #[.int .i64 8, .int .i64 n, .string t, .slice A l.length c] 84)) := (Below.refl _ _).alloc (Nat.le_refl _) _
  have hbx := fun (w' : World) hb => box_cells w (.int .i64 8) (.int .i64 n) (.string t) (.slice A l.length c) 84 w' hb
  have HBX := Lib.hid hbx
  have h63 : l.length ≤ 9223372036854775807 := hC.2.1
  have HC := Lib.hid (fun w' (hb : Below w.heap.size w w') => Kd.C_below hC hb)
  have HIH := Lib.hid ih
  have HT := Lib.hid hT
  have HL := Lib.hid hlen
  clear hT hlen ih hC hbx
  go_enter Tryd.func47, Tryd.ntmps47
  go_wp2_with fail
  go_loopw [5, 6] (fun s i wr => ∃ (j : Nat) (acc : ByteArray), j ≤ l.length ∧ i = .int .i64 (j : Nat) ∧ s = .string acc ∧ Hid (acc.data.toList ++ itemsL false (j == 0) (l.drop j) p = T) ∧ Hid (Below (w.alloc (.cells #[.int .i64 8, .int .i64 n, .string t, .slice A l.length c] 84)).heap.size (w.alloc (.cells #[.int .i64 8, .int .i64 n, .string t, .slice A l.length c] 84)) wr)) (fun _ i _ => l.length - (intOf i).toNat)
  case atStart => exact ⟨0, _, Nat.zero_le _, rfl, rfl, Lib.hid (by rw [HT.out]; rfl), Lib.hid (Below.refl _ _)⟩
  case round =>
    obtain ⟨j, acc, hj, rfl, rfl, HS, HB⟩ := hrel
    obtain ⟨c0, _, _, c3⟩ := HBX.out wr HB.out
    have hac : acc.size ≤ 1000000000 := by
      have h1 := HL.out
      have h2 := congrArg List.length HS.out
      rw [List.length_append] at h2
      have h3 : acc.size = acc.data.toList.length := by simp
      omega
    by_cases hlt : j < l.length
    · have hbw := below_trans hb1 HB.out
      obtain ⟨ad, rfl, A', c', hD⟩ := dat_item (HC.out wr hbw) j hlt hlt
      have hyl : (txtD l[j] p).length ≤ 1000000000 := by
        have h1 := HL.out
        have h2 := congrArg List.length HS.out
        rw [List.drop_eq_getElem_cons hlt, items_next] at h2
        simp only [List.length_append] at h2
        omega
      have HIX := Lib.hid (HIH.out l[j] (List.getElem_mem hlt) wr A' c' hD.len hD.items hyl)
      obtain ⟨y, hy⟩ : ∃ y, txtD l[j] p = y := ⟨_, rfl⟩
      have HY := Lib.hid hy
      have d0 := hD.c0
      have d1 := hD.c1
      have d2 := hD.c2
      have d3 := hD.c3
      rw [hy] at hyl HIX
      have HLT := Lib.hid hlt
      clear hD hbw hy
      generalize l[j].f0 = x0 at d0 HIX
      generalize l[j].f1 = x1 at d1 HIX
      generalize l[j].f2 = x2 at d2 HIX
      generalize l[j].f3.length = x3 at d3 HIX
      by_cases h0 : j = 0
      · have h1 : (j : Int) ≤ 0 := by omega
        have hz : (j == 0) = true := by simpa using h0
        have HP := Lib.hid (show preL false (j == 0) (decide (l.drop (j + 1) = [])) = [] by rw [hz]; simp [preL])
        clear hz h0
        go_wp2_with fail
        refine HIX.out.mono ?_
        rintro e w2 ⟨rfl, hb2⟩
        have HB2 := Lib.hid (below_trans HB.out hb2)
        clear d0 d1 d2 d3 c0 c3 hb2
        go_wp2_with fail
        go_roundw
        case rel => exact ⟨_, _, HLT.out, by go_num, rfl, Lib.hid (acc_step HLT.out HS.out (by rw [HP.out, HY.out]; simp)), HB2⟩
        case measure => have := HLT.out; simp [intOf]; omega
      · have h1 : (0 : Int) < j := by omega
        have hz : (j == 0) = false := by simpa using h0
        have HP := Lib.hid (show preL false (j == 0) (decide (l.drop (j + 1) = [])) = [32] by rw [hz]; simp [preL])
        clear hz h0
        go_wp2_with fail
        refine HIX.out.mono ?_
        rintro e w2 ⟨rfl, hb2⟩
        have HB2 := Lib.hid (below_trans HB.out hb2)
        clear d0 d1 d2 d3 c0 c3 hb2
        go_wp2_with fail
        go_roundw
        case rel => exact ⟨_, _, HLT.out, by go_num, rfl, Lib.hid (acc_step HLT.out HS.out (by rw [HP.out, HY.out]; simp)), HB2⟩
        case measure => have := HLT.out; simp [intOf]; omega
    · obtain rfl : j = l.length := by omega
      have HE := Lib.hid (show acc.data.toList ++ [41] = T by rw [← HS.out, List.drop_length, itemsL])
      go_wp2_with fail
      go_ret
      exact ⟨ret_str (ba_of (by rw [← HE.out]; simp)), below_trans hb1 HB.out⟩

set_option maxRecDepth 400000 in
set_option maxHeartbeats 4000000 in
theorem reft_7 (n : Int) (t : ByteArray) (l : List Dat) (p : Bool) (A : Option Addr) (c : Nat) (w : World) (hC : Kd.C kD w A l.length l)
    (hlen : ([40] ++ itemsL true true l p).length ≤ 1000000000)
    (ih : ∀ x : Dat, x ∈ l → ∀ (w : World) (A : Option Addr) (c : Nat), x.f3.length ≤ c → Kd.C kD w A x.f3.length x.f3 → (txtD x p).length ≤ 1000000000 →
      Calls Tryd.prog 47 #[.agg #[.int .i64 x.f0, .int .i64 x.f1, .string x.f2, .slice A x.f3.length c], .bool p] w (StrTo (txtD x p) w)) :
    Calls Tryd.prog 47 #[.agg #[.int .i64 7, .int .i64 n, .string t, .slice A l.length c], .bool p] w (StrTo ([40] ++ itemsL true true l p) w) := by
  obtain ⟨T, hT⟩ : ∃ T, T = [40] ++ itemsL true true l p := ⟨_, rfl⟩
  rw [← hT] at hlen ⊢
  have hb1 : Below w.heap.size w (w.alloc (.cells #[.int .i64 7, .int .i64 n, .string t, .slice A l.length c] 84)) := (Below.refl _ _).alloc (Nat.le_refl _) _
  have hbx := fun (w' : World) hb => box_cells w (.int .i64 7) (.int .i64 n) (.string t) (.slice A l.length c) 84 w' hb
  have HBX := Lib.hid hbx
  have h63 : l.length ≤ 9223372036854775807 := hC.2.1
  have HC := Lib.hid (fun w' (hb : Below w.heap.size w w') => Kd.C_below hC hb)
  have HIH := Lib.hid ih
  have HT := Lib.hid hT
  have HL := Lib.hid hlen
  clear hT hlen ih hC hbx
  go_enter Tryd.func47, Tryd.ntmps47
  go_wp2_with fail
  go_loopw [5, 6] (fun s i wr => ∃ (j : Nat) (acc : ByteArray), j ≤ l.length ∧ i = .int .i64 (j : Nat) ∧ s = .string acc ∧ Hid (acc.data.toList ++ itemsL true (j == 0) (l.drop j) p = T) ∧ Hid (Below (w.alloc (.cells #[.int .i64 7, .int .i64 n, .string t, .slice A l.length c] 84)).heap.size (w.alloc (.cells #[.int .i64 7, .int .i64 n, .string t, .slice A l.length c] 84)) wr)) (fun _ i _ => l.length - (intOf i).toNat)
  case atStart => exact ⟨0, _, Nat.zero_le _, rfl, rfl, Lib.hid (by rw [HT.out]; rfl), Lib.hid (Below.refl _ _)⟩
  case round =>
    obtain ⟨j, acc, hj, rfl, rfl, HS, HB⟩ := hrel
    obtain ⟨c0, _, _, c3⟩ := HBX.out wr HB.out
    have hac : acc.size ≤ 1000000000 := by
      have h1 := HL.out
      have h2 := congrArg List.length HS.out
      rw [List.length_append] at h2
      have h3 : acc.size = acc.data.toList.length := by simp
      omega
    by_cases hlt : j < l.length
    · have hbw := below_trans hb1 HB.out
      obtain ⟨ad, rfl, A', c', hD⟩ := dat_item (HC.out wr hbw) j hlt hlt
      have hyl : (txtD l[j] p).length ≤ 1000000000 := by
        have h1 := HL.out
        have h2 := congrArg List.length HS.out
        rw [List.drop_eq_getElem_cons hlt, items_next] at h2
        simp only [List.length_append] at h2
        omega
      have HIX := Lib.hid (HIH.out l[j] (List.getElem_mem hlt) wr A' c' hD.len hD.items hyl)
      obtain ⟨y, hy⟩ : ∃ y, txtD l[j] p = y := ⟨_, rfl⟩
      have HY := Lib.hid hy
      have d0 := hD.c0
      have d1 := hD.c1
      have d2 := hD.c2
      have d3 := hD.c3
      rw [hy] at hyl HIX
      have HLT := Lib.hid hlt
      clear hD hbw hy
      generalize l[j].f0 = x0 at d0 HIX
      generalize l[j].f1 = x1 at d1 HIX
      generalize l[j].f2 = x2 at d2 HIX
      generalize l[j].f3.length = x3 at d3 HIX
      by_cases h0 : j = 0
      · have h1 : (j : Int) ≤ 0 := by omega
        have hz : (j == 0) = true := by simpa using h0
        by_cases hla : l.length = j + 1
        · have tl : ((j : Int) == (l.length : Int) - 1) = true := by rw [beq_iff_eq]; omega
          have HP := Lib.hid (show preL true (j == 0) (decide (l.drop (j + 1) = [])) = [46, 32] by rw [decide_eq_true (drop_last.2 (by omega)), hz]; rfl)
          clear hla hz h0
          go_wp2_with fail
          refine HIX.out.mono ?_
          rintro e w2 ⟨rfl, hb2⟩
          have HB2 := Lib.hid (below_trans HB.out hb2)
          clear d0 d1 d2 d3 c0 c3 hb2
          go_wp2_with fail
          go_roundw
          case rel => exact ⟨_, _, HLT.out, by go_num, rfl, Lib.hid (acc_step HLT.out HS.out (by rw [HP.out, HY.out]; simp)), HB2⟩
          case measure => have := HLT.out; simp [intOf]; omega
        · have tl : ((j : Int) == (l.length : Int) - 1) = false := by rw [beq_eq_false_iff_ne]; omega
          have HP := Lib.hid (show preL true (j == 0) (decide (l.drop (j + 1) = [])) = [] by rw [decide_eq_false (fun e => by have := drop_last.1 e; omega), hz]; rfl)
          clear hla hz h0
          go_wp2_with fail
          refine HIX.out.mono ?_
          rintro e w2 ⟨rfl, hb2⟩
          have HB2 := Lib.hid (below_trans HB.out hb2)
          clear d0 d1 d2 d3 c0 c3 hb2
          go_wp2_with fail
          go_roundw
          case rel => exact ⟨_, _, HLT.out, by go_num, rfl, Lib.hid (acc_step HLT.out HS.out (by rw [HP.out, HY.out]; simp)), HB2⟩
          case measure => have := HLT.out; simp [intOf]; omega
      · have h1 : (0 : Int) < j := by omega
        have hz : (j == 0) = false := by simpa using h0
        by_cases hla : l.length = j + 1
        · have tl : ((j : Int) == (l.length : Int) - 1) = true := by rw [beq_iff_eq]; omega
          have HP := Lib.hid (show preL true (j == 0) (decide (l.drop (j + 1) = [])) = [32, 46, 32] by rw [decide_eq_true (drop_last.2 (by omega)), hz]; rfl)
          clear hla hz h0
          go_wp2_with fail
          refine HIX.out.mono ?_
          rintro e w2 ⟨rfl, hb2⟩
          have HB2 := Lib.hid (below_trans HB.out hb2)
          clear d0 d1 d2 d3 c0 c3 hb2
          go_wp2_with fail
          go_roundw
          case rel => exact ⟨_, _, HLT.out, by go_num, rfl, Lib.hid (acc_step HLT.out HS.out (by rw [HP.out, HY.out]; simp)), HB2⟩
          case measure => have := HLT.out; simp [intOf]; omega
        · have tl : ((j : Int) == (l.length : Int) - 1) = false := by rw [beq_eq_false_iff_ne]; omega
          have HP := Lib.hid (show preL true (j == 0) (decide (l.drop (j + 1) = [])) = [32] by rw [decide_eq_false (fun e => by have := drop_last.1 e; omega), hz]; rfl)
          clear hla hz h0
          go_wp2_with fail
          refine HIX.out.mono ?_
          rintro e w2 ⟨rfl, hb2⟩
          have HB2 := Lib.hid (below_trans HB.out hb2)
          clear d0 d1 d2 d3 c0 c3 hb2
          go_wp2_with fail
          go_roundw
          case rel => exact ⟨_, _, HLT.out, by go_num, rfl, Lib.hid (acc_step HLT.out HS.out (by rw [HP.out, HY.out]; simp)), HB2⟩
          case measure => have := HLT.out; simp [intOf]; omega
    · obtain rfl : j = l.length := by omega
      have HE := Lib.hid (show acc.data.toList ++ [41] = T by rw [← HS.out, List.drop_length, itemsL])
      go_wp2_with fail
      go_ret
      exact ⟨ret_str (ba_of (by rw [← HE.out]; simp)), below_trans hb1 HB.out⟩

theorem fitsL_mem {l : List Dat} {wi : Nat} (h : fitsL l wi = true) : ∀ x ∈ l, fitsD x wi = true := by
  induction l with
  | nil => intro x hx; cases hx
  | cons y r ihr =>
    intro x hx
    rw [fitsL] at h
    simp only [Bool.and_eq_true] at h
    rcases List.mem_cons.1 hx with rfl | hx
    · exact h.1
    · exact ihr h.2 x hx

theorem reft_any (m : Nat) : ∀ x : Dat, szD x < m → ∀ (wi : Nat) (p : Bool) (w : World) (A : Option Addr) (c : Nat), fitsD x wi = true → x.f3.length ≤ c → Kd.C kD w A x.f3.length x.f3 → (txtD x p).length ≤ 1000000000 →
    Calls Tryd.prog 47 #[.agg #[.int .i64 x.f0, .int .i64 x.f1, .string x.f2, .slice A x.f3.length c], .bool p] w (StrTo (txtD x p) w) := by
  induction m with
  | zero => intro x h; omega
  | succ m ih =>
    intro x hx wi p w A c hf hl hC hlen
    have hxs : ∀ y ∈ x.f3, szD y < m := fun y hy => by have := dat_lt hy; omega
    obtain ⟨k, n, t, l⟩ := x
    rw [fitsD] at hf
    rw [txtD] at hlen ⊢
    simp only [Bool.and_eq_true] at hf
    obtain ⟨_, hf⟩ := hf
    have hfl := fun h => fitsL_mem (l := l) (wi := wi + 1) h
    by_cases k1 : k = 1
    · subst k1
      rw [if_pos rfl] at hf ⊢
      simp only [Bool.and_eq_true, decide_eq_true_eq] at hf
      exact reft_1 n (by omega) (by omega) t _ p w
    rw [if_neg k1] at hf hlen ⊢
    by_cases k2 : k = 2
    · subst k2
      rw [if_pos rfl]
      exact reft_2 n t _ p w
    rw [if_neg k2] at hf hlen ⊢
    by_cases k3 : k = 3
    · subst k3
      rw [if_pos rfl] at hf ⊢
      simp only [Bool.and_eq_true, decide_eq_true_eq] at hf
      exact reft_3 n hf.2.1 hf.2.2 t _ p w
    rw [if_neg k3] at hf hlen ⊢
    by_cases k4 : k = 4
    · subst k4
      rw [if_pos rfl] at hf ⊢
      simp only [Bool.and_eq_true, decide_eq_true_eq] at hf
      exact reft_4 n t hf.2 _ p w
    rw [if_neg k4] at hf hlen ⊢
    by_cases k5 : k = 5
    · subst k5
      rw [if_pos rfl]
      exact reft_5 n t _ p w
    rw [if_neg k5] at hf hlen ⊢
    by_cases k7 : k = 7
    · subst k7
      rw [if_pos rfl] at hf
      simp only [Bool.and_eq_true] at hf
      have hi := hfl hf.1.1.2
      exact reft_7 n t l p A c w hC hlen (fun x hx w A c h1 h2 h3 => ih x (hxs x hx) (wi + 1) p w A c (hi x hx) h1 h2 h3)
    rw [if_neg k7] at hf
    by_cases k6 : k = 6
    · subst k6
      rw [if_pos (.inl rfl)] at hf
      simp only [Bool.and_eq_true] at hf
      have hi := hfl hf.1.1
      exact reft_6 n t l p A c w hC hlen (fun x hx w A c h1 h2 h3 => ih x (hxs x hx) (wi + 1) p w A c (hi x hx) h1 h2 h3)
    by_cases k8 : k = 8
    · subst k8
      rw [if_pos (.inr rfl)] at hf
      simp only [Bool.and_eq_true] at hf
      have hi := hfl hf.1.1
      exact reft_8 n t l p A c w hC hlen (fun x hx w A c h1 h2 h3 => ih x (hxs x hx) (wi + 1) p w A c (hi x hx) h1 h2 h3)
    rw [if_neg (by rintro (h | h); exact k6 h; exact k8 h)] at hf
    cases hf
end Go.Proofs.YthighbbikpnpgaaDoor

/-! ShH -/
namespace Go.Proofs.YthighbbikpnpgaaDoor
open Go.RowKit Go.Proofs.YthighbbikpnpgaaDoor.PSh Go.Proofs.YthighbbikpnpgaaDoorW.PrintWords

theorem acc_stepL {dot : Bool} {l : List Dat} {p : Bool} {T acc acc' : List UInt8} {j : Nat} (hj : j < l.length) (h : acc ++ itemsL dot (j == 0) (l.drop j) p = T)
    (e : acc' = acc ++ (preL dot (j == 0) (decide (l.drop (j + 1) = [])) ++ txtD l[j] p)) : acc' ++ itemsL dot ((j + 1) == 0) (l.drop (j + 1)) p = T := by
  rw [← h, List.drop_eq_getElem_cons hj, items_next, e]
  simp

set_option maxRecDepth 400000 in
set_option maxHeartbeats 4000000 in
theorem items_6 (p : Bool) (n : Int) (t : ByteArray) (l : List Dat) (q : Addr) (A : Option Addr) (c b : Nat) (a0 : List UInt8) (w0 w : World) (hD : DatAt w0 q ⟨6, n, t, l⟩ A c) (hbw : Below w0.heap.size w0 w) (hP : Prn p w0.heap.size b a0 w)
    (hlen : (a0 ++ itemsL false true l p).length ≤ 1000000000)
    (ih : ∀ x : Dat, x ∈ l → ∀ (q : Addr) (A : Option Addr) (c : Nat), DatAt w0 q x A c → ∀ (acc : List UInt8) (w : World), Below w0.heap.size w0 w → Prn p w0.heap.size b acc w → acc.length + (txtD x p).length ≤ 1000000000 →
      Calls Tryd.prog 98 #[.pointer (some ⟨b, 0, none⟩), .pointer (some q)] w (PrnTo p w0.heap.size b (acc ++ txtD x p) w)) :
    Calls Tryd.prog 117 #[.pointer (some ⟨b, 0, none⟩), .pointer (some q)] w (PrnTo p w0.heap.size b (a0 ++ itemsL false true l p) w) := by
  obtain ⟨T, hT⟩ : ∃ T, T = a0 ++ itemsL false true l p := ⟨_, rfl⟩
  rw [← hT] at hlen ⊢
  have h63 : l.length ≤ 9223372036854775807 := hD.items.2.1
  have hq := Lib.hid (World.block_lt_of_cell? w0 _ hD.c0)
  have k0 := Lib.hid hD.c0
  have k3 := Lib.hid hD.c3
  have hIt := Lib.hid hD.items
  have HIH := Lib.hid ih
  have HT := Lib.hid hT
  have HL := Lib.hid hlen
  have HB00 := Lib.hid hbw
  have HP00 := Lib.hid hP
  have c0 := (hbw.cell (p := q) hq.out).trans k0.out
  have c3 := (hbw.cell (p := ⟨q.block, q.off + 3, none⟩) hq.out).trans k3.out
  clear hT hlen ih hD hbw hP
  go_enter Tryd.func117, Tryd.ntmps117
  go_wp2_with fail
  clear c0 c3
  go_loopw [17] (fun i wr => ∃ (j : Nat) (acc : List UInt8), j ≤ l.length ∧ i = .int .i64 (j : Nat) ∧ Hid (Prn p w0.heap.size b acc wr) ∧ Hid (acc ++ itemsL false (j == 0) (l.drop j) p = T) ∧ Hid (Below w0.heap.size w wr)) (fun i _ => l.length - (intOf i).toNat)
  case atStart => exact ⟨0, a0, Nat.zero_le _, rfl, HP00, Lib.hid (by rw [HT.out]; rfl), Lib.hid (Below.refl _ _)⟩
  case round =>
    obtain ⟨j, acc, hj, rfl, HP0, HS, HW0⟩ := hrel
    have HB0 := Lib.hid (HB00.out.trans HW0.out)
    have c0 := (HB0.out.cell (p := q) hq.out).trans k0.out
    have c3 := (HB0.out.cell (p := ⟨q.block, q.off + 3, none⟩) hq.out).trans k3.out
    have hac : Hid (acc.length ≤ 1000000000) := by
      have h1 := HL.out
      have h2 := congrArg List.length HS.out
      rw [List.length_append] at h2
      exact Lib.hid (by omega)
    by_cases hlt : j < l.length
    · obtain ⟨ad, rfl, A', c', hDj⟩ := dat_item hIt.out j hlt hlt
      have hyl : Hid (acc.length + (preL false (j == 0) (decide (l.drop (j + 1) = []))).length + (txtD l[j] p).length ≤ 1000000000) := by
        have h1 := HL.out
        have h2 := congrArg List.length HS.out
        rw [List.drop_eq_getElem_cons hlt, items_next] at h2
        simp only [List.length_append] at h2
        exact Lib.hid (by omega)
      have HIX := Lib.hid (HIH.out l[j] (List.getElem_mem hlt) _ A' c' hDj)
      have HLT := Lib.hid hlt
      clear hDj
      by_cases h0 : j = 0
      · have h1 : (j : Int) ≤ 0 := by omega
        have hz : (j == 0) = true := by simpa using h0
        have HPre := Lib.hid (show preL false (j == 0) (decide (l.drop (j + 1) = [])) = [] by rw [hz]; simp [preL])
        clear hz h0
        go_wp2_with fail
        refine (HIX.out _ _ (HB0.out) HP0.out (by have h1 := hac.out; have h2 := hyl.out; rw [HPre.out] at h2; simp at h2 ⊢; omega)).mono ?_
        rintro e w9 ⟨rfl, hp, hb⟩
        have HP9 := Lib.hid hp
        have HW9 := Lib.hid (HW0.out.trans hb)
        clear hp hb c0 c3
        go_wp2_with fail
        go_roundw
        case rel => exact ⟨_, _, HLT.out, by go_num, HP9, Lib.hid (acc_stepL HLT.out HS.out (by rw [HPre.out]; simp)), HW9⟩
        case measure => have := HLT.out; simp [intOf]; omega
      · have h1 : (0 : Int) < j := by omega
        have hz : (j == 0) = false := by simpa using h0
        have HPre := Lib.hid (show preL false (j == 0) (decide (l.drop (j + 1) = [])) = [32] by rw [hz]; simp [preL])
        clear hz h0
        go_wp2_with fail
        refine (wb_any p _ b _ 32 _ HP0.out (by have := hac.out; omega) (by decide) (by decide)).mono ?_
        rintro e w1 ⟨rfl, hp, hb, _⟩
        have HP1 := Lib.hid hp
        have HB1 := Lib.hid (HB0.out.trans hb)
        have HW1 := Lib.hid (HW0.out.trans hb)
        have e0 := (HB1.out.cell (p := q) hq.out).trans k0.out
        have e3 := (HB1.out.cell (p := ⟨q.block, q.off + 3, none⟩) hq.out).trans k3.out
        clear hp hb c0 c3
        have c0 := e0
        have c3 := e3
        clear e0 e3
        go_wp2_with fail
        refine (HIX.out _ _ (HB1.out) HP1.out (by have h1 := hac.out; have h2 := hyl.out; rw [HPre.out] at h2; simp at h2 ⊢; omega)).mono ?_
        rintro e w9 ⟨rfl, hp, hb⟩
        have HP9 := Lib.hid hp
        have HW9 := Lib.hid (HW1.out.trans hb)
        clear hp hb c0 c3
        go_wp2_with fail
        go_roundw
        case rel => exact ⟨_, _, HLT.out, by go_num, HP9, Lib.hid (acc_stepL HLT.out HS.out (by rw [HPre.out]; simp)), HW9⟩
        case measure => have := HLT.out; simp [intOf]; omega
    · obtain rfl : j = l.length := by omega
      have HE := Lib.hid (show acc ++ [41] = T by rw [← HS.out, List.drop_length, itemsL])
      go_wp2_with fail
      refine (wb_any p _ b _ 41 _ HP0.out (by have := hac.out; omega) (by decide) (by decide)).mono ?_
      rintro e w9 ⟨rfl, hp, hb, _⟩
      have HP9 := Lib.hid hp
      have HW9 := Lib.hid (HW0.out.trans hb)
      clear hp hb c0 c3
      go_wp2_with fail
      go_end0
      exact ⟨rfl, by rw [← HE.out]; exact HP9.out, HW9.out⟩

set_option maxRecDepth 400000 in
set_option maxHeartbeats 4000000 in
theorem items_8 (p : Bool) (n : Int) (t : ByteArray) (l : List Dat) (q : Addr) (A : Option Addr) (c b : Nat) (a0 : List UInt8) (w0 w : World) (hD : DatAt w0 q ⟨8, n, t, l⟩ A c) (hbw : Below w0.heap.size w0 w) (hP : Prn p w0.heap.size b a0 w)
    (hlen : (a0 ++ itemsL false true l p).length ≤ 1000000000)
    (ih : ∀ x : Dat, x ∈ l → ∀ (q : Addr) (A : Option Addr) (c : Nat), DatAt w0 q x A c → ∀ (acc : List UInt8) (w : World), Below w0.heap.size w0 w → Prn p w0.heap.size b acc w → acc.length + (txtD x p).length ≤ 1000000000 →
      Calls Tryd.prog 98 #[.pointer (some ⟨b, 0, none⟩), .pointer (some q)] w (PrnTo p w0.heap.size b (acc ++ txtD x p) w)) :
    Calls Tryd.prog 117 #[.pointer (some ⟨b, 0, none⟩), .pointer (some q)] w (PrnTo p w0.heap.size b (a0 ++ itemsL false true l p) w) := by
  obtain ⟨T, hT⟩ : ∃ T, T = a0 ++ itemsL false true l p := ⟨_, rfl⟩
  rw [← hT] at hlen ⊢
  have h63 : l.length ≤ 9223372036854775807 := hD.items.2.1
  have hq := Lib.hid (World.block_lt_of_cell? w0 _ hD.c0)
  have k0 := Lib.hid hD.c0
  have k3 := Lib.hid hD.c3
  have hIt := Lib.hid hD.items
  have HIH := Lib.hid ih
  have HT := Lib.hid hT
  have HL := Lib.hid hlen
  have HB00 := Lib.hid hbw
  have HP00 := Lib.hid hP
  have c0 := (hbw.cell (p := q) hq.out).trans k0.out
  have c3 := (hbw.cell (p := ⟨q.block, q.off + 3, none⟩) hq.out).trans k3.out
  clear hT hlen ih hD hbw hP
  go_enter Tryd.func117, Tryd.ntmps117
  go_wp2_with fail
  clear c0 c3
  go_loopw [17] (fun i wr => ∃ (j : Nat) (acc : List UInt8), j ≤ l.length ∧ i = .int .i64 (j : Nat) ∧ Hid (Prn p w0.heap.size b acc wr) ∧ Hid (acc ++ itemsL false (j == 0) (l.drop j) p = T) ∧ Hid (Below w0.heap.size w wr)) (fun i _ => l.length - (intOf i).toNat)
  case atStart => exact ⟨0, a0, Nat.zero_le _, rfl, HP00, Lib.hid (by rw [HT.out]; rfl), Lib.hid (Below.refl _ _)⟩
  case round =>
    obtain ⟨j, acc, hj, rfl, HP0, HS, HW0⟩ := hrel
    have HB0 := Lib.hid (HB00.out.trans HW0.out)
    have c0 := (HB0.out.cell (p := q) hq.out).trans k0.out
    have c3 := (HB0.out.cell (p := ⟨q.block, q.off + 3, none⟩) hq.out).trans k3.out
    have hac : Hid (acc.length ≤ 1000000000) := by
      have h1 := HL.out
      have h2 := congrArg List.length HS.out
      rw [List.length_append] at h2
      exact Lib.hid (by omega)
    by_cases hlt : j < l.length
    · obtain ⟨ad, rfl, A', c', hDj⟩ := dat_item hIt.out j hlt hlt
      have hyl : Hid (acc.length + (preL false (j == 0) (decide (l.drop (j + 1) = []))).length + (txtD l[j] p).length ≤ 1000000000) := by
        have h1 := HL.out
        have h2 := congrArg List.length HS.out
        rw [List.drop_eq_getElem_cons hlt, items_next] at h2
        simp only [List.length_append] at h2
        exact Lib.hid (by omega)
      have HIX := Lib.hid (HIH.out l[j] (List.getElem_mem hlt) _ A' c' hDj)
      have HLT := Lib.hid hlt
      clear hDj
      by_cases h0 : j = 0
      · have h1 : (j : Int) ≤ 0 := by omega
        have hz : (j == 0) = true := by simpa using h0
        have HPre := Lib.hid (show preL false (j == 0) (decide (l.drop (j + 1) = [])) = [] by rw [hz]; simp [preL])
        clear hz h0
        go_wp2_with fail
        refine (HIX.out _ _ (HB0.out) HP0.out (by have h1 := hac.out; have h2 := hyl.out; rw [HPre.out] at h2; simp at h2 ⊢; omega)).mono ?_
        rintro e w9 ⟨rfl, hp, hb⟩
        have HP9 := Lib.hid hp
        have HW9 := Lib.hid (HW0.out.trans hb)
        clear hp hb c0 c3
        go_wp2_with fail
        go_roundw
        case rel => exact ⟨_, _, HLT.out, by go_num, HP9, Lib.hid (acc_stepL HLT.out HS.out (by rw [HPre.out]; simp)), HW9⟩
        case measure => have := HLT.out; simp [intOf]; omega
      · have h1 : (0 : Int) < j := by omega
        have hz : (j == 0) = false := by simpa using h0
        have HPre := Lib.hid (show preL false (j == 0) (decide (l.drop (j + 1) = [])) = [32] by rw [hz]; simp [preL])
        clear hz h0
        go_wp2_with fail
        refine (wb_any p _ b _ 32 _ HP0.out (by have := hac.out; omega) (by decide) (by decide)).mono ?_
        rintro e w1 ⟨rfl, hp, hb, _⟩
        have HP1 := Lib.hid hp
        have HB1 := Lib.hid (HB0.out.trans hb)
        have HW1 := Lib.hid (HW0.out.trans hb)
        have e0 := (HB1.out.cell (p := q) hq.out).trans k0.out
        have e3 := (HB1.out.cell (p := ⟨q.block, q.off + 3, none⟩) hq.out).trans k3.out
        clear hp hb c0 c3
        have c0 := e0
        have c3 := e3
        clear e0 e3
        go_wp2_with fail
        refine (HIX.out _ _ (HB1.out) HP1.out (by have h1 := hac.out; have h2 := hyl.out; rw [HPre.out] at h2; simp at h2 ⊢; omega)).mono ?_
        rintro e w9 ⟨rfl, hp, hb⟩
        have HP9 := Lib.hid hp
        have HW9 := Lib.hid (HW1.out.trans hb)
        clear hp hb c0 c3
        go_wp2_with fail
        go_roundw
        case rel => exact ⟨_, _, HLT.out, by go_num, HP9, Lib.hid (acc_stepL HLT.out HS.out (by rw [HPre.out]; simp)), HW9⟩
        case measure => have := HLT.out; simp [intOf]; omega
    · obtain rfl : j = l.length := by omega
      have HE := Lib.hid (show acc ++ [41] = T by rw [← HS.out, List.drop_length, itemsL])
      go_wp2_with fail
      refine (wb_any p _ b _ 41 _ HP0.out (by have := hac.out; omega) (by decide) (by decide)).mono ?_
      rintro e w9 ⟨rfl, hp, hb, _⟩
      have HP9 := Lib.hid hp
      have HW9 := Lib.hid (HW0.out.trans hb)
      clear hp hb c0 c3
      go_wp2_with fail
      go_end0
      exact ⟨rfl, by rw [← HE.out]; exact HP9.out, HW9.out⟩

set_option maxRecDepth 400000 in
set_option maxHeartbeats 4000000 in
theorem items_7 (p : Bool) (n : Int) (t : ByteArray) (l : List Dat) (q : Addr) (A : Option Addr) (c b : Nat) (a0 : List UInt8) (w0 w : World) (hD : DatAt w0 q ⟨7, n, t, l⟩ A c) (hbw : Below w0.heap.size w0 w) (hP : Prn p w0.heap.size b a0 w)
    (hlen : (a0 ++ itemsL true true l p).length ≤ 1000000000)
    (ih : ∀ x : Dat, x ∈ l → ∀ (q : Addr) (A : Option Addr) (c : Nat), DatAt w0 q x A c → ∀ (acc : List UInt8) (w : World), Below w0.heap.size w0 w → Prn p w0.heap.size b acc w → acc.length + (txtD x p).length ≤ 1000000000 →
      Calls Tryd.prog 98 #[.pointer (some ⟨b, 0, none⟩), .pointer (some q)] w (PrnTo p w0.heap.size b (acc ++ txtD x p) w)) :
    Calls Tryd.prog 117 #[.pointer (some ⟨b, 0, none⟩), .pointer (some q)] w (PrnTo p w0.heap.size b (a0 ++ itemsL true true l p) w) := by
  obtain ⟨T, hT⟩ : ∃ T, T = a0 ++ itemsL true true l p := ⟨_, rfl⟩
  rw [← hT] at hlen ⊢
  have h63 : l.length ≤ 9223372036854775807 := hD.items.2.1
  have hq := Lib.hid (World.block_lt_of_cell? w0 _ hD.c0)
  have k0 := Lib.hid hD.c0
  have k3 := Lib.hid hD.c3
  have hIt := Lib.hid hD.items
  have HIH := Lib.hid ih
  have HT := Lib.hid hT
  have HL := Lib.hid hlen
  have HB00 := Lib.hid hbw
  have HP00 := Lib.hid hP
  have c0 := (hbw.cell (p := q) hq.out).trans k0.out
  have c3 := (hbw.cell (p := ⟨q.block, q.off + 3, none⟩) hq.out).trans k3.out
  clear hT hlen ih hD hbw hP
  go_enter Tryd.func117, Tryd.ntmps117
  go_wp2_with fail
  clear c0 c3
  go_loopw [17] (fun i wr => ∃ (j : Nat) (acc : List UInt8), j ≤ l.length ∧ i = .int .i64 (j : Nat) ∧ Hid (Prn p w0.heap.size b acc wr) ∧ Hid (acc ++ itemsL true (j == 0) (l.drop j) p = T) ∧ Hid (Below w0.heap.size w wr)) (fun i _ => l.length - (intOf i).toNat)
  case atStart => exact ⟨0, a0, Nat.zero_le _, rfl, HP00, Lib.hid (by rw [HT.out]; rfl), Lib.hid (Below.refl _ _)⟩
  case round =>
    obtain ⟨j, acc, hj, rfl, HP0, HS, HW0⟩ := hrel
    have HB0 := Lib.hid (HB00.out.trans HW0.out)
    have c0 := (HB0.out.cell (p := q) hq.out).trans k0.out
    have c3 := (HB0.out.cell (p := ⟨q.block, q.off + 3, none⟩) hq.out).trans k3.out
    have hac : Hid (acc.length ≤ 1000000000) := by
      have h1 := HL.out
      have h2 := congrArg List.length HS.out
      rw [List.length_append] at h2
      exact Lib.hid (by omega)
    by_cases hlt : j < l.length
    · obtain ⟨ad, rfl, A', c', hDj⟩ := dat_item hIt.out j hlt hlt
      have hyl : Hid (acc.length + (preL true (j == 0) (decide (l.drop (j + 1) = []))).length + (txtD l[j] p).length ≤ 1000000000) := by
        have h1 := HL.out
        have h2 := congrArg List.length HS.out
        rw [List.drop_eq_getElem_cons hlt, items_next] at h2
        simp only [List.length_append] at h2
        exact Lib.hid (by omega)
      have HIX := Lib.hid (HIH.out l[j] (List.getElem_mem hlt) _ A' c' hDj)
      have HLT := Lib.hid hlt
      clear hDj
      by_cases h0 : j = 0
      · have h1 : (j : Int) ≤ 0 := by omega
        have hz : (j == 0) = true := by simpa using h0
        by_cases hla : l.length = j + 1
        · have tl : ((j : Int) == (l.length : Int) - 1) = true := by rw [beq_iff_eq]; omega
          have HPre := Lib.hid (show preL true (j == 0) (decide (l.drop (j + 1) = [])) = [46, 32] by rw [decide_eq_true (drop_last.2 (by omega)), hz]; rfl)
          clear hla hz h0
          go_wp2_with fail
          refine (ws_any p _ b _ ⟨#[46, 32]⟩ _ HP0.out (by show _ + 2 ≤ _; have := hac.out; simp; omega)).mono ?_
          rintro e w1 ⟨rfl, hp, hb, _⟩
          have HP1 := Lib.hid hp
          have HB1 := Lib.hid (HB0.out.trans hb)
          have HW1 := Lib.hid (HW0.out.trans hb)
          have e0 := (HB1.out.cell (p := q) hq.out).trans k0.out
          have e3 := (HB1.out.cell (p := ⟨q.block, q.off + 3, none⟩) hq.out).trans k3.out
          clear hp hb c0 c3
          have c0 := e0
          have c3 := e3
          clear e0 e3
          go_wp2_with fail
          refine (HIX.out _ _ (HB1.out) HP1.out (by have h1 := hac.out; have h2 := hyl.out; rw [HPre.out] at h2; simp at h2 ⊢; omega)).mono ?_
          rintro e w9 ⟨rfl, hp, hb⟩
          have HP9 := Lib.hid hp
          have HW9 := Lib.hid (HW1.out.trans hb)
          clear hp hb c0 c3
          go_wp2_with fail
          go_roundw
          case rel => exact ⟨_, _, HLT.out, by go_num, HP9, Lib.hid (acc_stepL HLT.out HS.out (by rw [HPre.out]; simp)), HW9⟩
          case measure => have := HLT.out; simp [intOf]; omega
        · have tl : ((j : Int) == (l.length : Int) - 1) = false := by rw [beq_eq_false_iff_ne]; omega
          have HPre := Lib.hid (show preL true (j == 0) (decide (l.drop (j + 1) = [])) = [] by rw [decide_eq_false (fun e => by have := drop_last.1 e; omega), hz]; rfl)
          clear hla hz h0
          go_wp2_with fail
          refine (HIX.out _ _ (HB0.out) HP0.out (by have h1 := hac.out; have h2 := hyl.out; rw [HPre.out] at h2; simp at h2 ⊢; omega)).mono ?_
          rintro e w9 ⟨rfl, hp, hb⟩
          have HP9 := Lib.hid hp
          have HW9 := Lib.hid (HW0.out.trans hb)
          clear hp hb c0 c3
          go_wp2_with fail
          go_roundw
          case rel => exact ⟨_, _, HLT.out, by go_num, HP9, Lib.hid (acc_stepL HLT.out HS.out (by rw [HPre.out]; simp)), HW9⟩
          case measure => have := HLT.out; simp [intOf]; omega
      · have h1 : (0 : Int) < j := by omega
        have hz : (j == 0) = false := by simpa using h0
        by_cases hla : l.length = j + 1
        · have tl : ((j : Int) == (l.length : Int) - 1) = true := by rw [beq_iff_eq]; omega
          have HPre := Lib.hid (show preL true (j == 0) (decide (l.drop (j + 1) = [])) = [32, 46, 32] by rw [decide_eq_true (drop_last.2 (by omega)), hz]; rfl)
          clear hla hz h0
          go_wp2_with fail
          refine (wb_any p _ b _ 32 _ HP0.out (by have := hac.out; omega) (by decide) (by decide)).mono ?_
          rintro e w1 ⟨rfl, hp, hb, _⟩
          have HP1 := Lib.hid hp
          have HB1 := Lib.hid (HB0.out.trans hb)
          have HW1 := Lib.hid (HW0.out.trans hb)
          have e0 := (HB1.out.cell (p := q) hq.out).trans k0.out
          have e3 := (HB1.out.cell (p := ⟨q.block, q.off + 3, none⟩) hq.out).trans k3.out
          clear hp hb c0 c3
          have c0 := e0
          have c3 := e3
          clear e0 e3
          go_wp2_with fail
          refine (ws_any p _ b _ ⟨#[46, 32]⟩ _ HP1.out (by show _ + 2 ≤ _; have := hac.out; simp; omega)).mono ?_
          rintro e w2 ⟨rfl, hp, hb, _⟩
          have HP2 := Lib.hid hp
          have HB2 := Lib.hid (HB1.out.trans hb)
          have HW2 := Lib.hid (HW1.out.trans hb)
          have e0 := (HB2.out.cell (p := q) hq.out).trans k0.out
          have e3 := (HB2.out.cell (p := ⟨q.block, q.off + 3, none⟩) hq.out).trans k3.out
          clear hp hb c0 c3
          have c0 := e0
          have c3 := e3
          clear e0 e3
          go_wp2_with fail
          refine (HIX.out _ _ (HB2.out) HP2.out (by have h1 := hac.out; have h2 := hyl.out; rw [HPre.out] at h2; simp at h2 ⊢; omega)).mono ?_
          rintro e w9 ⟨rfl, hp, hb⟩
          have HP9 := Lib.hid hp
          have HW9 := Lib.hid (HW2.out.trans hb)
          clear hp hb c0 c3
          go_wp2_with fail
          go_roundw
          case rel => exact ⟨_, _, HLT.out, by go_num, HP9, Lib.hid (acc_stepL HLT.out HS.out (by rw [HPre.out]; simp)), HW9⟩
          case measure => have := HLT.out; simp [intOf]; omega
        · have tl : ((j : Int) == (l.length : Int) - 1) = false := by rw [beq_eq_false_iff_ne]; omega
          have HPre := Lib.hid (show preL true (j == 0) (decide (l.drop (j + 1) = [])) = [32] by rw [decide_eq_false (fun e => by have := drop_last.1 e; omega), hz]; rfl)
          clear hla hz h0
          go_wp2_with fail
          refine (wb_any p _ b _ 32 _ HP0.out (by have := hac.out; omega) (by decide) (by decide)).mono ?_
          rintro e w1 ⟨rfl, hp, hb, _⟩
          have HP1 := Lib.hid hp
          have HB1 := Lib.hid (HB0.out.trans hb)
          have HW1 := Lib.hid (HW0.out.trans hb)
          have e0 := (HB1.out.cell (p := q) hq.out).trans k0.out
          have e3 := (HB1.out.cell (p := ⟨q.block, q.off + 3, none⟩) hq.out).trans k3.out
          clear hp hb c0 c3
          have c0 := e0
          have c3 := e3
          clear e0 e3
          go_wp2_with fail
          refine (HIX.out _ _ (HB1.out) HP1.out (by have h1 := hac.out; have h2 := hyl.out; rw [HPre.out] at h2; simp at h2 ⊢; omega)).mono ?_
          rintro e w9 ⟨rfl, hp, hb⟩
          have HP9 := Lib.hid hp
          have HW9 := Lib.hid (HW1.out.trans hb)
          clear hp hb c0 c3
          go_wp2_with fail
          go_roundw
          case rel => exact ⟨_, _, HLT.out, by go_num, HP9, Lib.hid (acc_stepL HLT.out HS.out (by rw [HPre.out]; simp)), HW9⟩
          case measure => have := HLT.out; simp [intOf]; omega
    · obtain rfl : j = l.length := by omega
      have HE := Lib.hid (show acc ++ [41] = T by rw [← HS.out, List.drop_length, itemsL])
      go_wp2_with fail
      refine (wb_any p _ b _ 41 _ HP0.out (by have := hac.out; omega) (by decide) (by decide)).mono ?_
      rintro e w9 ⟨rfl, hp, hb, _⟩
      have HP9 := Lib.hid hp
      have HW9 := Lib.hid (HW0.out.trans hb)
      clear hp hb c0 c3
      go_wp2_with fail
      go_end0
      exact ⟨rfl, by rw [← HE.out]; exact HP9.out, HW9.out⟩

set_option maxRecDepth 400000 in
set_option maxHeartbeats 4000000 in
theorem dat_6 (p : Bool) (n : Int) (t : ByteArray) (l : List Dat) (q : Addr) (A : Option Addr) (c b : Nat) (a0 : List UInt8) (w0 w : World) (hD : DatAt w0 q ⟨6, n, t, l⟩ A c) (hbw : Below w0.heap.size w0 w) (hP : Prn p w0.heap.size b a0 w)
    (hlen : a0.length + ([40] ++ itemsL false true l p).length ≤ 1000000000)
    (ih : ∀ x : Dat, x ∈ l → ∀ (q : Addr) (A : Option Addr) (c : Nat), DatAt w0 q x A c → ∀ (acc : List UInt8) (w : World), Below w0.heap.size w0 w → Prn p w0.heap.size b acc w → acc.length + (txtD x p).length ≤ 1000000000 →
      Calls Tryd.prog 98 #[.pointer (some ⟨b, 0, none⟩), .pointer (some q)] w (PrnTo p w0.heap.size b (acc ++ txtD x p) w)) :
    Calls Tryd.prog 98 #[.pointer (some ⟨b, 0, none⟩), .pointer (some q)] w (PrnTo p w0.heap.size b (a0 ++ ([40] ++ itemsL false true l p)) w) := by
  have hq := World.block_lt_of_cell? w0 _ hD.c0
  have c0 := (hbw.cell (p := q) hq).trans hD.c0
  have HP0 := Lib.hid hP
  have HB0 := Lib.hid hbw
  have HW0 := Lib.hid (Below.refl w0.heap.size w)
  have HL := Lib.hid hlen
  have HI := Lib.hid (fun (acc : List UInt8) (w : World) h1 h2 h3 => items_6 p n t l q A c b acc w0 w hD h1 h2 h3 ih)
  clear hD hbw hP hlen ih hq
  go_enter Tryd.func98, Tryd.ntmps98
  go_wp2_with fail
  refine (wb_any p _ b _ 40 _ HP0.out (by have := HL.out; simp at this ⊢; omega) (by decide) (by decide)).mono ?_
  rintro e w1 ⟨rfl, hp, hb, _⟩
  have HP1 := Lib.hid hp
  have HB1 := Lib.hid (HB0.out.trans hb)
  have HW1 := Lib.hid (HW0.out.trans hb)
  clear hp hb
  go_wp2_with fail
  refine (HI.out _ _ HB1.out HP1.out (by have := HL.out; simp at this ⊢; omega)).mono ?_
  rintro e w9 ⟨rfl, hp, hb⟩
  have HP9 := Lib.hid hp
  have HW9 := Lib.hid (HW1.out.trans hb)
  clear hp hb
  go_wp2_with fail
  go_end0
  exact ⟨rfl, by simpa using HP9.out, HW9.out⟩

set_option maxRecDepth 400000 in
set_option maxHeartbeats 4000000 in
theorem dat_8 (p : Bool) (n : Int) (t : ByteArray) (l : List Dat) (q : Addr) (A : Option Addr) (c b : Nat) (a0 : List UInt8) (w0 w : World) (hD : DatAt w0 q ⟨8, n, t, l⟩ A c) (hbw : Below w0.heap.size w0 w) (hP : Prn p w0.heap.size b a0 w)
    (hlen : a0.length + ([35, 40] ++ itemsL false true l p).length ≤ 1000000000)
    (ih : ∀ x : Dat, x ∈ l → ∀ (q : Addr) (A : Option Addr) (c : Nat), DatAt w0 q x A c → ∀ (acc : List UInt8) (w : World), Below w0.heap.size w0 w → Prn p w0.heap.size b acc w → acc.length + (txtD x p).length ≤ 1000000000 →
      Calls Tryd.prog 98 #[.pointer (some ⟨b, 0, none⟩), .pointer (some q)] w (PrnTo p w0.heap.size b (acc ++ txtD x p) w)) :
    Calls Tryd.prog 98 #[.pointer (some ⟨b, 0, none⟩), .pointer (some q)] w (PrnTo p w0.heap.size b (a0 ++ ([35, 40] ++ itemsL false true l p)) w) := by
  have hq := World.block_lt_of_cell? w0 _ hD.c0
  have c0 := (hbw.cell (p := q) hq).trans hD.c0
  have HP0 := Lib.hid hP
  have HB0 := Lib.hid hbw
  have HW0 := Lib.hid (Below.refl w0.heap.size w)
  have HL := Lib.hid hlen
  have HI := Lib.hid (fun (acc : List UInt8) (w : World) h1 h2 h3 => items_8 p n t l q A c b acc w0 w hD h1 h2 h3 ih)
  clear hD hbw hP hlen ih hq
  go_enter Tryd.func98, Tryd.ntmps98
  go_wp2_with fail
  refine (wb_any p _ b _ 35 _ HP0.out (by have := HL.out; simp at this ⊢; omega) (by decide) (by decide)).mono ?_
  rintro e w1 ⟨rfl, hp, hb, _⟩
  have HP1 := Lib.hid hp
  have HB1 := Lib.hid (HB0.out.trans hb)
  have HW1 := Lib.hid (HW0.out.trans hb)
  clear hp hb
  go_wp2_with fail
  refine (wb_any p _ b _ 40 _ HP1.out (by have := HL.out; simp at this ⊢; omega) (by decide) (by decide)).mono ?_
  rintro e w2 ⟨rfl, hp, hb, _⟩
  have HP2 := Lib.hid hp
  have HB2 := Lib.hid (HB1.out.trans hb)
  have HW2 := Lib.hid (HW1.out.trans hb)
  clear hp hb
  go_wp2_with fail
  refine (HI.out _ _ HB2.out HP2.out (by have := HL.out; simp at this ⊢; omega)).mono ?_
  rintro e w9 ⟨rfl, hp, hb⟩
  have HP9 := Lib.hid hp
  have HW9 := Lib.hid (HW2.out.trans hb)
  clear hp hb
  go_wp2_with fail
  go_end0
  exact ⟨rfl, by simpa using HP9.out, HW9.out⟩

set_option maxRecDepth 400000 in
set_option maxHeartbeats 4000000 in
theorem dat_7 (p : Bool) (n : Int) (t : ByteArray) (l : List Dat) (q : Addr) (A : Option Addr) (c b : Nat) (a0 : List UInt8) (w0 w : World) (hD : DatAt w0 q ⟨7, n, t, l⟩ A c) (hbw : Below w0.heap.size w0 w) (hP : Prn p w0.heap.size b a0 w)
    (hlen : a0.length + ([40] ++ itemsL true true l p).length ≤ 1000000000)
    (ih : ∀ x : Dat, x ∈ l → ∀ (q : Addr) (A : Option Addr) (c : Nat), DatAt w0 q x A c → ∀ (acc : List UInt8) (w : World), Below w0.heap.size w0 w → Prn p w0.heap.size b acc w → acc.length + (txtD x p).length ≤ 1000000000 →
      Calls Tryd.prog 98 #[.pointer (some ⟨b, 0, none⟩), .pointer (some q)] w (PrnTo p w0.heap.size b (acc ++ txtD x p) w)) :
    Calls Tryd.prog 98 #[.pointer (some ⟨b, 0, none⟩), .pointer (some q)] w (PrnTo p w0.heap.size b (a0 ++ ([40] ++ itemsL true true l p)) w) := by
  have hq := World.block_lt_of_cell? w0 _ hD.c0
  have c0 := (hbw.cell (p := q) hq).trans hD.c0
  have HP0 := Lib.hid hP
  have HB0 := Lib.hid hbw
  have HW0 := Lib.hid (Below.refl w0.heap.size w)
  have HL := Lib.hid hlen
  have HI := Lib.hid (fun (acc : List UInt8) (w : World) h1 h2 h3 => items_7 p n t l q A c b acc w0 w hD h1 h2 h3 ih)
  clear hD hbw hP hlen ih hq
  go_enter Tryd.func98, Tryd.ntmps98
  go_wp2_with fail
  refine (wb_any p _ b _ 40 _ HP0.out (by have := HL.out; simp at this ⊢; omega) (by decide) (by decide)).mono ?_
  rintro e w1 ⟨rfl, hp, hb, _⟩
  have HP1 := Lib.hid hp
  have HB1 := Lib.hid (HB0.out.trans hb)
  have HW1 := Lib.hid (HW0.out.trans hb)
  clear hp hb
  go_wp2_with fail
  refine (HI.out _ _ HB1.out HP1.out (by have := HL.out; simp at this ⊢; omega)).mono ?_
  rintro e w9 ⟨rfl, hp, hb⟩
  have HP9 := Lib.hid hp
  have HW9 := Lib.hid (HW1.out.trans hb)
  clear hp hb
  go_wp2_with fail
  go_end0
  exact ⟨rfl, by simpa using HP9.out, HW9.out⟩

theorem datum_any (p : Bool) (b : Nat) (w0 : World) (htab : Tab w0) (m : Nat) : ∀ x : Dat, szD x < m → ∀ (wi : Nat), fitsD x wi = true → ∀ (q : Addr) (A : Option Addr) (c : Nat), DatAt w0 q x A c → ∀ (acc : List UInt8) (w : World), Below w0.heap.size w0 w → Prn p w0.heap.size b acc w → acc.length + (txtD x p).length ≤ 1000000000 →
    Calls Tryd.prog 98 #[.pointer (some ⟨b, 0, none⟩), .pointer (some q)] w (PrnTo p w0.heap.size b (acc ++ txtD x p) w) := by
  induction m with
  | zero => intro x h; omega
  | succ m ih =>
    intro x hx wi hf q A c hD acc w hbw hP hlen
    have hxs : ∀ y ∈ x.f3, szD y < m := fun y hy => by have := dat_lt hy; omega
    have hq := World.block_lt_of_cell? w0 _ hD.c0
    have hDw := hD.below hbw
    have htw := tab_below htab hbw
    obtain ⟨k, n, t, l⟩ := x
    rw [fitsD] at hf
    rw [txtD] at hlen ⊢
    simp only [Bool.and_eq_true] at hf
    obtain ⟨_, hf⟩ := hf
    have hfl := fun h => fitsL_mem (l := l) (wi := wi + 1) h
    have hac : acc.length ≤ 100000000000000 := by omega
    by_cases k1 : k = 1
    · subst k1
      rw [if_pos rfl] at hf ⊢
      simp only [Bool.and_eq_true, decide_eq_true_eq] at hf
      exact dat_1 p _ b acc n t l q A c w hDw hP (by omega) (by omega) hac htw hq
    rw [if_neg k1] at hf hlen ⊢
    by_cases k2 : k = 2
    · subst k2
      rw [if_pos rfl] at hf ⊢
      simp only [Bool.and_eq_true, Bool.or_eq_true, beq_iff_eq] at hf
      rcases hf.2 with rfl | rfl
      · exact dat_20 p _ b acc t l q A c w hDw hP hac hq
      · exact dat_21 p _ b acc t l q A c w hDw hP hac hq
    rw [if_neg k2] at hf hlen ⊢
    by_cases k3 : k = 3
    · subst k3
      rw [if_pos rfl] at hf ⊢
      simp only [Bool.and_eq_true, decide_eq_true_eq] at hf
      cases p
      · exact dat_3 false _ b acc n t l q A c w hDw hP hac hq rfl
      · exact dat_3p true _ b acc n t l q A c w hDw hP hac hq rfl hf.2.1 hf.2.2
    rw [if_neg k3] at hf hlen ⊢
    by_cases k4 : k = 4
    · subst k4
      rw [if_pos rfl] at hf ⊢
      simp only [Bool.and_eq_true, decide_eq_true_eq] at hf
      exact dat_4 p _ b acc n t l q A c w hDw hP hac hf.2
    rw [if_neg k4] at hf hlen ⊢
    by_cases k5 : k = 5
    · subst k5
      rw [if_pos rfl] at hf ⊢
      simp only [Bool.and_eq_true] at hf
      have h5 := hf.2
      unfold symL at h5
      simp only [Bool.and_eq_true, decide_eq_true_eq] at h5
      have e : t.size = t.data.toList.length := by simp
      exact dat_5 p _ b acc n t l q A c w hDw hP hac hq (by omega)
    rw [if_neg k5] at hf hlen ⊢
    by_cases k7 : k = 7
    · subst k7
      rw [if_pos rfl] at hf
      simp only [Bool.and_eq_true] at hf
      have hi := hfl hf.1.1.2
      exact dat_7 p n t l q A c b acc w0 w hD hbw hP hlen (fun x hx q A c hD acc w h1 h2 h3 => ih x (hxs x hx) (wi + 1) (hi x hx) q A c hD acc w h1 h2 h3)
    rw [if_neg k7] at hf
    by_cases k6 : k = 6
    · subst k6
      rw [if_pos (.inl rfl)] at hf
      simp only [Bool.and_eq_true] at hf
      have hi := hfl hf.1.1
      exact dat_6 p n t l q A c b acc w0 w hD hbw hP hlen (fun x hx q A c hD acc w h1 h2 h3 => ih x (hxs x hx) (wi + 1) (hi x hx) q A c hD acc w h1 h2 h3)
    by_cases k8 : k = 8
    · subst k8
      rw [if_pos (.inr rfl)] at hf
      simp only [Bool.and_eq_true] at hf
      have hi := hfl hf.1.1
      exact dat_8 p n t l q A c b acc w0 w hD hbw hP hlen (fun x hx q A c hD acc w h1 h2 h3 => ih x (hxs x hx) (wi + 1) (hi x hx) q A c hD acc w h1 h2 h3)
    rw [if_neg (by rintro (h | h); exact k6 h; exact k8 h)] at hf
    cases hf
end Go.Proofs.YthighbbikpnpgaaDoor

/-! ShI -/
namespace Go.Proofs.YthighbbikpnpgaaDoor
open Go.RowKit Go.Proofs.YthighbbikpnpgaaDoor.PSh Go.Proofs.YthighbbikpnpgaaDoorW.PrintWords

def textV (x : Dat) (p : Bool) : Value := if rightD x = true then .tuple #[.string ⟨(txtD x p).toArray⟩, .nilIface] else .tuple #[.string ⟨#[]⟩, kindV 7]
def TextTo (x : Dat) (p : Bool) (w : World) (e : Ending) (w' : World) : Prop := e = .returned (textV x p) ∧ Below w.heap.size w w'

theorem right_len {x : Dat} (h : rightD x = true) (p : Bool) : fitsD x 0 = true ∧ (txtD x p).length ≤ 100000000 := by
  unfold rightD at h
  simp only [Bool.and_eq_true, decide_eq_true_eq] at h
  have h1 := txt_len (szD x + 1) x (by omega) 0 p h.2
  have h2 := cnt_prt (szD x + 1) x (by omega) 0 (by omega)
  exact ⟨h.2, by omega⟩

set_option maxRecDepth 16000 in
set_option maxHeartbeats 2000000 in
theorem show_text (x : Dat) (p : Bool) (A : Option Addr) (c : Nat) (w : World) (hl : x.f3.length ≤ c) (hC : Kd.C kD w A x.f3.length x.f3) (htab : Tab w) :
    Calls Tryd.prog 71 #[.agg #[.int .i64 x.f0, .int .i64 x.f1, .string x.f2, .slice A x.f3.length c], .bool p] w (TextTo x p w) := by
  obtain ⟨W1, hW1⟩ : ∃ W1, W1 = w.alloc (.cells #[.int .i64 x.f0, .int .i64 x.f1, .string x.f2, .slice A x.f3.length c] 84) := ⟨_, rfl⟩
  have hbox := fun (w' : World) (hb : Below W1.heap.size W1 w') => dat_box w x A c hl hC w' (by rw [← hW1]; exact hb)
  have HBX := Lib.hid hbox
  have hb1 : Below w.heap.size w W1 := by rw [hW1]; exact (Below.refl _ _).alloc (Nat.le_refl _) _
  have cC := Lib.hid (fun w' hb => check_any x A c w' hl (Kd.C_below hC hb))
  have HTab := Lib.hid htab
  have d := hbox W1 (Below.refl _ _)
  have c0 := d.c0
  have c1 := d.c1
  have c2 := d.c2
  have c3 := d.c3
  simp only [Nat.zero_add] at c1 c2 c3
  clear hbox hC d htab
  rw [hW1] at c0 c1 c2 c3
  have HW := Lib.hid hW1
  have hR : rightD x = true ∨ rightD x = false := by cases rightD x <;> simp
  rcases hR with hR | hR
  · have HV := Lib.hid (show textV x p = .tuple #[.string ⟨(txtD x p).toArray⟩, .nilIface] by rw [textV, if_pos hR])
    have HL := Lib.hid (right_len hR p)
    have cC2 : Hid (∀ w', Below w.heap.size w w' → Calls Tryd.prog 97 #[.agg #[.int .i64 x.f0, .int .i64 x.f1, .string x.f2, .slice A x.f3.length c]] w' fun e w'' => e = .returned .nilIface ∧ Below w'.heap.size w' w'') := by
      intro w' hb
      have := cC.out w' hb
      rw [hR] at this
      exact this
    clear cC hR
    have HP := Lib.hid (fun (w2 : World) => bld_fresh PT [.bool p] w2 w2.heap.size (Nat.le_refl _))
    go_enter Tryd.func71, Tryd.ntmps71
    go_wp2_with fail
    refine (cC2.out _ (by rw [← HW.out]; exact hb1)).mono ?_
    rintro e w2 ⟨rfl, hb2⟩
    rw [← HW.out] at hb2
    have hb02 := below_trans hb1 hb2
    go_wp2_with fail
    refine (datum_any p w2.heap.size w2 (tab_below HTab.out hb02) (szD x + 1) x (by omega) 0 HL.out.1 ⟨w.heap.size, 0, none⟩ A c (HBX.out _ hb2) [] _ ((Below.refl _ _).alloc (Nat.le_refl _) _) (HP.out w2) (by have := HL.out.2; simp; omega)).mono ?_
    rintro e w3 ⟨rfl, hp3, hb3⟩
    have HP3 := Lib.hid hp3
    have hb13 : Below w.heap.size w w3 := below_trans hb02 (((Below.refl _ _).alloc (Nat.le_refl _) _).trans hb3)
    clear hp3 hb3
    go_wp2_with fail
    refine (bstring_any PT [.bool p] _ _ _ _ HP3.out).mono ?_
    rintro e w4 ⟨rfl, hb4⟩
    have hb14 : Below w.heap.size w w4 := hb13.trans (hb4.mono hb02.size)
    go_wp2_with fail
    go_ret2
    exact ⟨by rw [HV.out]; rfl, hb14⟩
  · have HV := Lib.hid (show textV x p = .tuple #[.string ⟨#[]⟩, kindV 7] by rw [textV, hR]; rfl)
    have cC2 : Hid (∀ w', Below w.heap.size w w' → Calls Tryd.prog 97 #[.agg #[.int .i64 x.f0, .int .i64 x.f1, .string x.f2, .slice A x.f3.length c]] w' fun e w'' => e = .returned (kindV 7) ∧ Below w'.heap.size w' w'') := by
      intro w' hb
      have := cC.out w' hb
      rw [hR] at this
      exact this
    clear cC hR
    go_enter Tryd.func71, Tryd.ntmps71
    go_wp2_with fail
    refine (cC2.out _ (by rw [← HW.out]; exact hb1)).mono ?_
    rintro e w2 ⟨rfl, hb2⟩
    rw [← HW.out] at hb2
    go_wp2_with fail
    go_ret2
    exact ⟨by rw [HV.out]; rfl, below_trans hb1 hb2⟩

set_option maxRecDepth 16000 in
theorem write_any (x : Dat) (A : Option Addr) (c : Nat) (w : World) (hl : x.f3.length ≤ c) (hC : Kd.C kD w A x.f3.length x.f3) (htab : Tab w) :
    Calls Tryd.prog 43 #[.agg #[.int .i64 x.f0, .int .i64 x.f1, .string x.f2, .slice A x.f3.length c]] w (TextTo x false w) := by
  have cT : Hid (∀ w', Below w.heap.size w w' → Calls Tryd.prog 71 #[.agg #[.int .i64 x.f0, .int .i64 x.f1, .string x.f2, .slice A x.f3.length c], .bool false] w' fun e w'' => e = .returned (textV x false) ∧ Below w'.heap.size w' w'') := fun w' hb => show_text x false A c w' hl (Kd.C_below hC hb) (tab_below htab hb)
  have hV : ∃ a b, textV x false = .tuple #[.string a, b] := by unfold textV; split <;> exact ⟨_, _, rfl⟩
  obtain ⟨a, b, hV⟩ := hV
  have HV := Lib.hid hV
  have hb1 : Below w.heap.size w (w.alloc (.cells #[.int .i64 x.f0, .int .i64 x.f1, .string x.f2, .slice A x.f3.length c] 84)) := (Below.refl _ _).alloc (Nat.le_refl _) _
  rw [hV] at cT
  clear hC htab hV
  go_enter Tryd.func43, Tryd.ntmps43
  go_wp2_with fail
  refine (cT.out _ hb1).mono ?_
  rintro e w2 ⟨rfl, hb2⟩
  go_wp2_with fail
  go_ret2
  exact ⟨by rw [HV.out]; rfl, below_trans hb1 hb2⟩

set_option maxRecDepth 16000 in
theorem display_any (x : Dat) (A : Option Addr) (c : Nat) (w : World) (hl : x.f3.length ≤ c) (hC : Kd.C kD w A x.f3.length x.f3) (htab : Tab w) :
    Calls Tryd.prog 45 #[.agg #[.int .i64 x.f0, .int .i64 x.f1, .string x.f2, .slice A x.f3.length c]] w (TextTo x true w) := by
  have cT : Hid (∀ w', Below w.heap.size w w' → Calls Tryd.prog 71 #[.agg #[.int .i64 x.f0, .int .i64 x.f1, .string x.f2, .slice A x.f3.length c], .bool true] w' fun e w'' => e = .returned (textV x true) ∧ Below w'.heap.size w' w'') := fun w' hb => show_text x true A c w' hl (Kd.C_below hC hb) (tab_below htab hb)
  have hV : ∃ a b, textV x true = .tuple #[.string a, b] := by unfold textV; split <;> exact ⟨_, _, rfl⟩
  obtain ⟨a, b, hV⟩ := hV
  have HV := Lib.hid hV
  have hb1 : Below w.heap.size w (w.alloc (.cells #[.int .i64 x.f0, .int .i64 x.f1, .string x.f2, .slice A x.f3.length c] 84)) := (Below.refl _ _).alloc (Nat.le_refl _) _
  rw [hV] at cT
  clear hC htab hV
  go_enter Tryd.func45, Tryd.ntmps45
  go_wp2_with fail
  refine (cT.out _ hb1).mono ?_
  rintro e w2 ⟨rfl, hb2⟩
  go_wp2_with fail
  go_ret2
  exact ⟨by rw [HV.out]; rfl, below_trans hb1 hb2⟩
end Go.Proofs.YthighbbikpnpgaaDoor

/-! ShJ -/
namespace Go.Proofs.YthighbbikpnpgaaDoor
open Go.RowKit Go.Proofs.YthighbbikpnpgaaDoor.PSh Go.Proofs.YthighbbikpnpgaaDoorW.PrintWords

theorem row_none (w : World) (A : Option Addr) : Kd.C kD w A 0 [] := ⟨rfl, by omega, fun h => by omega⟩
theorem kd_sz : kD.sz = 4 := rfl

/-- A row of two leaves, in a block of its own. -/
theorem row_two (w : World) (g : Nat) (x y : Dat) (hx : x.f3 = []) (hy : y.f3 = []) (vx vy : Option Addr) (cx cy : Nat) (T : TypeId)
    (h : w.heap[g]? = some (.cells #[.int .i64 x.f0, .int .i64 x.f1, .string x.f2, .slice vx 0 cx, .int .i64 y.f0, .int .i64 y.f1, .string y.f2, .slice vy 0 cy] T (0, 0))) : Kd.C kD w (some ⟨g, 0, none⟩) 2 [x, y] := by
  have hc : ∀ j, w.cell? ((⟨g, 0, none⟩ : Addr).add j) = #[Value.int .i64 x.f0, .int .i64 x.f1, .string x.f2, .slice vx 0 cx, .int .i64 y.f0, .int .i64 y.f1, .string y.f2, .slice vy 0 cy][j]? := by
    intro j
    rw [add_zero_off, cell_of_row w g _ _ _ (0, 0) h]
  refine ⟨rfl, by omega, fun _ => ⟨_, rfl, fun j p hj => ?_⟩⟩
  have kx : kD.K w x [.int .i64 x.f0, .int .i64 x.f1, .string x.f2, .slice vx 0 cx] := by
    have := k84_mk w x (A3 := vx) (c3 := cx) (by rw [hx]; exact Nat.zero_le _) (by rw [hx]; exact row_none w vx)
    rwa [hx] at this
  have ky : kD.K w y [.int .i64 y.f0, .int .i64 y.f1, .string y.f2, .slice vy 0 cy] := by
    have := k84_mk w y (A3 := vy) (c3 := cy) (by rw [hy]; exact Nat.zero_le _) (by rw [hy]; exact row_none w vy)
    rwa [hy] at this
  match j, hj with
  | 0, hj =>
    cases hj
    refine ⟨_, rfl, kx, fun i u hu => ?_⟩
    rw [kd_sz, show 0 * 4 + i = i by omega, hc]
    match i, hu with
    | 0, hu => exact hu
    | 1, hu => exact hu
    | 2, hu => exact hu
    | 3, hu => exact hu
    | i + 4, hu => simp at hu
  | 1, hj =>
    cases hj
    refine ⟨_, rfl, ky, fun i u hu => ?_⟩
    rw [kd_sz, show 1 * 4 + i = i + 4 by omega, hc]
    match i, hu with
    | 0, hu => exact hu
    | 1, hu => exact hu
    | 2, hu => exact hu
    | 3, hu => exact hu
    | i + 4, hu => simp at hu
  | j + 2, hj => simp at hj

def aw1 : Dat := ⟨4, 0, ⟨#[97, 34, 98]⟩, []⟩
def aw2 : Dat := ⟨3, 32, ⟨#[]⟩, []⟩
def awD : Dat := ⟨7, 0, ⟨#[]⟩, [aw1, aw2]⟩
theorem aw_right : rightD awD = true := by simp [rightD, awD, aw1, aw2, cnt, cntL, fitsD, fitsL, lastK]; decide
theorem aw_write : (⟨(txtD awD false).toArray⟩ : ByteArray) = ⟨#[40, 34, 97, 92, 34, 98, 34, 32, 46, 32, 35, 92, 115, 112, 97, 99, 101, 41]⟩ := by
  simp [txtD, itemsL, awD, aw1, aw2, charL, strL, escL]
theorem aw_display : (⟨(txtD awD true).toArray⟩ : ByteArray) = ⟨#[40, 97, 34, 98, 32, 46, 32, 32, 41]⟩ := by
  simp [txtD, itemsL, awD, aw1, aw2]
theorem aw_bad : rightD zD = false := by
  simp [rightD, zD, z84, fitsD]
theorem textV_right {x : Dat} (h : rightD x = true) (p : Bool) : textV x p = .tuple #[.string ⟨(txtD x p).toArray⟩, .nilIface] := by rw [textV, if_pos h]
theorem textV_bad {x : Dat} (h : rightD x = false) (p : Bool) : textV x p = .tuple #[.string ⟨#[]⟩, kindV 7] := by rw [textV, h]; rfl

def awW (W : World) : World := (W.alloc (.cells #[.int .i64 4, .int .i64 0, .string ⟨#[97, 34, 98]⟩, .slice none 0 0, .int .i64 3, .int .i64 32, .string ⟨#[]⟩, .slice none 0 0] 84)).alloc
  (.cells #[.int .i64 7, .int .i64 0, .string ⟨#[]⟩, .slice (some ⟨W.heap.size, 0, none⟩) 2 2] 84)
theorem awW_below (W : World) : Below W.heap.size W (awW W) := ((Below.refl _ _).alloc (Nat.le_refl _) _).alloc (by simp) _
theorem awW_row (W w : World) (hb : Below (awW W).heap.size (awW W) w) : Kd.C kD w (some ⟨W.heap.size, 0, none⟩) 2 [aw1, aw2] := by
  have h0 : (W.alloc (.cells #[.int .i64 4, .int .i64 0, .string ⟨#[97, 34, 98]⟩, .slice none 0 0, .int .i64 3, .int .i64 32, .string ⟨#[]⟩, .slice none 0 0] 84)).heap[W.heap.size]? = some (.cells #[.int .i64 4, .int .i64 0, .string ⟨#[97, 34, 98]⟩, .slice none 0 0, .int .i64 3, .int .i64 32, .string ⟨#[]⟩, .slice none 0 0] 84 (0, 0)) := heap_alloc_new W _
  have h1 : (awW W).heap[W.heap.size]? = _ := (RowKit.Below.heap_alloc _ _ _ (by simp)).trans h0
  exact row_two w W.heap.size aw1 aw2 rfl rfl none none 0 0 84 (heap_below h1 hb (by unfold awW; simp; omega))
theorem awW_cells (W w : World) (hb : Below (awW W).heap.size (awW W) w) : w.cell? ⟨W.heap.size + 1, 0, none⟩ = some (.int .i64 7) ∧ w.cell? ⟨W.heap.size + 1, 1, none⟩ = some (.int .i64 0) ∧ w.cell? ⟨W.heap.size + 1, 2, none⟩ = some (.string ⟨#[]⟩) ∧ w.cell? ⟨W.heap.size + 1, 3, none⟩ = some (.slice (some ⟨W.heap.size, 0, none⟩) 2 2) := by
  have h := box_cells (W.alloc (.cells #[.int .i64 4, .int .i64 0, .string ⟨#[97, 34, 98]⟩, .slice none 0 0, .int .i64 3, .int .i64 32, .string ⟨#[]⟩, .slice none 0 0] 84)) (.int .i64 7) (.int .i64 0) (.string ⟨#[]⟩) (.slice (some ⟨W.heap.size, 0, none⟩) 2 2) 84 w hb
  simpa using h

set_option maxRecDepth 100000 in
set_option maxHeartbeats 2000000 in
theorem awake_show (W : World) (htab : Tab W) :
    Calls Tryd.prog 41 #[] W fun e w' => e = .returned (.bool true) ∧ Below W.heap.size W w' := by
  have HTab := Lib.hid htab
  have hW := awW_below W
  have hEq : Hid (awW W = (W.alloc (.cells #[.int .i64 4, .int .i64 0, .string ⟨#[97, 34, 98]⟩, .slice none 0 0, .int .i64 3, .int .i64 32, .string ⟨#[]⟩, .slice none 0 0] 84)).alloc
    (.cells #[.int .i64 7, .int .i64 0, .string ⟨#[]⟩, .slice (some ⟨W.heap.size, 0, none⟩) 2 2] 84)) := rfl
  have HC := Lib.hid (awW_cells W)
  have HR := Lib.hid (awW_row W)
  clear htab
  go_enter Tryd.func41, Tryd.ntmps41
  go_wp2_with fail
  refine (write_any awD (some ⟨W.heap.size, 0, none⟩) 2 _ (by decide) (by rw [← hEq.out]; exact HR.out _ (Below.refl _ _)) (by rw [← hEq.out]; exact tab_below HTab.out hW)).mono ?_
  rintro e w1 ⟨rfl, hb1⟩
  rw [← hEq.out] at hb1
  rw [textV_right aw_right, aw_write]
  obtain ⟨c0, c1, c2, c3⟩ := HC.out w1 hb1
  have hb01 := below_trans hW hb1
  go_wp2_with fail
  refine (display_any awD (some ⟨W.heap.size, 0, none⟩) 2 _ (by decide) (HR.out _ hb1) (tab_below HTab.out hb01)).mono ?_
  rintro e w2 ⟨rfl, hb2⟩
  rw [textV_right aw_right, aw_display]
  have hb02 := below_trans hb01 hb2
  clear c0 c1 c2 c3
  go_wp2_with fail
  refine (write_any zD none 0 _ (by decide) (row_none _ _) (tab_below HTab.out hb02)).mono ?_
  rintro e w3 ⟨rfl, hb3⟩
  rw [textV_bad aw_bad]
  have hb03 := below_trans hb02 hb3
  go_wp2_with fail
  refine (is_kind _ _ _).mono ?_
  rintro e w' ⟨rfl, rfl⟩
  go_wp2_with fail
  refine (show_Char.calls 65 _ _ (showchar_f 65)).mono ?_
  rintro e w4 ⟨rfl, hb4⟩
  rw [show (⟨(charL 65).toArray⟩ : ByteArray) = ⟨#[35, 92, 65]⟩ from rfl]
  go_wp2_with fail
  go_ret
  exact ⟨rfl, below_trans hb03 hb4⟩
end Go.Proofs.YthighbbikpnpgaaDoor

/-! PShx1 -/
-- PRINTED by print.py (a twelfth state) out of the translation. Not trusted: Lean checks it.
namespace Go.Proofs.YthighbbikpnpgaaDoor.PSh
open Go.RowKit Go.Proofs.YthighbbikpnpgaaDoorW.PrintWords Go.Proofs.YthighbbikpnpgaaDoorW.PrintLast Go.Proofs.YthighbbikpnpgaaDoorW.PrintMore
attribute [local go_sem] max2_int min2_int max_two min_two max_three min_three max_four min_four   -- for this text's walks alone
set_option linter.unusedVariables false
set_option linter.unusedSimpArgs false

/-! ### spindleref08_Own: function 44 -/
mutual
def spindleref08_Own.l0 : Nat → List (S84) → Int → Int → Int → ByteArray → List (S84) → Option (Int × Int × ByteArray × (List (S84)))
  | 0, _, _, _, _, _, _ => none
  | k + 1, x3, x4, x102000, x102001, x102002, x102003 => if x4 < (x102003.length : Int) then (if 0 ≤ x4 then ((spindleref08_Own.f k ((rd_T84 x102003 x4).f0) ((rd_T84 x102003 x4).f1) ((rd_T84 x102003 x4).f2) ((rd_T84 x102003 x4).f3)).bind fun bt104 => (if x3.length < 2513169434916 then (spindleref08_Own.l0 k (x3 ++ [(⟨bt104.1, bt104.2.1, bt104.2.2.1, bt104.2.2.2⟩ : S84)]) (wrap64 (x4 + 1)) x102000 x102001 x102002 x102003) else (none))) else (none)) else (some (x102000, x102001, x102002, x3))
def spindleref08_Own.f : Nat → Int → Int → ByteArray → List (S84) → Option (Int × Int × ByteArray × (List (S84)))
  | 0, _, _, _, _ => none
  | k + 1, a0_0, a0_1, a0_2, l0_3 => spindleref08_Own.l0 k ([] : List (S84)) 0 a0_0 a0_1 a0_2 l0_3
end
theorem spindleref08_Own.mono_l : ∀ k, (∀ y0 y1 y2 y3, LeO (spindleref08_Own.f k y0 y1 y2 y3) (spindleref08_Own.f (k + 1) y0 y1 y2 y3)) ∧ (∀ y0 y1 y2 y3 y4 y5, LeO (spindleref08_Own.l0 k y0 y1 y2 y3 y4 y5) (spindleref08_Own.l0 (k + 1) y0 y1 y2 y3 y4 y5))
  | 0 => ⟨fun _ _ _ _ r h => by simp [spindleref08_Own.f] at h, fun _ _ _ _ _ _ r h => by simp [spindleref08_Own.l0] at h⟩
  | k + 1 => by
    obtain ⟨ih0, ih1⟩ := spindleref08_Own.mono_l k
    refine ⟨?_, ?_⟩
    · intro y0 y1 y2 y3
      unfold spindleref08_Own.f
      repeat' first
      | (with_reducible exact ih0 _ _ _ _)
      | (with_reducible exact ih1 _ _ _ _ _ _)
      | (with_reducible exact LeO.refl _)
      | (with_reducible exact LeO.none _)
      | (with_reducible refine LeO.ite ?_ ?_)
      | (with_reducible refine LeO.bind ?_ (fun _ => ?_))
      | exact ih0 _ _ _ _
      | exact ih1 _ _ _ _ _ _
      | exact LeO.none _
      | refine LeO.ite ?_ ?_
      | refine LeO.bind ?_ (fun _ => ?_)
    · intro y0 y1 y2 y3 y4 y5
      unfold spindleref08_Own.l0
      repeat' first
      | (with_reducible exact ih0 _ _ _ _)
      | (with_reducible exact ih1 _ _ _ _ _ _)
      | (with_reducible exact LeO.refl _)
      | (with_reducible exact LeO.none _)
      | (with_reducible refine LeO.ite ?_ ?_)
      | (with_reducible refine LeO.bind ?_ (fun _ => ?_))
      | exact ih0 _ _ _ _
      | exact ih1 _ _ _ _ _ _
      | exact LeO.none _
      | refine LeO.ite ?_ ?_
      | refine LeO.bind ?_ (fun _ => ?_)
theorem spindleref08_Own.mono : ∀ a0 a1 a2 a3 k, LeO (spindleref08_Own.f k a0 a1 a2 a3) (spindleref08_Own.f (k + 1) a0 a1 a2 a3) := by
  intro a0 a1 a2 a3 k
  obtain ⟨ih0, ih1⟩ := spindleref08_Own.mono_l k
  exact ih0 a0 a1 a2 a3
set_option maxHeartbeats 8000000 in
set_option maxRecDepth 100000 in
theorem spindleref08_Own.calls (k : Nat) : ∀ (a0_0 : Int) (a0_1 : Int) (a0_2 : ByteArray) (A0_3 : Option Addr) (c0_3 : Nat) (l0_3 : List (S84)) (r1 : Int) (r2 : Int) (r3 : ByteArray) (r4 : List (S84)) (w : World) (hr0_3 : Kd.C k84 w A0_3 l0_3.length l0_3) (hc0_3 : l0_3.length ≤ c0_3) (h : spindleref08_Own.f k a0_0 a0_1 a0_2 l0_3 = some (r1, r2, r3, r4)),
    Calls Tryd.prog 44 #[.agg #[.int .i64 a0_0, .int .i64 a0_1, .string a0_2, .slice A0_3 l0_3.length c0_3]] w fun e w' => ∃ v3_ : Value, e = .returned (.agg #[.int .i64 r1, .int .i64 r2, .string r3, v3_]) ∧ Kd.R k84 84 w' w.heap.size (fun _ => True) v3_ r4 ∧ Below w.heap.size w w' := by
  induction k using Nat.strongRecOn with
  | _ k ih =>
  intro a0_0 a0_1 a0_2 A0_3 c0_3 l0_3 r1 r2 r3 r4 w hr0_3 hc0_3 h
  cases k with
  | zero => exact absurd h (by simp [spindleref08_Own.f])
  | succ k =>
  simp only [spindleref08_Own.f] at h
  have hu84 := Tryd.underlying84
  have HR0_3 := Aside0.mk hr0_3
  have HC0_3 := Aside0.mk hc0_3
  clear hr0_3 hc0_3
  have HB := Aside0.mk (Below.refl w.heap.size w)
  have H : (spindleref08_Own.l0 k ([] : List (S84)) 0 a0_0 a0_1 a0_2 l0_3) = some (r1, r2, r3, r4) := h
  clear h
  have H' := Aside0.mk H
  clear H
  go_enter Tryd.func44, Tryd.ntmps44
  go_wp2_with (first | ((with_reducible refine gate_dst (N := 1) rfl ?_); refine box_event ?hg (N := 1) ?hd (cs := #[.int .i64 a0_0, .int .i64 a0_1, .string a0_2, .slice A0_3 l0_3.length c0_3]) (t := 84) ?hr ?_; (case hd => rfl); (case hg => rfl); (case hr => first | (go_simp; done) | (go_simp; rfl)); intro gb101 hg w2 hbox hb; have n0_ := Aside0.mk (below_step (by repeat (first | (with_reducible first | exact HB.out | apply below_alloc | apply pw_below_drewN | apply below_drew1) | exact HB.out)) hb); have n1_ := Aside0.mk (hbox); have n2_ := Aside0.mk ((by rw [hg]; exact (below_size (by repeat (first | (with_reducible first | exact HB.out | apply below_alloc | apply pw_below_drewN | apply below_drew1) | exact HB.out))) : w.heap.size ≤ gb101)); have n3_ := Aside0.mk ((by rw [hg]; exact (below_size (by repeat (first | (with_reducible first | exact HB.out | apply below_alloc | apply pw_below_drewN | apply below_drew1) | exact HB.out))) : w.heap.size ≤ gb101)); clear HB; have HB := n0_; have BK101 := n1_; have GW101 := n2_; have GE101 := n3_; clear n0_ n1_ n2_ n3_; clear hb hbox hg) | ((with_reducible refine gate_dst (N := 2) rfl ?_); refine box_event ?hg (N := 2) ?hd (cs := #[.int .i64 0, .int .i64 0, .string (⟨#[]⟩ : ByteArray), .slice none 0 0]) (t := 84) ?hr ?_; (case hd => rfl); (case hg => rfl); (case hr => first | (go_simp; done) | (go_simp; rfl)); intro gb102 hg w3 hbox hb; have n0_ := Aside0.mk (blk_below (g := gb101) (o := .cells #[.int .i64 a0_0, .int .i64 a0_1, .string a0_2, .slice A0_3 l0_3.length c0_3] 84 (0, 0)) (by (with_reducible repeat (first | refine blk_drewN ?_ _ | refine blk_drew ?_ | refine blk_alloc ?_ _)); exact BK101.out) hb); have n1_ := Aside0.mk (below_step (by repeat (first | (with_reducible first | exact HB.out | apply below_alloc | apply pw_below_drewN | apply below_drew1 | refine below_set ?_ GE101.out) | exact HB.out)) hb); have n2_ := Aside0.mk (hbox); have n3_ := Aside0.mk ((by rw [hg]; exact (below_size (by repeat (first | (with_reducible first | exact HB.out | apply below_alloc | apply pw_below_drewN | apply below_drew1 | refine below_set ?_ GE101.out) | exact HB.out))) : w.heap.size ≤ gb102)); have n4_ := Aside0.mk ((by rw [hg]; exact (below_size (by repeat (first | (with_reducible first | exact HB.out | apply below_alloc | apply pw_below_drewN | apply below_drew1 | refine below_set ?_ GE101.out) | exact HB.out))) : w.heap.size ≤ gb102)); have n5_ := Aside0.mk ((by rw [hg]; exact Nat.ne_of_lt (blk_lt (g := gb101) (o := .cells #[.int .i64 a0_0, .int .i64 a0_1, .string a0_2, .slice A0_3 l0_3.length c0_3] 84 (0, 0)) (by (with_reducible repeat (first | refine blk_drewN ?_ _ | refine blk_drew ?_ | refine blk_alloc ?_ _)); exact BK101.out)) : gb101 ≠ gb102)); have n6_ := Aside0.mk ((by rw [hg]; exact Nat.ne_of_gt (blk_lt (g := gb101) (o := .cells #[.int .i64 a0_0, .int .i64 a0_1, .string a0_2, .slice A0_3 l0_3.length c0_3] 84 (0, 0)) (by (with_reducible repeat (first | refine blk_drewN ?_ _ | refine blk_drew ?_ | refine blk_alloc ?_ _)); exact BK101.out)) : gb102 ≠ gb101)); clear BK101; clear HB; have BK101 := n0_; have HB := n1_; have BK102 := n2_; have GW102 := n3_; have GE102 := n4_; have NB101_102 := n5_; have NB102_101 := n6_; clear n0_ n1_ n2_ n3_ n4_ n5_ n6_; clear hb hbox hg))
  go_loopg [3, 4] k (fun kq v3 v4 w' => ∃ (x3_1 : List (S84)) (x4_1 : Int), v4 = .int .i64 x4_1 ∧ Aside0 (spindleref08_Own.l0 kq x3_1 x4_1 a0_0 a0_1 a0_2 l0_3 = some (r1, r2, r3, r4)) ∧ Aside0 (kq ≤ k) ∧ Aside0 (Kd.R k84 84 w' w.heap.size (fun k_ => k_ ≠ gb101 ∧ k_ ≠ gb102) v3 x3_1) ∧ Aside0 (w'.heap[gb101]? = some (.cells #[.int .i64 a0_0, .int .i64 a0_1, .string a0_2, (.slice A0_3 l0_3.length c0_3)] 84 (0, 0))) ∧ Aside0 (w'.heap[gb102]? = some (.cells #[.int .i64 0, .int .i64 0, .string (⟨#[]⟩ : ByteArray), (.slice none 0 0)] 84 (0, 0))) ∧ Aside0 (Below w.heap.size w w'))
  case atStart => exact ⟨(([] : List (S84))), (0), (by first | rfl | (simp; done) | (simp [*]; done)), H', ⟨Nat.le_refl _⟩, ⟨by first | exact Kd.R_nil _ _ _ _ _ | exact Kd.N_nil _ _ _ _ _ | exact Kd.V_nil _ _ _ _ _ | exact Kd.Q_nil _ _ _ _ _ | exact Kd.S_nil _ _ _ _ _⟩, ⟨by (with_reducible repeat (first | refine blk_drewN ?_ _ | refine blk_drew ?_ | refine blk_alloc ?_ _)); exact BK101.out⟩, ⟨by (with_reducible repeat (first | refine blk_drewN ?_ _ | refine blk_drew ?_ | refine blk_alloc ?_ _)); exact BK102.out⟩, ⟨by repeat (first | (with_reducible first | exact HB.out | apply below_alloc | apply pw_below_drewN | apply below_drew1 | refine below_set ?_ GE101.out | refine below_set ?_ GE102.out) | exact HB.out)⟩⟩
  case round =>
    clear H'
    try clear p2
    obtain ⟨x3_1, x4_1, rfl, HA, HK1, HO_3, BK101, BK102, HB⟩ := hrel
    cases gk with
    | zero => exact absurd HA.out (by simp [spindleref08_Own.l0])
    | succ k1 =>
      have H := HA.out
      clear HA
      simp only [spindleref08_Own.l0] at H
      by_cases c4 : x4_1 < (l0_3.length : Int)
      · rw [if_pos c4] at H
        have c4b0 : decide (x4_1 < (l0_3.length : Int)) = true := decide_eq_true c4
        clear c4
        by_cases c5 : 0 ≤ x4_1
        · rw [if_pos c5] at H
          have c5b0 : decide (0 ≤ x4_1) = true := decide_eq_true c5
          clear c5
          replace H := Option.bind_eq_some_iff.mp H
          obtain ⟨⟨t104, t105, t106, t107⟩, A60, H⟩ := H
          replace H : (if x3_1.length < 2513169434916 then (spindleref08_Own.l0 k1 (x3_1 ++ [(⟨t104, t105, t106, t107⟩ : S84)]) (wrap64 (x4_1 + 1)) a0_0 a0_1 a0_2 l0_3) else (none)) = some (r1, r2, r3, r4) := H
          have A6 := Aside0.mk A60
          clear A60
          by_cases c7 : x3_1.length < 2513169434916
          · rw [if_pos c7] at H
            have LMc7 := Aside0.mk c7
            clear c7
            obtain ⟨y110, hy110⟩ : ∃ y_ : List (S84), y_ = (x3_1 ++ [(⟨t104, t105, t106, t107⟩ : S84)]) := ⟨_, rfl⟩
            replace H : (spindleref08_Own.l0 k1 y110 (wrap64 (x4_1 + 1)) a0_0 a0_1 a0_2 l0_3) = some (r1, r2, r3, r4) := by first | (rw [hy110]; with_reducible exact H) | (have H2_ := (Option.bind_some _ _).symm.trans H; rw [hy110]; with_reducible exact H2_) | (have H2_ := (Option.bind_some _ _).symm.trans H; with_reducible exact H2_) | with_reducible exact H | (rw [hy110]; exact H) | exact H
            have Ny110 := Aside0.mk hy110
            clear hy110
            have H' := Aside0.mk H
            clear H
            have hnb8 := NB101_102.out
            have hnc8 := NB102_101.out
            have hcz9_0 : wr.cell? ⟨gb101, 0, none⟩ = some (.int .i64 a0_0) := (blk_cell BK101.out 0).trans rfl
            have hcz9_1 : wr.cell? ⟨gb101, 1, none⟩ = some (.int .i64 a0_1) := (blk_cell BK101.out 1).trans rfl
            have hcz9_2 : wr.cell? ⟨gb101, 2, none⟩ = some (.string a0_2) := (blk_cell BK101.out 2).trans rfl
            have hcz9_3 : wr.cell? ⟨gb101, 3, none⟩ = some (.slice A0_3 l0_3.length c0_3) := (blk_cell BK101.out 3).trans rfl
            have hfz9_0 := blk_frozen BK101.out 0
            have hfz9_1 := blk_frozen BK101.out 1
            have hfz9_2 := blk_frozen BK101.out 2
            have hfz9_3 := blk_frozen BK101.out 3
            have p103 : 0 ≤ (x4_1 : Int) := of_decide_eq_true (by first | (with_reducible assumption) | assumption)
            have q103 : x4_1 < (l0_3.length : Int) := of_decide_eq_true (by first | (with_reducible assumption) | assumption)
            obtain ⟨ad103, A103_3, c103_3, e103, hx103_0, hx103_1, hx103_2, hx103_3, hl103_3, hi103_3⟩ := at_T84 HR0_3.out x4_1 p103 q103
            cases e103
            replace hx103_0 := (HB.out.cell (World.block_lt_of_cell? w _ hx103_0)).trans hx103_0
            replace hx103_1 := (HB.out.cell (World.block_lt_of_cell? w _ hx103_1)).trans hx103_1
            replace hx103_2 := (HB.out.cell (World.block_lt_of_cell? w _ hx103_2)).trans hx103_2
            replace hx103_3 := (HB.out.cell (World.block_lt_of_cell? w _ hx103_3)).trans hx103_3
            have HR103_3 := Aside0.mk hi103_3
            have HC103_3 := Aside0.mk hl103_3
            clear hi103_3 hl103_3
            replace p103 := eq_true p103
            replace q103 := eq_true q103
            go_wp2_with (first | ((with_reducible refine gate_callee (f := 44) rfl ?_); refine goesL_ (some 18) rfl rfl Tryd.func44 (by kernel_rfl) rfl #[.agg #[.int .i64 ((rd_T84 l0_3 x4_1).f0), .int .i64 ((rd_T84 l0_3 x4_1).f1), .string ((rd_T84 l0_3 x4_1).f2), .slice A103_3 ((rd_T84 l0_3 x4_1).f3).length c103_3]] rfl (by (try simp only [List.map_toArray, List.map_cons, List.map_nil]); first | done | rfl | (simp only [List.length_drop, List.length_take]; rfl)) ?_; (with_reducible refine (ih k1 (by have := HK1.out; omega) ((rd_T84 l0_3 x4_1).f0) ((rd_T84 l0_3 x4_1).f1) ((rd_T84 l0_3 x4_1).f2) _ _ ((rd_T84 l0_3 x4_1).f3) t104 t105 t106 t107 _ ?side1 ?side2 A6.out).mono ?_); (case side1 => repeat (first | exact (Kd.C_below HR103_3.out HB.out) | (with_reducible refine Kd.C_alloc ?_ _) | (with_reducible refine Kd.C_drewN ?_ _) | (with_reducible refine Kd.C_drew ?_))); (case side2 => exact HC103_3.out); rintro e w10 ⟨v108, rfl, ho0, hb⟩; refine ⟨_, rfl, ?_⟩; have n0_ := Aside0.mk (Kd.R_elder' (by (with_reducible repeat (first | apply Kd.R_alloc | apply Kd.R_drewN | apply Kd.R_drew)); exact HO_3.out) (Kd.R_base ho0) hb); have n1_ := Aside0.mk (Kd.R_lower (Kd.R_newB (Kd.R_newB (Kd.R_new' ho0 (Kd.R_lt (by (with_reducible repeat (first | apply Kd.R_alloc | apply Kd.R_drewN | apply Kd.R_drew)); exact HO_3.out))) (g := gb101) (o := .cells #[.int .i64 a0_0, .int .i64 a0_1, .string a0_2, .slice (some ad103) l0_3.length c0_3] 84 (0, 0)) (by (with_reducible repeat (first | refine blk_drewN ?_ _ | refine blk_drew ?_ | refine blk_alloc ?_ _)); exact BK101.out)) (g := gb102) (o := .cells #[.int .i64 0, .int .i64 0, .string (⟨#[]⟩ : ByteArray), .slice none 0 0] 84 (0, 0)) (by (with_reducible repeat (first | refine blk_drewN ?_ _ | refine blk_drew ?_ | refine blk_alloc ?_ _)); exact BK102.out)) (below_size (by repeat (first | (with_reducible first | exact HB.out | apply below_alloc | apply pw_below_drewN | apply below_drew1 | refine below_set ?_ GE101.out | refine below_set ?_ GE102.out) | exact HB.out)))); have n2_ := Aside0.mk (blk_below (g := gb101) (o := .cells #[.int .i64 a0_0, .int .i64 a0_1, .string a0_2, .slice (some ad103) l0_3.length c0_3] 84 (0, 0)) (by (with_reducible repeat (first | refine blk_drewN ?_ _ | refine blk_drew ?_ | refine blk_alloc ?_ _)); exact BK101.out) hb); have n3_ := Aside0.mk (blk_below (g := gb102) (o := .cells #[.int .i64 0, .int .i64 0, .string (⟨#[]⟩ : ByteArray), .slice none 0 0] 84 (0, 0)) (by (with_reducible repeat (first | refine blk_drewN ?_ _ | refine blk_drew ?_ | refine blk_alloc ?_ _)); exact BK102.out) hb); have n4_ := Aside0.mk (below_step (by repeat (first | (with_reducible first | exact HB.out | apply below_alloc | apply pw_below_drewN | apply below_drew1 | refine below_set ?_ GE101.out | refine below_set ?_ GE102.out) | exact HB.out)) hb); clear HO_3; clear BK101; clear BK102; clear HB; have HO_3 := n0_; have HO109 := n1_; have BK101 := n2_; have BK102 := n3_; have HB := n4_; clear n0_ n1_ n2_ n3_ n4_; (try clear hb); (try clear hb2); (try clear hk); (try clear hi); (try clear ho0); obtain ⟨Ao12, co12, eo12⟩ := Kd.R_slice HO109.out; subst eo12) | ((with_reducible refine gate_builtin (b := .append) (xs := #[.tmp 12, .tmp 19]) rfl ?_); at_builtin; refine Kd.R_append k84 (w0 := w) w.heap.size rfl (.tmp 12) (.tmp 19) 82 84 (.agg #[(.int .i64 0), (.int .i64 0), (.string ⟨#[]⟩), (.slice none 0 0)]) 56 rfl Tryd.underlying82 info84 rfl (by decide) (by omega) u3 x3_1 (⟨t104, t105, t106, t107⟩ : S84) [.int .i64 t104, .int .i64 t105, .string t106, .slice Ao12 t107.length co12] (fun k_ => k_ ≠ gb101 ∧ k_ ≠ gb102) (fun k_ => ((fun k_ => k_ ≠ gb101 ∧ k_ ≠ gb102)) k_ ∧ some k_ ≠ (u3 : Value).ownBlock) rfl rfl ?aP (fun _ hk => hk) ?aF ?aO ?aB ?aS ?aL ?_; (case aP => exact k84_mkM _ _ _ (⟨t104, t105, t106, t107⟩ : S84) (Kd.R_mono (HO109.out) (fun k_ hk => ⟨⟨hk.1.2, hk.2⟩, hk.1.1.2⟩))); (case aB => exact (by repeat (first | (with_reducible first | exact HB.out | apply below_alloc | apply pw_below_drewN | apply below_drew1 | refine below_set ?_ GE101.out | refine below_set ?_ GE102.out) | exact HB.out))); (case aF => exact (fun k_ hk => ⟨Kd.freshB (g := gb101) (o := .cells #[.int .i64 a0_0, .int .i64 a0_1, .string a0_2, .slice (some ad103) l0_3.length c0_3] 84 (0, 0)) (by (with_reducible repeat (first | refine blk_drewN ?_ _ | refine blk_drew ?_ | refine blk_alloc ?_ _)); exact BK101.out) k_ hk, Kd.freshB (g := gb102) (o := .cells #[.int .i64 0, .int .i64 0, .string (⟨#[]⟩ : ByteArray), .slice none 0 0] 84 (0, 0)) (by (with_reducible repeat (first | refine blk_drewN ?_ _ | refine blk_drew ?_ | refine blk_alloc ?_ _)); exact BK102.out) k_ hk⟩)); (case aO => exact (by (with_reducible repeat (first | apply Kd.R_alloc | apply Kd.R_drewN | apply Kd.R_drew)); exact Kd.R_mono HO_3.out (fun _ hk => ⟨hk.1.1, hk.1.2⟩))); (case aS => exact (below_size (by repeat (first | (with_reducible first | exact HB.out | apply below_alloc | apply pw_below_drewN | apply below_drew1 | refine below_set ?_ GE101.out | refine below_set ?_ GE102.out) | exact HB.out)))); (case aL => have := LMc7.out; omega); intro v111 w11 ho hb hg hat; rw [← Ny110.out] at ho; have n0_ := Aside0.mk (blk_grown (g := gb101) (o := .cells #[.int .i64 a0_0, .int .i64 a0_1, .string a0_2, .slice (some ad103) l0_3.length c0_3] 84 (0, 0)) (by (with_reducible repeat (first | refine blk_drewN ?_ _ | refine blk_drew ?_ | refine blk_alloc ?_ _)); exact BK101.out) hg (Kd.R_away HO_3.out (fun _ hk => hk.1.1))); have n1_ := Aside0.mk (blk_grown (g := gb102) (o := .cells #[.int .i64 0, .int .i64 0, .string (⟨#[]⟩ : ByteArray), .slice none 0 0] 84 (0, 0)) (by (with_reducible repeat (first | refine blk_drewN ?_ _ | refine blk_drew ?_ | refine blk_alloc ?_ _)); exact BK102.out) hg (Kd.R_away HO_3.out (fun _ hk => hk.1.2))); have n2_ := Aside0.mk (hb); have n3_ := Aside0.mk (ho); clear BK101; clear BK102; clear HB; clear HO_3; clear HO109; have BK101 := n0_; have BK102 := n1_; have HB := n2_; have HO112 := n3_; clear n0_ n1_ n2_ n3_; clear ho hb hg hat))
            go_roundg k1
            case measure => have := HK1.out; omega
            case rel => exact ⟨(y110), (wrap64 (x4_1 + 1)), (by first | rfl | (simp; done) | (simp [*]; done)), H', ⟨by have := HK1.out; omega⟩, ⟨by (with_reducible repeat (first | apply Kd.R_alloc | apply Kd.R_drewN | apply Kd.R_drew)); exact HO112.out⟩, ⟨by (with_reducible repeat (first | refine blk_drewN ?_ _ | refine blk_drew ?_ | refine blk_alloc ?_ _)); exact BK101.out⟩, ⟨by (with_reducible repeat (first | refine blk_drewN ?_ _ | refine blk_drew ?_ | refine blk_alloc ?_ _)); exact BK102.out⟩, ⟨by repeat (first | (with_reducible first | exact HB.out | apply below_alloc | apply pw_below_drewN | apply below_drew1 | refine below_set ?_ GE101.out | refine below_set ?_ GE102.out) | exact HB.out)⟩⟩
          · rw [if_neg c7] at H
            exact absurd H (by simp)
        · rw [if_neg c5] at H
          exact absurd H (by simp)
      · rw [if_neg c4] at H
        have c4b0 : decide (x4_1 < (l0_3.length : Int)) = false := decide_eq_false c4
        clear c4
        simp only [Option.some.injEq, Prod.mk.injEq] at H
        obtain ⟨rfl, rfl, rfl, rfl⟩ := H
        have hnb13 := NB101_102.out
        have hnc13 := NB102_101.out
        have hcz14_0 : wr.cell? ⟨gb101, 0, none⟩ = some (.int .i64 a0_0) := (blk_cell BK101.out 0).trans rfl
        have hcz14_1 : wr.cell? ⟨gb101, 1, none⟩ = some (.int .i64 a0_1) := (blk_cell BK101.out 1).trans rfl
        have hcz14_2 : wr.cell? ⟨gb101, 2, none⟩ = some (.string a0_2) := (blk_cell BK101.out 2).trans rfl
        have hcz14_3 : wr.cell? ⟨gb101, 3, none⟩ = some (.slice A0_3 l0_3.length c0_3) := (blk_cell BK101.out 3).trans rfl
        have hfz14_0 := blk_frozen BK101.out 0
        have hfz14_1 := blk_frozen BK101.out 1
        have hfz14_2 := blk_frozen BK101.out 2
        have hfz14_3 := blk_frozen BK101.out 3
        obtain ⟨Ao15, co15, eo15⟩ := Kd.R_slice HO_3.out
        subst eo15
        have hcz16_0 : wr.cell? ⟨gb102, 0, none⟩ = some (.int .i64 0) := (blk_cell BK102.out 0).trans rfl
        have hcz16_1 : wr.cell? ⟨gb102, 1, none⟩ = some (.int .i64 0) := (blk_cell BK102.out 1).trans rfl
        have hcz16_2 : wr.cell? ⟨gb102, 2, none⟩ = some (.string (⟨#[]⟩ : ByteArray)) := (blk_cell BK102.out 2).trans rfl
        have hcz16_3 : wr.cell? ⟨gb102, 3, none⟩ = some (.slice none 0 0) := (blk_cell BK102.out 3).trans rfl
        have hfz16_0 := blk_frozen BK102.out 0
        have hfz16_1 := blk_frozen BK102.out 1
        have hfz16_2 := blk_frozen BK102.out 2
        have hfz16_3 := blk_frozen BK102.out 3
        go_wp2
        refine bodyPost_ret (results_cell_row rfl _ _ gb102 84 #[.int .i64 a0_0, .int .i64 a0_1, .string a0_2, .slice Ao15 x3_1.length co15] (0, 0) _ rfl (by (with_reducible repeat (first | refine blk_drewN ?_ _ | refine blk_drew ?_ | refine blk_alloc ?_ _)); refine blk_put (cs := #[.int .i64 a0_0, .int .i64 a0_1, .string a0_2, .slice none 0 0]) ?_ 3 _ rfl; (with_reducible repeat (first | refine blk_drewN ?_ _ | refine blk_drew ?_ | refine blk_alloc ?_ _)); refine blk_put (cs := #[.int .i64 a0_0, .int .i64 a0_1, .string (⟨#[]⟩ : ByteArray), .slice none 0 0]) ?_ 2 _ rfl; (with_reducible repeat (first | refine blk_drewN ?_ _ | refine blk_drew ?_ | refine blk_alloc ?_ _)); refine blk_put (cs := #[.int .i64 a0_0, .int .i64 0, .string (⟨#[]⟩ : ByteArray), .slice none 0 0]) ?_ 1 _ rfl; (with_reducible repeat (first | refine blk_drewN ?_ _ | refine blk_drew ?_ | refine blk_alloc ?_ _)); refine blk_put (cs := #[.int .i64 0, .int .i64 0, .string (⟨#[]⟩ : ByteArray), .slice none 0 0]) ?_ 0 _ rfl; (with_reducible repeat (first | refine blk_drewN ?_ _ | refine blk_drew ?_ | refine blk_alloc ?_ _)); refine blk_far ?_ NB102_101.out _; (with_reducible repeat (first | refine blk_drewN ?_ _ | refine blk_drew ?_ | refine blk_alloc ?_ _)); exact BK102.out) Tryd.underlying84 rfl (by kernel_rfl)) rfl ?_
        exact ⟨_, by first | rfl | (simp [errW_none, errW_some] <;> rfl) | (simp [*, errW_none, errW_some] <;> rfl), by (with_reducible repeat (first | apply Kd.R_alloc | apply Kd.R_drewN | apply Kd.R_drew)); exact Kd.R_mono (Kd.R_far (p := ⟨gb102, 3, none⟩) (Kd.R_far (p := ⟨gb102, 2, none⟩) (Kd.R_far (p := ⟨gb102, 1, none⟩) (Kd.R_far (p := ⟨gb102, 0, none⟩) (Kd.R_far (p := ⟨gb101, 3, none⟩) (Kd.R_mono (Kd.R_mono HO_3.out (fun k_ hk => (⟨hk, hk.1⟩ : _ ∧ k_ ≠ gb101))) (fun k_ hk => (⟨hk, hk.1.2⟩ : _ ∧ k_ ≠ gb102))) (fun _ hk => hk.1.2) (.slice Ao15 x3_1.length co15)) (fun _ hk => hk.2) (.int .i64 a0_0)) (fun _ hk => hk.2) (.int .i64 a0_1)) (fun _ hk => hk.2) (.string a0_2)) (fun _ hk => hk.2) (.slice Ao15 x3_1.length co15)) (fun _ hk => trivial), by repeat (first | (with_reducible first | exact HB.out | apply below_alloc | apply pw_below_drewN | apply below_drew1 | refine below_set ?_ GE101.out | refine below_set ?_ GE102.out) | exact HB.out)⟩

end Go.Proofs.YthighbbikpnpgaaDoor.PSh

/-! PShx2 -/
-- PRINTED by print.py (a twelfth state) out of the translation. Not trusted: Lean checks it.
namespace Go.Proofs.YthighbbikpnpgaaDoor.PSh
open Go.RowKit Go.Proofs.YthighbbikpnpgaaDoorW.PrintWords Go.Proofs.YthighbbikpnpgaaDoorW.PrintLast Go.Proofs.YthighbbikpnpgaaDoorW.PrintMore
attribute [local go_sem] max2_int min2_int max_two min_two max_three min_three max_four min_four   -- for this text's walks alone
set_option linter.unusedVariables false
set_option linter.unusedSimpArgs false

/-! ### spindleref08_count: function 74 -/
mutual
def spindleref08_count.l0 : Nat → Int → Int → Int → Int → Int → ByteArray → List (S84) → Option (Int)
  | 0, _, _, _, _, _, _, _ => none
  | k + 1, x1, x2, x7, x114000, x114001, x114002, x114003 => if x7 < (x114003.length : Int) then (if x1 < 5000 then (if x2 > 0 then (if 0 ≤ x7 then ((spindleref08_count.f k ((rd_T84 x114003 x7).f0) ((rd_T84 x114003 x7).f1) ((rd_T84 x114003 x7).f2) ((rd_T84 x114003 x7).f3) x1 (wrap64 (x2 - 1))).bind fun t115 => (spindleref08_count.l0 k t115 x2 (wrap64 (x7 + 1)) x114000 x114001 x114002 x114003)) else (none)) else (some (mn x1 5000))) else (some (mn x1 5000))) else (some (mn x1 5000))
def spindleref08_count.f : Nat → Int → Int → ByteArray → List (S84) → Int → Int → Option (Int)
  | 0, _, _, _, _, _, _ => none
  | k + 1, a0_0, a0_1, a0_2, l0_3, a1, a2 => spindleref08_count.l0 k (wrap64 (a1 + 1)) a2 0 a0_0 a0_1 a0_2 l0_3
end
theorem spindleref08_count.mono_l : ∀ k, (∀ y0 y1 y2 y3 y4 y5, LeO (spindleref08_count.f k y0 y1 y2 y3 y4 y5) (spindleref08_count.f (k + 1) y0 y1 y2 y3 y4 y5)) ∧ (∀ y0 y1 y2 y3 y4 y5 y6, LeO (spindleref08_count.l0 k y0 y1 y2 y3 y4 y5 y6) (spindleref08_count.l0 (k + 1) y0 y1 y2 y3 y4 y5 y6))
  | 0 => ⟨fun _ _ _ _ _ _ r h => by simp [spindleref08_count.f] at h, fun _ _ _ _ _ _ _ r h => by simp [spindleref08_count.l0] at h⟩
  | k + 1 => by
    obtain ⟨ih0, ih1⟩ := spindleref08_count.mono_l k
    refine ⟨?_, ?_⟩
    · intro y0 y1 y2 y3 y4 y5
      unfold spindleref08_count.f
      repeat' first
      | (with_reducible exact ih0 _ _ _ _ _ _)
      | (with_reducible exact ih1 _ _ _ _ _ _ _)
      | (with_reducible exact LeO.refl _)
      | (with_reducible exact LeO.none _)
      | (with_reducible refine LeO.ite ?_ ?_)
      | (with_reducible refine LeO.bind ?_ (fun _ => ?_))
      | exact ih0 _ _ _ _ _ _
      | exact ih1 _ _ _ _ _ _ _
      | exact LeO.none _
      | refine LeO.ite ?_ ?_
      | refine LeO.bind ?_ (fun _ => ?_)
    · intro y0 y1 y2 y3 y4 y5 y6
      unfold spindleref08_count.l0
      repeat' first
      | (with_reducible exact ih0 _ _ _ _ _ _)
      | (with_reducible exact ih1 _ _ _ _ _ _ _)
      | (with_reducible exact LeO.refl _)
      | (with_reducible exact LeO.none _)
      | (with_reducible refine LeO.ite ?_ ?_)
      | (with_reducible refine LeO.bind ?_ (fun _ => ?_))
      | exact ih0 _ _ _ _ _ _
      | exact ih1 _ _ _ _ _ _ _
      | exact LeO.none _
      | refine LeO.ite ?_ ?_
      | refine LeO.bind ?_ (fun _ => ?_)
theorem spindleref08_count.mono : ∀ a0 a1 a2 a3 a4 a5 k, LeO (spindleref08_count.f k a0 a1 a2 a3 a4 a5) (spindleref08_count.f (k + 1) a0 a1 a2 a3 a4 a5) := by
  intro a0 a1 a2 a3 a4 a5 k
  obtain ⟨ih0, ih1⟩ := spindleref08_count.mono_l k
  exact ih0 a0 a1 a2 a3 a4 a5
set_option maxHeartbeats 8000000 in
set_option maxRecDepth 100000 in
theorem spindleref08_count.calls (k : Nat) : ∀ (a0_0 : Int) (a0_1 : Int) (a0_2 : ByteArray) (A0_3 : Option Addr) (c0_3 : Nat) (l0_3 : List (S84)) (a1 : Int) (a2 : Int) (r : Int) (w : World) (hr0_3 : Kd.C k84 w A0_3 l0_3.length l0_3) (hc0_3 : l0_3.length ≤ c0_3) (h : spindleref08_count.f k a0_0 a0_1 a0_2 l0_3 a1 a2 = some r),
    Calls Tryd.prog 74 #[.agg #[.int .i64 a0_0, .int .i64 a0_1, .string a0_2, .slice A0_3 l0_3.length c0_3], .int .i64 a1, .int .i64 a2] w fun e w' => e = .returned (.int .i64 r) ∧ Below w.heap.size w w' := by
  induction k using Nat.strongRecOn with
  | _ k ih =>
  intro a0_0 a0_1 a0_2 A0_3 c0_3 l0_3 a1 a2 r w hr0_3 hc0_3 h
  cases k with
  | zero => exact absurd h (by simp [spindleref08_count.f])
  | succ k =>
  simp only [spindleref08_count.f] at h
  have hu84 := Tryd.underlying84
  have HR0_3 := Aside0.mk hr0_3
  have HC0_3 := Aside0.mk hc0_3
  clear hr0_3 hc0_3
  have HB := Aside0.mk (Below.refl w.heap.size w)
  have H : (spindleref08_count.l0 k (wrap64 (a1 + 1)) a2 0 a0_0 a0_1 a0_2 l0_3) = some r := h
  clear h
  have H' := Aside0.mk H
  clear H
  go_enter Tryd.func74, Tryd.ntmps74
  go_wp2_with (first | ((with_reducible refine gate_dst (N := 3) rfl ?_); refine box_event ?hg (N := 3) ?hd (cs := #[.int .i64 a0_0, .int .i64 a0_1, .string a0_2, .slice A0_3 l0_3.length c0_3]) (t := 84) ?hr ?_; (case hd => rfl); (case hg => rfl); (case hr => first | (go_simp; done) | (go_simp; rfl)); intro gb113 hg w4 hbox hb; have n0_ := Aside0.mk (below_step (by repeat (first | (with_reducible first | exact HB.out | apply below_alloc | apply pw_below_drewN | apply below_drew1) | exact HB.out)) hb); have n1_ := Aside0.mk (hbox); have n2_ := Aside0.mk ((by rw [hg]; exact (below_size (by repeat (first | (with_reducible first | exact HB.out | apply below_alloc | apply pw_below_drewN | apply below_drew1) | exact HB.out))) : w.heap.size ≤ gb113)); have n3_ := Aside0.mk ((by rw [hg]; exact (below_size (by repeat (first | (with_reducible first | exact HB.out | apply below_alloc | apply pw_below_drewN | apply below_drew1) | exact HB.out))) : w.heap.size ≤ gb113)); clear HB; have HB := n0_; have BK113 := n1_; have GW113 := n2_; have GE113 := n3_; clear n0_ n1_ n2_ n3_; clear hb hbox hg))
  go_loopg [1, 7] k (fun kq v1 v7 w' => ∃ (x1_1 : Int) (x7_1 : Int), v1 = .int .i64 x1_1 ∧ v7 = .int .i64 x7_1 ∧ Aside0 (spindleref08_count.l0 kq x1_1 a2 x7_1 a0_0 a0_1 a0_2 l0_3 = some r) ∧ Aside0 (kq ≤ k) ∧ Aside0 (w'.heap[gb113]? = some (.cells #[.int .i64 a0_0, .int .i64 a0_1, .string a0_2, (.slice A0_3 l0_3.length c0_3)] 84 (0, 0))) ∧ Aside0 (Below w.heap.size w w'))
  case atStart => exact ⟨(wrap64 (a1 + 1)), (0), (by first | rfl | (simp; done) | (simp [*]; done)), (by first | rfl | (simp; done) | (simp [*]; done)), H', ⟨Nat.le_refl _⟩, ⟨by (with_reducible repeat (first | refine blk_drewN ?_ _ | refine blk_drew ?_ | refine blk_alloc ?_ _)); exact BK113.out⟩, ⟨by repeat (first | (with_reducible first | exact HB.out | apply below_alloc | apply pw_below_drewN | apply below_drew1 | refine below_set ?_ GE113.out) | exact HB.out)⟩⟩
  case round =>
    clear H'
    try clear p2
    obtain ⟨x1_1, x7_1, rfl, rfl, HA, HK1, BK113, HB⟩ := hrel
    cases gk with
    | zero => exact absurd HA.out (by simp [spindleref08_count.l0])
    | succ k1 =>
      have H := HA.out
      clear HA
      simp only [spindleref08_count.l0] at H
      by_cases c5 : x7_1 < (l0_3.length : Int)
      · rw [if_pos c5] at H
        have c5b0 : decide (x7_1 < (l0_3.length : Int)) = true := decide_eq_true c5
        clear c5
        by_cases c6 : x1_1 < 5000
        · rw [if_pos c6] at H
          have c6b0 : decide (x1_1 < 5000) = true := decide_eq_true c6
          clear c6
          by_cases c7 : a2 > 0
          · rw [if_pos c7] at H
            have c7b0 : decide (0 < a2) = true := decide_eq_true c7
            clear c7
            by_cases c8 : 0 ≤ x7_1
            · rw [if_pos c8] at H
              have c8b0 : decide (0 ≤ x7_1) = true := decide_eq_true c8
              clear c8
              replace H := Option.bind_eq_some_iff.mp H
              obtain ⟨t115, A90, H⟩ := H
              replace H : (spindleref08_count.l0 k1 t115 a2 (wrap64 (x7_1 + 1)) a0_0 a0_1 a0_2 l0_3) = some r := H
              have A9 := Aside0.mk A90
              clear A90
              have H' := Aside0.mk H
              clear H
              have hcz10_0 : wr.cell? ⟨gb113, 0, none⟩ = some (.int .i64 a0_0) := (blk_cell BK113.out 0).trans rfl
              have hcz10_1 : wr.cell? ⟨gb113, 1, none⟩ = some (.int .i64 a0_1) := (blk_cell BK113.out 1).trans rfl
              have hcz10_2 : wr.cell? ⟨gb113, 2, none⟩ = some (.string a0_2) := (blk_cell BK113.out 2).trans rfl
              have hcz10_3 : wr.cell? ⟨gb113, 3, none⟩ = some (.slice A0_3 l0_3.length c0_3) := (blk_cell BK113.out 3).trans rfl
              have hfz10_0 := blk_frozen BK113.out 0
              have hfz10_1 := blk_frozen BK113.out 1
              have hfz10_2 := blk_frozen BK113.out 2
              have hfz10_3 := blk_frozen BK113.out 3
              have p114 : 0 ≤ (x7_1 : Int) := of_decide_eq_true (by first | (with_reducible assumption) | assumption)
              have q114 : x7_1 < (l0_3.length : Int) := of_decide_eq_true (by first | (with_reducible assumption) | assumption)
              obtain ⟨ad114, A114_3, c114_3, e114, hx114_0, hx114_1, hx114_2, hx114_3, hl114_3, hi114_3⟩ := at_T84 HR0_3.out x7_1 p114 q114
              cases e114
              replace hx114_0 := (HB.out.cell (World.block_lt_of_cell? w _ hx114_0)).trans hx114_0
              replace hx114_1 := (HB.out.cell (World.block_lt_of_cell? w _ hx114_1)).trans hx114_1
              replace hx114_2 := (HB.out.cell (World.block_lt_of_cell? w _ hx114_2)).trans hx114_2
              replace hx114_3 := (HB.out.cell (World.block_lt_of_cell? w _ hx114_3)).trans hx114_3
              have HR114_3 := Aside0.mk hi114_3
              have HC114_3 := Aside0.mk hl114_3
              clear hi114_3 hl114_3
              replace p114 := eq_true p114
              replace q114 := eq_true q114
              go_wp2_with (first | ((with_reducible refine gate_callee (f := 74) rfl ?_); refine goesL_ (some 33) rfl rfl Tryd.func74 (by kernel_rfl) rfl #[.agg #[.int .i64 ((rd_T84 l0_3 x7_1).f0), .int .i64 ((rd_T84 l0_3 x7_1).f1), .string ((rd_T84 l0_3 x7_1).f2), .slice A114_3 ((rd_T84 l0_3 x7_1).f3).length c114_3], .int .i64 x1_1, .int .i64 (wrap64 (a2 - 1))] rfl (by (try simp only [List.map_toArray, List.map_cons, List.map_nil]); first | done | rfl | (simp only [List.length_drop, List.length_take]; rfl)) ?_; (with_reducible refine (ih k1 (by have := HK1.out; omega) ((rd_T84 l0_3 x7_1).f0) ((rd_T84 l0_3 x7_1).f1) ((rd_T84 l0_3 x7_1).f2) _ _ ((rd_T84 l0_3 x7_1).f3) x1_1 (wrap64 (a2 - 1)) t115 _ ?side1 ?side2 A9.out).mono ?_); (case side1 => repeat (first | exact (Kd.C_below HR114_3.out HB.out) | (with_reducible refine Kd.C_alloc ?_ _) | (with_reducible refine Kd.C_drewN ?_ _) | (with_reducible refine Kd.C_drew ?_))); (case side2 => exact HC114_3.out); rintro e w11 ⟨rfl, hb⟩; refine ⟨_, rfl, ?_⟩; have n0_ := Aside0.mk (blk_below (g := gb113) (o := .cells #[.int .i64 a0_0, .int .i64 a0_1, .string a0_2, .slice (some ad114) l0_3.length c0_3] 84 (0, 0)) (by (with_reducible repeat (first | refine blk_drewN ?_ _ | refine blk_drew ?_ | refine blk_alloc ?_ _)); exact BK113.out) hb); have n1_ := Aside0.mk (below_step (by repeat (first | (with_reducible first | exact HB.out | apply below_alloc | apply pw_below_drewN | apply below_drew1 | refine below_set ?_ GE113.out) | exact HB.out)) hb); clear BK113; clear HB; have BK113 := n0_; have HB := n1_; clear n0_ n1_; (try clear hb); (try clear hb2); (try clear hk); (try clear hi)))
              go_roundg k1
              case measure => have := HK1.out; omega
              case rel => exact ⟨(t115), (wrap64 (x7_1 + 1)), (by first | rfl | (simp; done) | (simp [*]; done)), (by first | rfl | (simp; done) | (simp [*]; done)), H', ⟨by have := HK1.out; omega⟩, ⟨by (with_reducible repeat (first | refine blk_drewN ?_ _ | refine blk_drew ?_ | refine blk_alloc ?_ _)); exact BK113.out⟩, ⟨by repeat (first | (with_reducible first | exact HB.out | apply below_alloc | apply pw_below_drewN | apply below_drew1 | refine below_set ?_ GE113.out) | exact HB.out)⟩⟩
            · rw [if_neg c8] at H
              exact absurd H (by simp)
          · rw [if_neg c7] at H
            have c7b0 : decide (0 < a2) = false := decide_eq_false c7
            clear c7
            obtain ⟨ji12, hji12⟩ : ∃ j_ : Int, (mn x1_1 5000) = j_ := ⟨_, rfl⟩
            replace H : (some ji12) = some r := by first | (rw [hji12] at H; exact H) | (simp only [hji12] at H ⊢; exact H)
            have hji12_ : (if 5000 < x1_1 then 5000 else x1_1) = ji12 := hji12
            obtain rfl := Option.some.inj H
            have hcz13_0 : wr.cell? ⟨gb113, 0, none⟩ = some (.int .i64 a0_0) := (blk_cell BK113.out 0).trans rfl
            have hcz13_1 : wr.cell? ⟨gb113, 1, none⟩ = some (.int .i64 a0_1) := (blk_cell BK113.out 1).trans rfl
            have hcz13_2 : wr.cell? ⟨gb113, 2, none⟩ = some (.string a0_2) := (blk_cell BK113.out 2).trans rfl
            have hcz13_3 : wr.cell? ⟨gb113, 3, none⟩ = some (.slice A0_3 l0_3.length c0_3) := (blk_cell BK113.out 3).trans rfl
            have hfz13_0 := blk_frozen BK113.out 0
            have hfz13_1 := blk_frozen BK113.out 1
            have hfz13_2 := blk_frozen BK113.out 2
            have hfz13_3 := blk_frozen BK113.out 3
            go_wp2
            go_ret
            exact ⟨by first | rfl | (simp [errW_none, errW_some] <;> rfl) | (simp only [← hji12]; first | rfl | (simp [errW_none, errW_some] <;> rfl)) | (simp [*, errW_none, errW_some] <;> rfl), by repeat (first | (with_reducible first | exact HB.out | apply below_alloc | apply pw_below_drewN | apply below_drew1 | refine below_set ?_ GE113.out) | exact HB.out)⟩
        · rw [if_neg c6] at H
          have c6b0 : decide (x1_1 < 5000) = false := decide_eq_false c6
          clear c6
          obtain ⟨ji14, hji14⟩ : ∃ j_ : Int, (mn x1_1 5000) = j_ := ⟨_, rfl⟩
          replace H : (some ji14) = some r := by first | (rw [hji14] at H; exact H) | (simp only [hji14] at H ⊢; exact H)
          have hji14_ : (if 5000 < x1_1 then 5000 else x1_1) = ji14 := hji14
          obtain rfl := Option.some.inj H
          have hcz15_0 : wr.cell? ⟨gb113, 0, none⟩ = some (.int .i64 a0_0) := (blk_cell BK113.out 0).trans rfl
          have hcz15_1 : wr.cell? ⟨gb113, 1, none⟩ = some (.int .i64 a0_1) := (blk_cell BK113.out 1).trans rfl
          have hcz15_2 : wr.cell? ⟨gb113, 2, none⟩ = some (.string a0_2) := (blk_cell BK113.out 2).trans rfl
          have hcz15_3 : wr.cell? ⟨gb113, 3, none⟩ = some (.slice A0_3 l0_3.length c0_3) := (blk_cell BK113.out 3).trans rfl
          have hfz15_0 := blk_frozen BK113.out 0
          have hfz15_1 := blk_frozen BK113.out 1
          have hfz15_2 := blk_frozen BK113.out 2
          have hfz15_3 := blk_frozen BK113.out 3
          go_wp2
          go_ret
          exact ⟨by first | rfl | (simp [errW_none, errW_some] <;> rfl) | (simp only [← hji14]; first | rfl | (simp [errW_none, errW_some] <;> rfl)) | (simp [*, errW_none, errW_some] <;> rfl), by repeat (first | (with_reducible first | exact HB.out | apply below_alloc | apply pw_below_drewN | apply below_drew1 | refine below_set ?_ GE113.out) | exact HB.out)⟩
      · rw [if_neg c5] at H
        have c5b0 : decide (x7_1 < (l0_3.length : Int)) = false := decide_eq_false c5
        clear c5
        obtain ⟨ji16, hji16⟩ : ∃ j_ : Int, (mn x1_1 5000) = j_ := ⟨_, rfl⟩
        replace H : (some ji16) = some r := by first | (rw [hji16] at H; exact H) | (simp only [hji16] at H ⊢; exact H)
        have hji16_ : (if 5000 < x1_1 then 5000 else x1_1) = ji16 := hji16
        obtain rfl := Option.some.inj H
        have hcz17_0 : wr.cell? ⟨gb113, 0, none⟩ = some (.int .i64 a0_0) := (blk_cell BK113.out 0).trans rfl
        have hcz17_1 : wr.cell? ⟨gb113, 1, none⟩ = some (.int .i64 a0_1) := (blk_cell BK113.out 1).trans rfl
        have hcz17_2 : wr.cell? ⟨gb113, 2, none⟩ = some (.string a0_2) := (blk_cell BK113.out 2).trans rfl
        have hcz17_3 : wr.cell? ⟨gb113, 3, none⟩ = some (.slice A0_3 l0_3.length c0_3) := (blk_cell BK113.out 3).trans rfl
        have hfz17_0 := blk_frozen BK113.out 0
        have hfz17_1 := blk_frozen BK113.out 1
        have hfz17_2 := blk_frozen BK113.out 2
        have hfz17_3 := blk_frozen BK113.out 3
        go_wp2
        go_ret
        exact ⟨by first | rfl | (simp [errW_none, errW_some] <;> rfl) | (simp only [← hji16]; first | rfl | (simp [errW_none, errW_some] <;> rfl)) | (simp [*, errW_none, errW_some] <;> rfl), by repeat (first | (with_reducible first | exact HB.out | apply below_alloc | apply pw_below_drewN | apply below_drew1 | refine below_set ?_ GE113.out) | exact HB.out)⟩

end Go.Proofs.YthighbbikpnpgaaDoor.PSh

/-! PShx3 -/
-- PRINTED by print.py (a twelfth state) out of the translation. Not trusted: Lean checks it.
namespace Go.Proofs.YthighbbikpnpgaaDoor.PSh
open Go.RowKit Go.Proofs.YthighbbikpnpgaaDoorW.PrintWords Go.Proofs.YthighbbikpnpgaaDoorW.PrintLast Go.Proofs.YthighbbikpnpgaaDoorW.PrintMore
attribute [local go_sem] max2_int min2_int max_two min_two max_three min_three max_four min_four   -- for this text's walks alone
set_option linter.unusedVariables false
set_option linter.unusedSimpArgs false

/-! ### spindleref08_Parts: function 50 -/
def spindleref08_Parts.f (k : Nat) (a0_0 : Int) (a0_1 : Int) (a0_2 : ByteArray) (l0_3 : List (S84)) : Option (Int) := (spindleref08_count.f k a0_0 a0_1 a0_2 l0_3 0 100000).bind fun t117 => (some t117)
theorem spindleref08_Parts.mono : ∀ a0 a1 a2 a3 k, LeO (spindleref08_Parts.f k a0 a1 a2 a3) (spindleref08_Parts.f (k + 1) a0 a1 a2 a3) := by
  intro a0 a1 a2 a3 k
  unfold spindleref08_Parts.f
  repeat' first
      | (with_reducible exact spindleref08_count.mono _ _ _ _ _ _ _)
      | (with_reducible exact LeO.refl _)
      | (with_reducible exact LeO.none _)
      | (with_reducible refine LeO.ite ?_ ?_)
      | (with_reducible refine LeO.bind ?_ (fun _ => ?_))
      | exact spindleref08_count.mono _ _ _ _ _ _ _
      | exact LeO.none _
      | refine LeO.ite ?_ ?_
      | refine LeO.bind ?_ (fun _ => ?_)
set_option maxHeartbeats 8000000 in
set_option maxRecDepth 100000 in
theorem spindleref08_Parts.calls (k : Nat) (a0_0 : Int) (a0_1 : Int) (a0_2 : ByteArray) (A0_3 : Option Addr) (c0_3 : Nat) (l0_3 : List (S84)) (r : Int) (w : World) (hr0_3 : Kd.C k84 w A0_3 l0_3.length l0_3) (hc0_3 : l0_3.length ≤ c0_3) (h : spindleref08_Parts.f k a0_0 a0_1 a0_2 l0_3 = some r) :
    Calls Tryd.prog 50 #[.agg #[.int .i64 a0_0, .int .i64 a0_1, .string a0_2, .slice A0_3 l0_3.length c0_3]] w fun e w' => e = .returned (.int .i64 r) ∧ Below w.heap.size w w' := by
  have hu84 := Tryd.underlying84
  have HR0_3 := Aside0.mk hr0_3
  have HC0_3 := Aside0.mk hc0_3
  clear hr0_3 hc0_3
  have HB := Aside0.mk (Below.refl w.heap.size w)
  have H : ((spindleref08_count.f k a0_0 a0_1 a0_2 l0_3 0 100000).bind fun t117 => (some t117)) = some r := h
  clear h
  replace H := Option.bind_eq_some_iff.mp H
  obtain ⟨t117, A20, H⟩ := H
  replace H : (some t117) = some r := H
  have A2 := Aside0.mk A20
  clear A20
  obtain rfl := Option.some.inj H
  go_enter Tryd.func50, Tryd.ntmps50
  go_wp2_with (first | ((with_reducible refine gate_dst (N := 1) rfl ?_); refine box_event ?hg (N := 1) ?hd (cs := #[.int .i64 a0_0, .int .i64 a0_1, .string a0_2, .slice A0_3 l0_3.length c0_3]) (t := 84) ?hr ?_; (case hd => rfl); (case hg => rfl); (case hr => first | (go_simp; done) | (go_simp; rfl)); intro gb116 hg w3 hbox hb; have n0_ := Aside0.mk (below_step (by repeat (first | (with_reducible first | exact HB.out | apply below_alloc | apply pw_below_drewN | apply below_drew1) | exact HB.out)) hb); have n1_ := Aside0.mk (hbox); have n2_ := Aside0.mk ((by rw [hg]; exact (below_size (by repeat (first | (with_reducible first | exact HB.out | apply below_alloc | apply pw_below_drewN | apply below_drew1) | exact HB.out))) : w.heap.size ≤ gb116)); have n3_ := Aside0.mk ((by rw [hg]; exact (below_size (by repeat (first | (with_reducible first | exact HB.out | apply below_alloc | apply pw_below_drewN | apply below_drew1) | exact HB.out))) : w.heap.size ≤ gb116)); clear HB; have HB := n0_; have BK116 := n1_; have GW116 := n2_; have GE116 := n3_; clear n0_ n1_ n2_ n3_; clear hb hbox hg; have hcz4_0 : w3.cell? ⟨gb116, 0, none⟩ = some (.int .i64 a0_0) := (blk_cell BK116.out 0).trans rfl; have hcz4_1 : w3.cell? ⟨gb116, 1, none⟩ = some (.int .i64 a0_1) := (blk_cell BK116.out 1).trans rfl; have hcz4_2 : w3.cell? ⟨gb116, 2, none⟩ = some (.string a0_2) := (blk_cell BK116.out 2).trans rfl; have hcz4_3 : w3.cell? ⟨gb116, 3, none⟩ = some (.slice A0_3 l0_3.length c0_3) := (blk_cell BK116.out 3).trans rfl; have hfz4_0 := blk_frozen BK116.out 0; have hfz4_1 := blk_frozen BK116.out 1; have hfz4_2 := blk_frozen BK116.out 2; have hfz4_3 := blk_frozen BK116.out 3) | ((with_reducible refine gate_callee (f := 74) rfl ?_); refine goesL_ (some 4) rfl rfl Tryd.func74 (by kernel_rfl) rfl #[.agg #[.int .i64 a0_0, .int .i64 a0_1, .string a0_2, .slice A0_3 l0_3.length c0_3], .int .i64 0, .int .i64 100000] rfl (by (try simp only [List.map_toArray, List.map_cons, List.map_nil]); first | done | rfl | (simp only [List.length_drop, List.length_take]; rfl)) ?_; (with_reducible refine (spindleref08_count.calls k a0_0 a0_1 a0_2 _ _ l0_3 0 100000 t117 _ ?side1 ?side2 A2.out).mono ?_); (case side1 => repeat (first | exact (Kd.C_below HR0_3.out HB.out) | (with_reducible refine Kd.C_alloc ?_ _) | (with_reducible refine Kd.C_drewN ?_ _) | (with_reducible refine Kd.C_drew ?_))); (case side2 => exact HC0_3.out); rintro e w5 ⟨rfl, hb⟩; refine ⟨_, rfl, ?_⟩; have n0_ := Aside0.mk (blk_below (g := gb116) (o := .cells #[.int .i64 a0_0, .int .i64 a0_1, .string a0_2, .slice A0_3 l0_3.length c0_3] 84 (0, 0)) (by (with_reducible repeat (first | refine blk_drewN ?_ _ | refine blk_drew ?_ | refine blk_alloc ?_ _)); exact BK116.out) hb); have n1_ := Aside0.mk (below_step (by repeat (first | (with_reducible first | exact HB.out | apply below_alloc | apply pw_below_drewN | apply below_drew1 | refine below_set ?_ GE116.out) | exact HB.out)) hb); clear BK116; clear HB; have BK116 := n0_; have HB := n1_; clear n0_ n1_; (try clear hb); (try clear hb2); (try clear hk); (try clear hi)))
  go_ret
  exact ⟨by first | rfl | (simp [errW_none, errW_some] <;> rfl) | (simp [*, errW_none, errW_some] <;> rfl), by repeat (first | (with_reducible first | exact HB.out | apply below_alloc | apply pw_below_drewN | apply below_drew1 | refine below_set ?_ GE116.out) | exact HB.out)⟩

end Go.Proofs.YthighbbikpnpgaaDoor.PSh

/-! PShx4 -/
-- PRINTED by print.py (a twelfth state) out of the translation. Not trusted: Lean checks it.
namespace Go.Proofs.YthighbbikpnpgaaDoor.PSh
open Go.RowKit Go.Proofs.YthighbbikpnpgaaDoorW.PrintWords Go.Proofs.YthighbbikpnpgaaDoorW.PrintLast Go.Proofs.YthighbbikpnpgaaDoorW.PrintMore
attribute [local go_sem] max2_int min2_int max_two min_two max_three min_three max_four min_four   -- for this text's walks alone
set_option linter.unusedVariables false
set_option linter.unusedSimpArgs false

/-! ### spindleref08_Depth: function 51 -/
mutual
def spindleref08_Depth.l0 : Nat → Int → Int → Int → Int → Int → ByteArray → List (S84) → Option (Int)
  | 0, _, _, _, _, _, _, _ => none
  | k + 1, x1, x5, x6, x119000, x119001, x119002, x119003 => if x6 < (x119003.length : Int) then (if 0 ≤ x6 then ((spindleref08_Depth.f k ((rd_T84 x119003 x6).f0) ((rd_T84 x119003 x6).f1) ((rd_T84 x119003 x6).f2) ((rd_T84 x119003 x6).f3) (wrap64 (x1 - 1))).bind fun t120 => (spindleref08_Depth.l0 k x1 (mx x5 t120) (wrap64 (x6 + 1)) x119000 x119001 x119002 x119003)) else (none)) else (some (wrap64 (x5 + 1)))
def spindleref08_Depth.f : Nat → Int → Int → ByteArray → List (S84) → Int → Option (Int)
  | 0, _, _, _, _, _ => none
  | k + 1, a0_0, a0_1, a0_2, l0_3, a1 => if a1 > 0 then (spindleref08_Depth.l0 k a1 0 0 a0_0 a0_1 a0_2 l0_3) else (some (0 + 1))
end
theorem spindleref08_Depth.mono_l : ∀ k, (∀ y0 y1 y2 y3 y4, LeO (spindleref08_Depth.f k y0 y1 y2 y3 y4) (spindleref08_Depth.f (k + 1) y0 y1 y2 y3 y4)) ∧ (∀ y0 y1 y2 y3 y4 y5 y6, LeO (spindleref08_Depth.l0 k y0 y1 y2 y3 y4 y5 y6) (spindleref08_Depth.l0 (k + 1) y0 y1 y2 y3 y4 y5 y6))
  | 0 => ⟨fun _ _ _ _ _ r h => by simp [spindleref08_Depth.f] at h, fun _ _ _ _ _ _ _ r h => by simp [spindleref08_Depth.l0] at h⟩
  | k + 1 => by
    obtain ⟨ih0, ih1⟩ := spindleref08_Depth.mono_l k
    refine ⟨?_, ?_⟩
    · intro y0 y1 y2 y3 y4
      unfold spindleref08_Depth.f
      repeat' first
      | (with_reducible exact ih0 _ _ _ _ _)
      | (with_reducible exact ih1 _ _ _ _ _ _ _)
      | (with_reducible exact LeO.refl _)
      | (with_reducible exact LeO.none _)
      | (with_reducible refine LeO.ite ?_ ?_)
      | (with_reducible refine LeO.bind ?_ (fun _ => ?_))
      | exact ih0 _ _ _ _ _
      | exact ih1 _ _ _ _ _ _ _
      | exact LeO.none _
      | refine LeO.ite ?_ ?_
      | refine LeO.bind ?_ (fun _ => ?_)
    · intro y0 y1 y2 y3 y4 y5 y6
      unfold spindleref08_Depth.l0
      repeat' first
      | (with_reducible exact ih0 _ _ _ _ _)
      | (with_reducible exact ih1 _ _ _ _ _ _ _)
      | (with_reducible exact LeO.refl _)
      | (with_reducible exact LeO.none _)
      | (with_reducible refine LeO.ite ?_ ?_)
      | (with_reducible refine LeO.bind ?_ (fun _ => ?_))
      | exact ih0 _ _ _ _ _
      | exact ih1 _ _ _ _ _ _ _
      | exact LeO.none _
      | refine LeO.ite ?_ ?_
      | refine LeO.bind ?_ (fun _ => ?_)
theorem spindleref08_Depth.mono : ∀ a0 a1 a2 a3 a4 k, LeO (spindleref08_Depth.f k a0 a1 a2 a3 a4) (spindleref08_Depth.f (k + 1) a0 a1 a2 a3 a4) := by
  intro a0 a1 a2 a3 a4 k
  obtain ⟨ih0, ih1⟩ := spindleref08_Depth.mono_l k
  exact ih0 a0 a1 a2 a3 a4
set_option maxHeartbeats 8000000 in
set_option maxRecDepth 100000 in
theorem spindleref08_Depth.calls (k : Nat) : ∀ (a0_0 : Int) (a0_1 : Int) (a0_2 : ByteArray) (A0_3 : Option Addr) (c0_3 : Nat) (l0_3 : List (S84)) (a1 : Int) (r : Int) (w : World) (hr0_3 : Kd.C k84 w A0_3 l0_3.length l0_3) (hc0_3 : l0_3.length ≤ c0_3) (h : spindleref08_Depth.f k a0_0 a0_1 a0_2 l0_3 a1 = some r),
    Calls Tryd.prog 51 #[.agg #[.int .i64 a0_0, .int .i64 a0_1, .string a0_2, .slice A0_3 l0_3.length c0_3], .int .i64 a1] w fun e w' => e = .returned (.int .i64 r) ∧ Below w.heap.size w w' := by
  induction k using Nat.strongRecOn with
  | _ k ih =>
  intro a0_0 a0_1 a0_2 A0_3 c0_3 l0_3 a1 r w hr0_3 hc0_3 h
  cases k with
  | zero => exact absurd h (by simp [spindleref08_Depth.f])
  | succ k =>
  simp only [spindleref08_Depth.f] at h
  have hu84 := Tryd.underlying84
  have HR0_3 := Aside0.mk hr0_3
  have HC0_3 := Aside0.mk hc0_3
  clear hr0_3 hc0_3
  have HB := Aside0.mk (Below.refl w.heap.size w)
  have H : (if a1 > 0 then (spindleref08_Depth.l0 k a1 0 0 a0_0 a0_1 a0_2 l0_3) else (some (0 + 1))) = some r := h
  clear h
  by_cases c3 : a1 > 0
  · rw [if_pos c3] at H
    have c3b0 : decide (0 < a1) = true := decide_eq_true c3
    clear c3
    have H' := Aside0.mk H
    clear H
    go_enter Tryd.func51, Tryd.ntmps51
    go_wp2_with (first | ((with_reducible refine gate_dst (N := 2) rfl ?_); refine box_event ?hg (N := 2) ?hd (cs := #[.int .i64 a0_0, .int .i64 a0_1, .string a0_2, .slice A0_3 l0_3.length c0_3]) (t := 84) ?hr ?_; (case hd => rfl); (case hg => rfl); (case hr => first | (go_simp; done) | (go_simp; rfl)); intro gb118 hg w4 hbox hb; have n0_ := Aside0.mk (below_step (by repeat (first | (with_reducible first | exact HB.out | apply below_alloc | apply pw_below_drewN | apply below_drew1) | exact HB.out)) hb); have n1_ := Aside0.mk (hbox); have n2_ := Aside0.mk ((by rw [hg]; exact (below_size (by repeat (first | (with_reducible first | exact HB.out | apply below_alloc | apply pw_below_drewN | apply below_drew1) | exact HB.out))) : w.heap.size ≤ gb118)); have n3_ := Aside0.mk ((by rw [hg]; exact (below_size (by repeat (first | (with_reducible first | exact HB.out | apply below_alloc | apply pw_below_drewN | apply below_drew1) | exact HB.out))) : w.heap.size ≤ gb118)); clear HB; have HB := n0_; have BK118 := n1_; have GW118 := n2_; have GE118 := n3_; clear n0_ n1_ n2_ n3_; clear hb hbox hg))
    go_loopg [5, 6] k (fun kq v5 v6 w' => ∃ (x5_1 : Int) (x6_1 : Int), v5 = .int .i64 x5_1 ∧ v6 = .int .i64 x6_1 ∧ Aside0 (spindleref08_Depth.l0 kq a1 x5_1 x6_1 a0_0 a0_1 a0_2 l0_3 = some r) ∧ Aside0 (kq ≤ k) ∧ Aside0 (w'.heap[gb118]? = some (.cells #[.int .i64 a0_0, .int .i64 a0_1, .string a0_2, (.slice A0_3 l0_3.length c0_3)] 84 (0, 0))) ∧ Aside0 (Below w.heap.size w w'))
    case atStart => exact ⟨(0), (0), (by first | rfl | (simp; done) | (simp [*]; done)), (by first | rfl | (simp; done) | (simp [*]; done)), H', ⟨Nat.le_refl _⟩, ⟨by (with_reducible repeat (first | refine blk_drewN ?_ _ | refine blk_drew ?_ | refine blk_alloc ?_ _)); exact BK118.out⟩, ⟨by repeat (first | (with_reducible first | exact HB.out | apply below_alloc | apply pw_below_drewN | apply below_drew1 | refine below_set ?_ GE118.out) | exact HB.out)⟩⟩
    case round =>
      clear H'
      try clear p2
      try clear c3
      try clear c3b0
      obtain ⟨x5_1, x6_1, rfl, rfl, HA, HK1, BK118, HB⟩ := hrel
      cases gk with
      | zero => exact absurd HA.out (by simp [spindleref08_Depth.l0])
      | succ k1 =>
        have H := HA.out
        clear HA
        simp only [spindleref08_Depth.l0] at H
        by_cases c5 : x6_1 < (l0_3.length : Int)
        · rw [if_pos c5] at H
          have c5b0 : decide (x6_1 < (l0_3.length : Int)) = true := decide_eq_true c5
          clear c5
          by_cases c6 : 0 ≤ x6_1
          · rw [if_pos c6] at H
            have c6b0 : decide (0 ≤ x6_1) = true := decide_eq_true c6
            clear c6
            replace H := Option.bind_eq_some_iff.mp H
            obtain ⟨t120, A70, H⟩ := H
            replace H : (spindleref08_Depth.l0 k1 a1 (mx x5_1 t120) (wrap64 (x6_1 + 1)) a0_0 a0_1 a0_2 l0_3) = some r := H
            have A7 := Aside0.mk A70
            clear A70
            obtain ⟨ji8, hji8⟩ : ∃ j_ : Int, (mx x5_1 t120) = j_ := ⟨_, rfl⟩
            replace H : (spindleref08_Depth.l0 k1 a1 ji8 (wrap64 (x6_1 + 1)) a0_0 a0_1 a0_2 l0_3) = some r := by first | (rw [hji8] at H; exact H) | (simp only [hji8] at H ⊢; exact H)
            (try rw [hji8] at A7)
            have hji8_ : (if x5_1 < t120 then t120 else x5_1) = ji8 := hji8
            have H' := Aside0.mk H
            clear H
            have hcz9_0 : wr.cell? ⟨gb118, 0, none⟩ = some (.int .i64 a0_0) := (blk_cell BK118.out 0).trans rfl
            have hcz9_1 : wr.cell? ⟨gb118, 1, none⟩ = some (.int .i64 a0_1) := (blk_cell BK118.out 1).trans rfl
            have hcz9_2 : wr.cell? ⟨gb118, 2, none⟩ = some (.string a0_2) := (blk_cell BK118.out 2).trans rfl
            have hcz9_3 : wr.cell? ⟨gb118, 3, none⟩ = some (.slice A0_3 l0_3.length c0_3) := (blk_cell BK118.out 3).trans rfl
            have hfz9_0 := blk_frozen BK118.out 0
            have hfz9_1 := blk_frozen BK118.out 1
            have hfz9_2 := blk_frozen BK118.out 2
            have hfz9_3 := blk_frozen BK118.out 3
            have p119 : 0 ≤ (x6_1 : Int) := of_decide_eq_true (by first | (with_reducible assumption) | assumption)
            have q119 : x6_1 < (l0_3.length : Int) := of_decide_eq_true (by first | (with_reducible assumption) | assumption)
            obtain ⟨ad119, A119_3, c119_3, e119, hx119_0, hx119_1, hx119_2, hx119_3, hl119_3, hi119_3⟩ := at_T84 HR0_3.out x6_1 p119 q119
            cases e119
            replace hx119_0 := (HB.out.cell (World.block_lt_of_cell? w _ hx119_0)).trans hx119_0
            replace hx119_1 := (HB.out.cell (World.block_lt_of_cell? w _ hx119_1)).trans hx119_1
            replace hx119_2 := (HB.out.cell (World.block_lt_of_cell? w _ hx119_2)).trans hx119_2
            replace hx119_3 := (HB.out.cell (World.block_lt_of_cell? w _ hx119_3)).trans hx119_3
            have HR119_3 := Aside0.mk hi119_3
            have HC119_3 := Aside0.mk hl119_3
            clear hi119_3 hl119_3
            replace p119 := eq_true p119
            replace q119 := eq_true q119
            go_wp2_with (first | ((with_reducible refine gate_callee (f := 51) rfl ?_); refine goesL_ (some 24) rfl rfl Tryd.func51 (by kernel_rfl) rfl #[.agg #[.int .i64 ((rd_T84 l0_3 x6_1).f0), .int .i64 ((rd_T84 l0_3 x6_1).f1), .string ((rd_T84 l0_3 x6_1).f2), .slice A119_3 ((rd_T84 l0_3 x6_1).f3).length c119_3], .int .i64 (wrap64 (a1 - 1))] rfl (by (try simp only [List.map_toArray, List.map_cons, List.map_nil]); first | done | rfl | (simp only [List.length_drop, List.length_take]; rfl)) ?_; (with_reducible refine (ih k1 (by have := HK1.out; omega) ((rd_T84 l0_3 x6_1).f0) ((rd_T84 l0_3 x6_1).f1) ((rd_T84 l0_3 x6_1).f2) _ _ ((rd_T84 l0_3 x6_1).f3) (wrap64 (a1 - 1)) t120 _ ?side1 ?side2 A7.out).mono ?_); (case side1 => repeat (first | exact (Kd.C_below HR119_3.out HB.out) | (with_reducible refine Kd.C_alloc ?_ _) | (with_reducible refine Kd.C_drewN ?_ _) | (with_reducible refine Kd.C_drew ?_))); (case side2 => exact HC119_3.out); rintro e w10 ⟨rfl, hb⟩; refine ⟨_, rfl, ?_⟩; have n0_ := Aside0.mk (blk_below (g := gb118) (o := .cells #[.int .i64 a0_0, .int .i64 a0_1, .string a0_2, .slice (some ad119) l0_3.length c0_3] 84 (0, 0)) (by (with_reducible repeat (first | refine blk_drewN ?_ _ | refine blk_drew ?_ | refine blk_alloc ?_ _)); exact BK118.out) hb); have n1_ := Aside0.mk (below_step (by repeat (first | (with_reducible first | exact HB.out | apply below_alloc | apply pw_below_drewN | apply below_drew1 | refine below_set ?_ GE118.out) | exact HB.out)) hb); clear BK118; clear HB; have BK118 := n0_; have HB := n1_; clear n0_ n1_; (try clear hb); (try clear hb2); (try clear hk); (try clear hi)))
            go_roundg k1
            case measure => have := HK1.out; omega
            case rel => exact ⟨(ji8), (wrap64 (x6_1 + 1)), (by first | rfl | (simp; done) | (simp only [← hji8] <;> (first | rfl | simp)) | (simp [*]; done)), (by first | rfl | (simp; done) | (simp [*]; done)), H', ⟨by have := HK1.out; omega⟩, ⟨by (with_reducible repeat (first | refine blk_drewN ?_ _ | refine blk_drew ?_ | refine blk_alloc ?_ _)); exact BK118.out⟩, ⟨by repeat (first | (with_reducible first | exact HB.out | apply below_alloc | apply pw_below_drewN | apply below_drew1 | refine below_set ?_ GE118.out) | exact HB.out)⟩⟩
          · rw [if_neg c6] at H
            exact absurd H (by simp)
        · rw [if_neg c5] at H
          have c5b0 : decide (x6_1 < (l0_3.length : Int)) = false := decide_eq_false c5
          clear c5
          obtain rfl := Option.some.inj H
          have hcz11_0 : wr.cell? ⟨gb118, 0, none⟩ = some (.int .i64 a0_0) := (blk_cell BK118.out 0).trans rfl
          have hcz11_1 : wr.cell? ⟨gb118, 1, none⟩ = some (.int .i64 a0_1) := (blk_cell BK118.out 1).trans rfl
          have hcz11_2 : wr.cell? ⟨gb118, 2, none⟩ = some (.string a0_2) := (blk_cell BK118.out 2).trans rfl
          have hcz11_3 : wr.cell? ⟨gb118, 3, none⟩ = some (.slice A0_3 l0_3.length c0_3) := (blk_cell BK118.out 3).trans rfl
          have hfz11_0 := blk_frozen BK118.out 0
          have hfz11_1 := blk_frozen BK118.out 1
          have hfz11_2 := blk_frozen BK118.out 2
          have hfz11_3 := blk_frozen BK118.out 3
          go_wp2
          go_ret
          exact ⟨by first | rfl | (simp [errW_none, errW_some] <;> rfl) | (simp [*, errW_none, errW_some] <;> rfl), by repeat (first | (with_reducible first | exact HB.out | apply below_alloc | apply pw_below_drewN | apply below_drew1 | refine below_set ?_ GE118.out) | exact HB.out)⟩
  · rw [if_neg c3] at H
    have c3b0 : decide (0 < a1) = false := decide_eq_false c3
    clear c3
    obtain rfl := Option.some.inj H
    go_enter Tryd.func51, Tryd.ntmps51
    go_wp2_with (first | ((with_reducible refine gate_dst (N := 2) rfl ?_); refine box_event ?hg (N := 2) ?hd (cs := #[.int .i64 a0_0, .int .i64 a0_1, .string a0_2, .slice A0_3 l0_3.length c0_3]) (t := 84) ?hr ?_; (case hd => rfl); (case hg => rfl); (case hr => first | (go_simp; done) | (go_simp; rfl)); intro gb118 hg w12 hbox hb; have n0_ := Aside0.mk (below_step (by repeat (first | (with_reducible first | exact HB.out | apply below_alloc | apply pw_below_drewN | apply below_drew1) | exact HB.out)) hb); have n1_ := Aside0.mk (hbox); have n2_ := Aside0.mk ((by rw [hg]; exact (below_size (by repeat (first | (with_reducible first | exact HB.out | apply below_alloc | apply pw_below_drewN | apply below_drew1) | exact HB.out))) : w.heap.size ≤ gb118)); have n3_ := Aside0.mk ((by rw [hg]; exact (below_size (by repeat (first | (with_reducible first | exact HB.out | apply below_alloc | apply pw_below_drewN | apply below_drew1) | exact HB.out))) : w.heap.size ≤ gb118)); clear HB; have HB := n0_; have BK118 := n1_; have GW118 := n2_; have GE118 := n3_; clear n0_ n1_ n2_ n3_; clear hb hbox hg))
    go_ret
    exact ⟨by first | rfl | (simp [errW_none, errW_some] <;> rfl) | (simp [*, errW_none, errW_some] <;> rfl), by repeat (first | (with_reducible first | exact HB.out | apply below_alloc | apply pw_below_drewN | apply below_drew1 | refine below_set ?_ GE118.out) | exact HB.out)⟩

end Go.Proofs.YthighbbikpnpgaaDoor.PSh

/-! PShx9 -/
-- PRINTED by print.py (a twelfth state) out of the translation. Not trusted: Lean checks it.
namespace Go.Proofs.YthighbbikpnpgaaDoor.PSh
open Go.RowKit Go.Proofs.YthighbbikpnpgaaDoorW.PrintWords Go.Proofs.YthighbbikpnpgaaDoorW.PrintLast Go.Proofs.YthighbbikpnpgaaDoorW.PrintMore
attribute [local go_sem] max2_int min2_int max_two min_two max_three min_three max_four min_four   -- for this text's walks alone
set_option linter.unusedVariables false
set_option linter.unusedSimpArgs false

/-! ### spindleref08_Small: function 42 -/
def spindleref08_Small.f (k : Nat) (a0_0 : Int) (a0_1 : Int) (a0_2 : ByteArray) (l0_3 : List (S84)) : Option (Bool) := (spindleref08_Parts.f k a0_0 a0_1 a0_2 l0_3).bind fun t133 => (if t133 < 5000 then ((spindleref08_Depth.f k a0_0 a0_1 a0_2 l0_3 100).bind fun t134 => (some (decide (t134 ≤ 90)))) else (some false))
theorem spindleref08_Small.mono : ∀ a0 a1 a2 a3 k, LeO (spindleref08_Small.f k a0 a1 a2 a3) (spindleref08_Small.f (k + 1) a0 a1 a2 a3) := by
  intro a0 a1 a2 a3 k
  unfold spindleref08_Small.f
  repeat' first
      | (with_reducible exact spindleref08_Depth.mono _ _ _ _ _ _)
      | (with_reducible exact spindleref08_Parts.mono _ _ _ _ _)
      | (with_reducible exact LeO.refl _)
      | (with_reducible exact LeO.none _)
      | (with_reducible refine LeO.ite ?_ ?_)
      | (with_reducible refine LeO.bind ?_ (fun _ => ?_))
      | exact spindleref08_Depth.mono _ _ _ _ _ _
      | exact spindleref08_Parts.mono _ _ _ _ _
      | exact LeO.none _
      | refine LeO.ite ?_ ?_
      | refine LeO.bind ?_ (fun _ => ?_)
set_option maxHeartbeats 8000000 in
set_option maxRecDepth 100000 in
theorem spindleref08_Small.calls (k : Nat) (a0_0 : Int) (a0_1 : Int) (a0_2 : ByteArray) (A0_3 : Option Addr) (c0_3 : Nat) (l0_3 : List (S84)) (r : Bool) (w : World) (hr0_3 : Kd.C k84 w A0_3 l0_3.length l0_3) (hc0_3 : l0_3.length ≤ c0_3) (h : spindleref08_Small.f k a0_0 a0_1 a0_2 l0_3 = some r) :
    Calls Tryd.prog 42 #[.agg #[.int .i64 a0_0, .int .i64 a0_1, .string a0_2, .slice A0_3 l0_3.length c0_3]] w fun e w' => e = .returned (.bool r) ∧ Below w.heap.size w w' := by
  have hu84 := Tryd.underlying84
  have HR0_3 := Aside0.mk hr0_3
  have HC0_3 := Aside0.mk hc0_3
  clear hr0_3 hc0_3
  have HB := Aside0.mk (Below.refl w.heap.size w)
  have H : ((spindleref08_Parts.f k a0_0 a0_1 a0_2 l0_3).bind fun t133 => (if t133 < 5000 then ((spindleref08_Depth.f k a0_0 a0_1 a0_2 l0_3 100).bind fun t134 => (some (decide (t134 ≤ 90)))) else (some false))) = some r := h
  clear h
  replace H := Option.bind_eq_some_iff.mp H
  obtain ⟨t133, A20, H⟩ := H
  replace H : (if t133 < 5000 then ((spindleref08_Depth.f k a0_0 a0_1 a0_2 l0_3 100).bind fun t134 => (some (decide (t134 ≤ 90)))) else (some false)) = some r := H
  have A2 := Aside0.mk A20
  clear A20
  by_cases c3 : t133 < 5000
  · rw [if_pos c3] at H
    have c3b0 : decide (t133 < 5000) = true := decide_eq_true c3
    clear c3
    replace H := Option.bind_eq_some_iff.mp H
    obtain ⟨t134, A40, H⟩ := H
    replace H : (some (decide (t134 ≤ 90))) = some r := H
    have A4 := Aside0.mk A40
    clear A40
    obtain rfl := Option.some.inj H
    go_enter Tryd.func42, Tryd.ntmps42
    go_wp2_with (first | ((with_reducible refine gate_dst (N := 1) rfl ?_); refine box_event ?hg (N := 1) ?hd (cs := #[.int .i64 a0_0, .int .i64 a0_1, .string a0_2, .slice A0_3 l0_3.length c0_3]) (t := 84) ?hr ?_; (case hd => rfl); (case hg => rfl); (case hr => first | (go_simp; done) | (go_simp; rfl)); intro gb132 hg w5 hbox hb; have n0_ := Aside0.mk (below_step (by repeat (first | (with_reducible first | exact HB.out | apply below_alloc | apply pw_below_drewN | apply below_drew1) | exact HB.out)) hb); have n1_ := Aside0.mk (hbox); have n2_ := Aside0.mk ((by rw [hg]; exact (below_size (by repeat (first | (with_reducible first | exact HB.out | apply below_alloc | apply pw_below_drewN | apply below_drew1) | exact HB.out))) : w.heap.size ≤ gb132)); have n3_ := Aside0.mk ((by rw [hg]; exact (below_size (by repeat (first | (with_reducible first | exact HB.out | apply below_alloc | apply pw_below_drewN | apply below_drew1) | exact HB.out))) : w.heap.size ≤ gb132)); clear HB; have HB := n0_; have BK132 := n1_; have GW132 := n2_; have GE132 := n3_; clear n0_ n1_ n2_ n3_; clear hb hbox hg; have hcz6_0 : w5.cell? ⟨gb132, 0, none⟩ = some (.int .i64 a0_0) := (blk_cell BK132.out 0).trans rfl; have hcz6_1 : w5.cell? ⟨gb132, 1, none⟩ = some (.int .i64 a0_1) := (blk_cell BK132.out 1).trans rfl; have hcz6_2 : w5.cell? ⟨gb132, 2, none⟩ = some (.string a0_2) := (blk_cell BK132.out 2).trans rfl; have hcz6_3 : w5.cell? ⟨gb132, 3, none⟩ = some (.slice A0_3 l0_3.length c0_3) := (blk_cell BK132.out 3).trans rfl; have hfz6_0 := blk_frozen BK132.out 0; have hfz6_1 := blk_frozen BK132.out 1; have hfz6_2 := blk_frozen BK132.out 2; have hfz6_3 := blk_frozen BK132.out 3) | ((with_reducible refine gate_callee (f := 50) rfl ?_); refine goesL_ (some 4) rfl rfl Tryd.func50 (by kernel_rfl) rfl #[.agg #[.int .i64 a0_0, .int .i64 a0_1, .string a0_2, .slice A0_3 l0_3.length c0_3]] rfl (by (try simp only [List.map_toArray, List.map_cons, List.map_nil]); first | done | rfl | (simp only [List.length_drop, List.length_take]; rfl)) ?_; (with_reducible refine (spindleref08_Parts.calls k a0_0 a0_1 a0_2 _ _ l0_3 t133 _ ?side1 ?side2 A2.out).mono ?_); (case side1 => repeat (first | exact (Kd.C_below HR0_3.out HB.out) | (with_reducible refine Kd.C_alloc ?_ _) | (with_reducible refine Kd.C_drewN ?_ _) | (with_reducible refine Kd.C_drew ?_))); (case side2 => exact HC0_3.out); rintro e w7 ⟨rfl, hb⟩; refine ⟨_, rfl, ?_⟩; have n0_ := Aside0.mk (blk_below (g := gb132) (o := .cells #[.int .i64 a0_0, .int .i64 a0_1, .string a0_2, .slice A0_3 l0_3.length c0_3] 84 (0, 0)) (by (with_reducible repeat (first | refine blk_drewN ?_ _ | refine blk_drew ?_ | refine blk_alloc ?_ _)); exact BK132.out) hb); have n1_ := Aside0.mk (below_step (by repeat (first | (with_reducible first | exact HB.out | apply below_alloc | apply pw_below_drewN | apply below_drew1 | refine below_set ?_ GE132.out) | exact HB.out)) hb); clear BK132; clear HB; have BK132 := n0_; have HB := n1_; clear n0_ n1_; (try clear hb); (try clear hb2); (try clear hk); (try clear hi); have hcz8_0 : w7.cell? ⟨gb132, 0, none⟩ = some (.int .i64 a0_0) := (blk_cell BK132.out 0).trans rfl; have hcz8_1 : w7.cell? ⟨gb132, 1, none⟩ = some (.int .i64 a0_1) := (blk_cell BK132.out 1).trans rfl; have hcz8_2 : w7.cell? ⟨gb132, 2, none⟩ = some (.string a0_2) := (blk_cell BK132.out 2).trans rfl; have hcz8_3 : w7.cell? ⟨gb132, 3, none⟩ = some (.slice A0_3 l0_3.length c0_3) := (blk_cell BK132.out 3).trans rfl; have hfz8_0 := blk_frozen BK132.out 0; have hfz8_1 := blk_frozen BK132.out 1; have hfz8_2 := blk_frozen BK132.out 2; have hfz8_3 := blk_frozen BK132.out 3) | (go_at_call 51; (with_reducible refine (spindleref08_Depth.calls k a0_0 a0_1 a0_2 _ _ l0_3 100 t134 _ ?side1 ?side2 A4.out).mono ?_); (case side1 => repeat (first | exact (Kd.C_below HR0_3.out HB.out) | (with_reducible refine Kd.C_alloc ?_ _) | (with_reducible refine Kd.C_drewN ?_ _) | (with_reducible refine Kd.C_drew ?_))); (case side2 => exact HC0_3.out); rintro e w9 ⟨rfl, hb⟩; have n0_ := Aside0.mk (blk_below (g := gb132) (o := .cells #[.int .i64 a0_0, .int .i64 a0_1, .string a0_2, .slice A0_3 l0_3.length c0_3] 84 (0, 0)) (by (with_reducible repeat (first | refine blk_drewN ?_ _ | refine blk_drew ?_ | refine blk_alloc ?_ _)); exact BK132.out) hb); have n1_ := Aside0.mk (below_step (by repeat (first | (with_reducible first | exact HB.out | apply below_alloc | apply pw_below_drewN | apply below_drew1 | refine below_set ?_ GE132.out) | exact HB.out)) hb); clear BK132; clear HB; have BK132 := n0_; have HB := n1_; clear n0_ n1_; (try clear hb); (try clear hb2); (try clear hk); (try clear hi)))
    go_ret
    exact ⟨by first | rfl | (simp [errW_none, errW_some] <;> rfl) | (simp [*, errW_none, errW_some] <;> rfl), by repeat (first | (with_reducible first | exact HB.out | apply below_alloc | apply pw_below_drewN | apply below_drew1 | refine below_set ?_ GE132.out) | exact HB.out)⟩
  · rw [if_neg c3] at H
    have c3b0 : decide (t133 < 5000) = false := decide_eq_false c3
    clear c3
    obtain rfl := Option.some.inj H
    go_enter Tryd.func42, Tryd.ntmps42
    go_wp2_with (first | ((with_reducible refine gate_dst (N := 1) rfl ?_); refine box_event ?hg (N := 1) ?hd (cs := #[.int .i64 a0_0, .int .i64 a0_1, .string a0_2, .slice A0_3 l0_3.length c0_3]) (t := 84) ?hr ?_; (case hd => rfl); (case hg => rfl); (case hr => first | (go_simp; done) | (go_simp; rfl)); intro gb132 hg w10 hbox hb; have n0_ := Aside0.mk (below_step (by repeat (first | (with_reducible first | exact HB.out | apply below_alloc | apply pw_below_drewN | apply below_drew1) | exact HB.out)) hb); have n1_ := Aside0.mk (hbox); have n2_ := Aside0.mk ((by rw [hg]; exact (below_size (by repeat (first | (with_reducible first | exact HB.out | apply below_alloc | apply pw_below_drewN | apply below_drew1) | exact HB.out))) : w.heap.size ≤ gb132)); have n3_ := Aside0.mk ((by rw [hg]; exact (below_size (by repeat (first | (with_reducible first | exact HB.out | apply below_alloc | apply pw_below_drewN | apply below_drew1) | exact HB.out))) : w.heap.size ≤ gb132)); clear HB; have HB := n0_; have BK132 := n1_; have GW132 := n2_; have GE132 := n3_; clear n0_ n1_ n2_ n3_; clear hb hbox hg; have hcz11_0 : w10.cell? ⟨gb132, 0, none⟩ = some (.int .i64 a0_0) := (blk_cell BK132.out 0).trans rfl; have hcz11_1 : w10.cell? ⟨gb132, 1, none⟩ = some (.int .i64 a0_1) := (blk_cell BK132.out 1).trans rfl; have hcz11_2 : w10.cell? ⟨gb132, 2, none⟩ = some (.string a0_2) := (blk_cell BK132.out 2).trans rfl; have hcz11_3 : w10.cell? ⟨gb132, 3, none⟩ = some (.slice A0_3 l0_3.length c0_3) := (blk_cell BK132.out 3).trans rfl; have hfz11_0 := blk_frozen BK132.out 0; have hfz11_1 := blk_frozen BK132.out 1; have hfz11_2 := blk_frozen BK132.out 2; have hfz11_3 := blk_frozen BK132.out 3) | ((with_reducible refine gate_callee (f := 50) rfl ?_); refine goesL_ (some 4) rfl rfl Tryd.func50 (by kernel_rfl) rfl #[.agg #[.int .i64 a0_0, .int .i64 a0_1, .string a0_2, .slice A0_3 l0_3.length c0_3]] rfl (by (try simp only [List.map_toArray, List.map_cons, List.map_nil]); first | done | rfl | (simp only [List.length_drop, List.length_take]; rfl)) ?_; (with_reducible refine (spindleref08_Parts.calls k a0_0 a0_1 a0_2 _ _ l0_3 t133 _ ?side1 ?side2 A2.out).mono ?_); (case side1 => repeat (first | exact (Kd.C_below HR0_3.out HB.out) | (with_reducible refine Kd.C_alloc ?_ _) | (with_reducible refine Kd.C_drewN ?_ _) | (with_reducible refine Kd.C_drew ?_))); (case side2 => exact HC0_3.out); rintro e w12 ⟨rfl, hb⟩; refine ⟨_, rfl, ?_⟩; have n0_ := Aside0.mk (blk_below (g := gb132) (o := .cells #[.int .i64 a0_0, .int .i64 a0_1, .string a0_2, .slice A0_3 l0_3.length c0_3] 84 (0, 0)) (by (with_reducible repeat (first | refine blk_drewN ?_ _ | refine blk_drew ?_ | refine blk_alloc ?_ _)); exact BK132.out) hb); have n1_ := Aside0.mk (below_step (by repeat (first | (with_reducible first | exact HB.out | apply below_alloc | apply pw_below_drewN | apply below_drew1 | refine below_set ?_ GE132.out) | exact HB.out)) hb); clear BK132; clear HB; have BK132 := n0_; have HB := n1_; clear n0_ n1_; (try clear hb); (try clear hb2); (try clear hk); (try clear hi)))
    go_ret
    exact ⟨by first | rfl | (simp [errW_none, errW_some] <;> rfl) | (simp [*, errW_none, errW_some] <;> rfl), by repeat (first | (with_reducible first | exact HB.out | apply below_alloc | apply pw_below_drewN | apply below_drew1 | refine below_set ?_ GE132.out) | exact HB.out)⟩

end Go.Proofs.YthighbbikpnpgaaDoor.PSh

/-! ShL -/
namespace Go.Proofs.YthighbbikpnpgaaDoor
open Go.RowKit Go.Proofs.YthighbbikpnpgaaDoor.PSh Go.Proofs.YthighbbikpnpgaaDoorW.PrintWords

theorem rd_at {L : List Dat} {j : Nat} (h : j < L.length) : rd_T84 L (j : Int) = L[j] := by
  unfold rd_T84
  rw [Int.toNat_natCast, List.getD_eq_getElem?_getD, List.getElem?_eq_getElem h]
  rfl
theorem dat_eta (x : Dat) : (⟨x.f0, x.f1, x.f2, x.f3⟩ : Dat) = x := by cases x; rfl
theorem sz_cons {x : Dat} {r : List Dat} : SizeOf.sizeOf (x :: r) = 1 + szD x + SizeOf.sizeOf r := by simp [szD]
theorem sz_dat {a b : Int} {c : ByteArray} {l : List Dat} : SizeOf.sizeOf l + 1 ≤ szD ⟨a, b, c, l⟩ := by simp [szD]; omega

theorem wrapS {j : Nat} (h : j < 9223372036854775807) : wrap64 ((j : Int) + 1) = ((j + 1 : Nat) : Int) := by unfold wrap64; omega
theorem wrapP {far : Int} (h : 0 ≤ far) (h2 : far ≤ 9223372036854775807) : wrap64 (far - 1) = far - 1 := by unfold wrap64; omega
theorem wrapN {far : Nat} (h : 0 < far) (h2 : far ≤ 9223372036854775807) : wrap64 ((far : Int) - 1) = ((far - 1 : Nat) : Int) := by unfold wrap64; omega

theorem count_f (m : Nat) : ∀ x : Dat, szD x < m → ∀ (n : Nat) (far : Int) (K : Nat), n < 5000 → 6000 ≤ n + far → far ≤ 100000 → 3 * szD x ≤ K →
    spindleref08_count.f K x.f0 x.f1 x.f2 x.f3 (n : Int) far = some (cnt x n : Int) := by
  induction m with
  | zero => intro x h; omega
  | succ m ih =>
    intro x hx n far K hn hf hf2 hK
    have hxs : ∀ y ∈ x.f3, szD y < m := fun y hy => by have := dat_lt hy; omega
    obtain ⟨a, b, c, L⟩ := x
    have hs := sz_dat (a := a) (b := b) (c := c) (l := L)
    obtain ⟨K, rfl⟩ : ∃ k, K = k + 1 := ⟨K - 1, by omega⟩
    simp only [spindleref08_count.f]
    rw [wrapS (by omega), cnt]
    have l0 : ∀ (d j k K : Nat), d = L.length - j → j ≤ L.length → j ≤ k → k ≤ 5000 → 6001 ≤ k + far → 3 * SizeOf.sizeOf (L.drop j) ≤ K →
        spindleref08_count.l0 K (k : Int) far (j : Int) a b c L = some (cntL (L.drop j) k : Int) := by
      intro d
      induction d with
      | zero =>
        intro j k K hd hj hjk hk hf hK
        obtain rfl : j = L.length := by omega
        obtain ⟨K, rfl⟩ : ∃ k, K = k + 1 := ⟨K - 1, by simp at hK; omega⟩
        simp only [spindleref08_count.l0]
        rw [if_neg (by omega), List.drop_length, cntL]
        congr 1
        unfold mn
        omega
      | succ d ihd =>
        intro j k K hd hj hjk hk hf hK
        have hlt : j < L.length := by omega
        rw [List.drop_eq_getElem_cons hlt] at hK ⊢
        rw [sz_cons] at hK
        obtain ⟨K, rfl⟩ : ∃ k, K = k + 1 := ⟨K - 1, by omega⟩
        simp only [spindleref08_count.l0]
        rw [if_pos (by omega)]
        by_cases h5 : 5000 ≤ k
        · rw [if_neg (by omega), cntL_stop _ _ h5]
          congr 1
          unfold mn
          omega
        · rw [if_pos (by omega), if_pos (by omega), if_pos (by omega), rd_at hlt, cntL_next _ _ _ h5]
          have hcb := cnt_bound m L[j] (hxs L[j] (List.getElem_mem hlt)) k (by omega)
          rw [wrapP (by omega) (by omega), wrapS (by omega), ih L[j] (hxs L[j] (List.getElem_mem hlt)) k (far - 1) K (by omega) (by omega) (by omega) (by omega)]
          simp only [Option.bind_some]
          exact ihd (j + 1) (cnt L[j] k) K (by omega) (by omega) (by omega) hcb.2 (by omega) (by omega)
    have := l0 L.length 0 (n + 1) K (by omega) (by omega) (by omega) (by omega) (by omega) (by simp; omega)
    simpa using this

theorem parts_f (x : Dat) (K : Nat) (hK : 3 * szD x ≤ K) : spindleref08_Parts.f K x.f0 x.f1 x.f2 x.f3 = some (cnt x 0 : Int) := by
  unfold spindleref08_Parts.f
  rw [show (0 : Int) = ((0 : Nat) : Int) from rfl, count_f (szD x + 1) x (by omega) 0 100000 K (by omega) (by omega) (by omega) hK]
  rfl

mutual
/-- How deep, as far as is looked. -/
def dpt : Dat → Nat → Nat
  | ⟨_, _, _, l⟩, far => (if far = 0 then 0 else dptL l (far - 1)) + 1
def dptL : List Dat → Nat → Nat
  | [], _ => 0
  | x :: r, far => max (dpt x far) (dptL r far)
end

theorem dpt_le (far : Nat) : ∀ x : Dat, dpt x far ≤ far + 1 := by
  induction far with
  | zero => intro x; obtain ⟨a, b, c, l⟩ := x; simp [dpt]
  | succ f ih =>
    intro x
    obtain ⟨a, b, c, l⟩ := x
    rw [dpt, if_neg (by omega)]
    have : ∀ l : List Dat, dptL l f ≤ f + 1 := by
      intro l
      induction l with
      | nil => rw [dptL]; omega
      | cons y r ihr => rw [dptL]; have := ih y; omega
    have := this l
    simp only [Nat.add_sub_cancel]
    omega

theorem prt_item {L : List Dat} {j : Nat} (h : j < L.length) : prt L[j] ≤ prtL L := by
  induction L generalizing j with
  | nil => simp at h
  | cons y r ih =>
    rw [prtL]
    cases j with
    | zero => simp
    | succ j => have := ih (j := j) (by simpa using h); simp; omega
theorem prt_len (L : List Dat) : L.length ≤ prtL L := by
  induction L with
  | nil => simp [prtL]
  | cons y r ih => rw [prtL]; obtain ⟨a, b, c, d⟩ := y; rw [prt]; simp; omega

theorem depth_f (m : Nat) : ∀ x : Dat, szD x < m → ∀ (far : Nat) (K : Nat), far ≤ 1000 → prt x ≤ 100000 → 3 * szD x ≤ K →
    spindleref08_Depth.f K x.f0 x.f1 x.f2 x.f3 (far : Int) = some (dpt x far : Int) := by
  induction m with
  | zero => intro x h; omega
  | succ m ih =>
    intro x hx far K hf hp hK
    have hxs : ∀ y ∈ x.f3, szD y < m := fun y hy => by have := dat_lt hy; omega
    obtain ⟨a, b, c, L⟩ := x
    have hs := sz_dat (a := a) (b := b) (c := c) (l := L)
    rw [prt] at hp
    obtain ⟨K, rfl⟩ : ∃ k, K = k + 1 := ⟨K - 1, by omega⟩
    simp only [spindleref08_Depth.f]
    rw [dpt]
    by_cases h0 : far = 0
    · rw [if_neg (by omega), if_pos h0]; rfl
    rw [if_pos (by omega), if_neg h0]
    have hlen := prt_len L
    have l0 : ∀ (d j q K : Nat), d = L.length - j → j ≤ L.length → q ≤ 2000 → 3 * SizeOf.sizeOf (L.drop j) ≤ K →
        spindleref08_Depth.l0 K (far : Int) (q : Int) (j : Int) a b c L = some ((max q (dptL (L.drop j) (far - 1)) + 1 : Nat) : Int) := by
      intro d
      induction d with
      | zero =>
        intro j q K hd hj hq hK
        obtain rfl : j = L.length := by omega
        obtain ⟨K, rfl⟩ : ∃ k, K = k + 1 := ⟨K - 1, by simp at hK; omega⟩
        simp only [spindleref08_Depth.l0]
        rw [if_neg (by omega), List.drop_length, dptL]
        rw [wrapS (by omega)]
        congr 2
        omega
      | succ d ihd =>
        intro j q K hd hj hq hK
        have hlt : j < L.length := by omega
        rw [List.drop_eq_getElem_cons hlt] at hK ⊢
        rw [sz_cons] at hK
        obtain ⟨K, rfl⟩ : ∃ k, K = k + 1 := ⟨K - 1, by omega⟩
        simp only [spindleref08_Depth.l0]
        have hpi := prt_item hlt
        have hdl := dpt_le (far - 1) L[j]
        rw [if_pos (by omega), if_pos (by omega), rd_at hlt, wrapN (by omega) (by omega), wrapS (by omega), ih L[j] (hxs L[j] (List.getElem_mem hlt)) (far - 1) K (by omega) (by omega) (by omega)]
        simp only [Option.bind_some]
        have hmx : mx (q : Int) (dpt L[j] (far - 1) : Int) = ((max q (dpt L[j] (far - 1)) : Nat) : Int) := by unfold mx; omega
        rw [hmx, ihd (j + 1) _ K (by omega) (by omega) (by omega) (by omega), dptL]
        congr 2
        omega
    have := l0 L.length 0 0 K (by omega) (by omega) (by omega) (by simp; omega)
    rw [show (0 : Int) = ((0 : Nat) : Int) from rfl, this]
    simp

/-- Is a datum small enough to be gone over? -/
def smallD (x : Dat) : Bool := decide ((cnt x 0 : Int) < 5000) && decide ((dpt x 100 : Int) ≤ 90)
theorem cnt_small {x : Dat} (h : cnt x 0 ≤ 4999) : prt x ≤ 4999 := by
  have := cnt_prt (szD x + 1) x (by omega) 0 h
  omega
theorem hundred : ((100 : Nat) : Int) = 100 := by decide
theorem depth_100 (x : Dat) (K : Nat) (hp : prt x ≤ 100000) (hK : 3 * szD x ≤ K) : spindleref08_Depth.f K x.f0 x.f1 x.f2 x.f3 100 = some (dpt x 100 : Int) := by
  rw [← hundred]
  exact depth_f (szD x + 1) x (by omega) 100 K (by omega) hp hK
set_option maxRecDepth 1000000 in
theorem small_f (x : Dat) (K : Nat) (hK : 3 * szD x ≤ K) : spindleref08_Small.f K x.f0 x.f1 x.f2 x.f3 = some (smallD x) := by
  unfold spindleref08_Small.f smallD
  rw [parts_f x K hK]
  simp only [Option.bind_some]
  by_cases h : (cnt x 0 : Int) < 5000
  · have hp : prt x ≤ 4999 := cnt_small (by omega)
    rw [if_pos h, depth_100 x K (by omega) hK, decide_eq_true h]
    simp only [Option.bind_some, Bool.true_and]
  · rw [if_neg h, decide_eq_false h]
    simp only [Bool.false_and]

theorem own_f (m : Nat) : ∀ x : Dat, szD x < m → ∀ (K : Nat), prt x ≤ 100000 → 3 * szD x ≤ K →
    spindleref08_Own.f K x.f0 x.f1 x.f2 x.f3 = some (x.f0, x.f1, x.f2, x.f3) := by
  induction m with
  | zero => intro x h; omega
  | succ m ih =>
    intro x hx K hp hK
    have hxs : ∀ y ∈ x.f3, szD y < m := fun y hy => by have := dat_lt hy; omega
    obtain ⟨a, b, c, L⟩ := x
    have hs := sz_dat (a := a) (b := b) (c := c) (l := L)
    rw [prt] at hp
    obtain ⟨K, rfl⟩ : ∃ k, K = k + 1 := ⟨K - 1, by omega⟩
    simp only [spindleref08_Own.f]
    have hlen := prt_len L
    have l0 : ∀ (d j K : Nat), d = L.length - j → j ≤ L.length → 3 * SizeOf.sizeOf (L.drop j) ≤ K →
        spindleref08_Own.l0 K (L.take j) (j : Int) a b c L = some (a, b, c, L) := by
      intro d
      induction d with
      | zero =>
        intro j K hd hj hK
        obtain rfl : j = L.length := by omega
        obtain ⟨K, rfl⟩ : ∃ k, K = k + 1 := ⟨K - 1, by simp at hK; omega⟩
        simp only [spindleref08_Own.l0]
        rw [if_neg (by omega), List.take_length]
      | succ d ihd =>
        intro j K hd hj hK
        have hlt : j < L.length := by omega
        rw [List.drop_eq_getElem_cons hlt, sz_cons] at hK
        obtain ⟨K, rfl⟩ : ∃ k, K = k + 1 := ⟨K - 1, by omega⟩
        simp only [spindleref08_Own.l0]
        have hpi := prt_item hlt
        have htl : (L.take j).length ≤ j := List.length_take_le _ _
        rw [if_pos (by omega), if_pos (by omega), rd_at hlt, wrapS (by omega), ih L[j] (hxs L[j] (List.getElem_mem hlt)) K (by omega) (by omega)]
        simp only [Option.bind_some]
        rw [if_pos (by omega)]
        have := ihd (j + 1) K (by omega) (by omega) (by omega)
        rw [List.take_succ_eq_append_getElem hlt] at this
        rw [dat_eta]
        exact this
    have := l0 L.length 0 K (by omega) (by omega) (by simp; omega)
    simpa using this
end Go.Proofs.YthighbbikpnpgaaDoor

/-! LxD -/
namespace Go.Proofs.YthighbbikpnpgaaDoor
open Go.RowKit

theorem mark_eq (x : UInt8) : markB x = (x == 40 || x == 41 || x == 34 || x == 59 || x == 39 || x == 44 || x == 96 || x == 35) := by
  by_cases h0 : x = 40; · subst h0; rfl
  by_cases h1 : x = 41; · subst h1; rfl
  by_cases h2 : x = 34; · subst h2; rfl
  by_cases h3 : x = 59; · subst h3; rfl
  by_cases h4 : x = 39; · subst h4; rfl
  by_cases h5 : x = 44; · subst h5; rfl
  by_cases h6 : x = 96; · subst h6; rfl
  by_cases h7 : x = 35; · subst h7; rfl
  have e0 : (40 == x) = false := by simpa using Ne.symm h0
  have e1 : (41 == x) = false := by simpa using Ne.symm h1
  have e2 : (34 == x) = false := by simpa using Ne.symm h2
  have e3 : (59 == x) = false := by simpa using Ne.symm h3
  have e4 : (39 == x) = false := by simpa using Ne.symm h4
  have e5 : (44 == x) = false := by simpa using Ne.symm h5
  have e6 : (96 == x) = false := by simpa using Ne.symm h6
  have e7 : (35 == x) = false := by simpa using Ne.symm h7
  simp only [markB, Lib.indexByte, e0, e1, e2, e3, e4, e5, e6, e7]
  simp [h0, h1, h2, h3, h4, h5, h6, h7]

theorem sym_yes {x : UInt8} (h : symCh x = true) : 33 ≤ x.toNat ∧ x.toNat ≤ 126 ∧ ((x.toNat : Int) == 40) = false ∧ ((x.toNat : Int) == 41) = false ∧ ((x.toNat : Int) == 34) = false ∧ ((x.toNat : Int) == 59) = false ∧
    ((x.toNat : Int) == 39) = false ∧ ((x.toNat : Int) == 44) = false ∧ ((x.toNat : Int) == 96) = false ∧ ((x.toNat : Int) == 35) = false := by
  rw [symCh, mark_eq] at h
  simp only [Bool.and_eq_true, decide_eq_true_eq, Bool.not_eq_true', Bool.or_eq_false_iff] at h
  obtain ⟨⟨h1, h2⟩, ⟨⟨⟨⟨⟨⟨⟨n0, n1⟩, n2⟩, n3⟩, n4⟩, n5⟩, n6⟩, n7⟩⟩ := h
  exact ⟨h1, h2, (u8beq x 40).trans n0, (u8beq x 41).trans n1, (u8beq x 34).trans n2, (u8beq x 59).trans n3, (u8beq x 39).trans n4, (u8beq x 44).trans n5, (u8beq x 96).trans n6, (u8beq x 35).trans n7⟩

theorem sym_no {x : UInt8} (h : symCh x = false) : x.toNat < 33 ∨ 126 < x.toNat ∨ x = 40 ∨ x = 41 ∨ x = 34 ∨ x = 59 ∨ x = 39 ∨ x = 44 ∨ x = 96 ∨ x = 35 := by
  by_cases h1 : x.toNat < 33
  · exact .inl h1
  by_cases h2 : 126 < x.toNat
  · exact .inr (.inl h2)
  rw [symCh, mark_eq, decide_eq_true (by omega : 33 ≤ x.toNat), decide_eq_true (by omega : x.toNat ≤ 126)] at h
  simp only [Bool.true_and, Bool.not_eq_false', Bool.or_eq_true, beq_iff_eq] at h
  rcases h with ((((((h | h) | h) | h) | h) | h) | h) | h <;> subst h <;> simp

set_option maxRecDepth 16000 in
theorem refsym_bytes (s : ByteArray) (h0 : s.data.toList ≠ []) (h1 : s.data.toList.length ≤ 60) (h2 : s.data.toList ≠ [46]) (hd : okL (bodyL s.data.toList) = false) (W : World) :
    Calls Tryd.prog 60 #[.string s] W fun e w' => e = .returned (.bool (s.data.toList.all symCh)) ∧ w' = W := by
  obtain ⟨R, hR⟩ : ∃ R, s.data.toList.all symCh = R := ⟨_, rfl⟩
  have HRR := Lib.hid hR
  rw [hR]
  clear hR
  have g0 : ¬ s.toList = [] := by rw [ByteArray.toList_eq]; exact h0
  have g2 : ¬ s.toList = [46] := by rw [ByteArray.toList_eq]; exact h2
  have g22 : (s.toList == [46]) = false := by simpa using g2
  have e2 : s.size = s.data.toList.length := by simp
  have hpos : s.data.toList.length ≠ 0 := fun e => h0 (List.length_eq_zero_iff.1 e)
  have g1 : ¬ (60 : Int) < s.size := by omega
  have g3 : ¬ (s.size : Int) < 1 := by omega
  have g1' : (s.size : Int) ≤ 60 := by omega
  have g11 : decide ((60 : Int) < s.size) = false := decide_eq_false g1
  have g33 : decide ((s.size : Int) < 1) = false := decide_eq_false g3
  have cD := Lib.hid (refdigits_any s (by omega) W)
  rw [hd] at cD
  have HE2 := Lib.hid e2
  clear h0 h1 h2 hd e2 hpos
  go_enter Tryd.func60, Tryd.ntmps60
  go_wp2_with fail
  refine cD.out.mono ?_
  rintro e w' ⟨rfl, rfl⟩
  go_wp2_with fail
  clear g0 g2 g22 cD g1 g3 g11 g33
  have e2 := HE2.out
  have hR := HRR.out
  clear HE2 HRR
  obtain ⟨⟨E⟩⟩ := s
  rw [show (ByteArray.mk ⟨E⟩).data.toList = E from rfl] at e2 hR
  have hEl : E.length ≤ (⟨⟨E⟩⟩ : ByteArray).size ∧ (⟨⟨E⟩⟩ : ByteArray).size ≤ E.length := by omega
  have hE60 : E.length ≤ 60 := by omega
  have HR := Lib.hid hR
  clear hR e2
  go_loop [3] (fun i => ∃ k : Nat, k ≤ E.length ∧ i = .int .i64 k ∧ (E.take k).all symCh = true) (fun i => E.length - (intOf i).toNat)
  case atStart => exact ⟨0, by omega, rfl, rfl⟩
  case round =>
    obtain ⟨k, hk, rfl, hall⟩ := hrel
    obtain ⟨hE1, hE2⟩ := hEl
    by_cases hlt : k < E.length
    · have hks : k < (⟨⟨E⟩⟩ : ByteArray).size := by omega
      have hks' : (k : Int) < ((⟨⟨E⟩⟩ : ByteArray).size : Nat) := by omega
      have htk := Lib.hid (List.take_succ_eq_append_getElem hlt)
      obtain ⟨x, hx0⟩ : ∃ x, E[k] = x := ⟨_, rfl⟩
      have hbx : ∀ h : k < (⟨⟨E⟩⟩ : ByteArray).size, (⟨⟨E⟩⟩ : ByteArray)[k]'h = x := fun _ => hx0
      rw [hx0] at htk
      clear hx0
      have hx256 : x.toNat < 256 := x.toNat_lt
      cases hx : symCh x
      · have hF := Lib.hid (show E.all symCh = false from take_all (k := k) (by rw [htk.out, List.all_append]; simp [hx]))
        have hno := sym_no hx
        clear htk hall hx
        rcases hno with h | h | h | h | h | h | h | h | h | h
        · have b1 : decide ((x.toNat : Int) < 33) = true := by simp; omega
          go_wp2_with fail
          go_ret
          exact ⟨by rw [← HR.out, hF.out]; rfl, rfl⟩
        · have b1 : decide ((x.toNat : Int) < 33) = false := by simp; omega
          have b2 : decide (126 < (x.toNat : Int)) = true := by simp; omega
          go_wp2_with fail
          go_ret
          exact ⟨by rw [← HR.out, hF.out]; rfl, rfl⟩
        all_goals
          subst h
          go_wp2_with fail
          go_ret
          exact ⟨by rw [← HR.out, hF.out]; rfl, rfl⟩
      · have HALL := Lib.hid (show (E.take (k + 1)).all symCh = true by rw [htk.out, List.all_append, hall]; simp [hx])
        obtain ⟨h1, h2, n0, n1, n2, n3, n4, n5, n6, n7⟩ := sym_yes hx
        have b1 : decide ((x.toNat : Int) < 33) = false := by simp; omega
        have b2 : decide (126 < (x.toNat : Int)) = false := by simp; omega
        clear htk hall hx
        go_wp2_with fail
        go_round
        case rel => exact ⟨k + 1, by omega, by go_num, HALL.out⟩
        case measure => simp [intOf]; omega
    · obtain rfl : k = E.length := by omega
      rw [List.take_length] at hall
      have HA := Lib.hid hall
      have hge : ¬ (E.length : Int) < ((⟨⟨E⟩⟩ : ByteArray).size : Nat) := by omega
      clear hall
      go_wp2_with fail
      go_ret
      exact ⟨by rw [← HR.out, HA.out]; rfl, rfl⟩

theorem refsymbol_any (s : ByteArray) (W : World) :
    Calls Tryd.prog 60 #[.string s] W fun e w' => e = .returned (.bool (symL s.data.toList)) ∧ w' = W := by
  have e2 : s.size = s.data.toList.length := by simp
  rcases symL_cases s.data.toList with ⟨h, e⟩ | ⟨h, e⟩ | ⟨h, e⟩ | ⟨h0, h1, h2, h3, e⟩ | ⟨h0, h1, h2, h3, e⟩
  · rw [e]
    obtain rfl : s = ⟨#[]⟩ := by apply ByteArray.ext; simpa using h
    clear e h e2
    go_enter Tryd.func60, Tryd.ntmps60
    go_wp2_with fail
    go_ret
    exact ⟨rfl, rfl⟩
  · rw [e]
    have h1 : (60 : Int) < s.size := by omega
    have h0 : ¬ (s.size : Int) < 1 := by omega
    clear h e e2
    go_enter Tryd.func60, Tryd.ntmps60
    go_wp2_with fail
    go_ret
    exact ⟨rfl, rfl⟩
  · rw [e]
    obtain rfl : s = ⟨#[46]⟩ := by apply ByteArray.ext; rw [← Array.toList_inj, h]
    clear e h e2
    go_enter Tryd.func60, Tryd.ntmps60
    go_wp2_with fail
    go_ret
    exact ⟨rfl, rfl⟩
  · rw [e]
    have g2 : ¬ s.toList = [46] := by rw [ByteArray.toList_eq]; exact h2
    have g22 : (s.toList == [46]) = false := by simpa using g2
    have hpos : s.data.toList.length ≠ 0 := fun e => h0 (List.length_eq_zero_iff.1 e)
    have g11 : decide ((60 : Int) < s.size) = false := decide_eq_false (by omega)
    have g33 : decide ((s.size : Int) < 1) = false := decide_eq_false (by omega)
    have g1 : ¬ (60 : Int) < s.size := by omega
    have g3 : ¬ (s.size : Int) < 1 := by omega
    have cD := Lib.hid (refdigits_any s (by omega) W)
    rw [h3] at cD
    clear h0 h1 h2 h3 e e2 hpos
    go_enter Tryd.func60, Tryd.ntmps60
    go_wp2_with fail
    refine cD.out.mono ?_
    rintro e w' ⟨rfl, rfl⟩
    go_wp2_with fail
    go_ret
    exact ⟨rfl, rfl⟩
  · rw [e]; exact refsym_bytes s h0 h1 h2 h3 W
end Go.Proofs.YthighbbikpnpgaaDoor

/-! PShx6 -/
namespace Go.Proofs.YthighbbikpnpgaaDoor.PSh
open Go.RowKit Go.Proofs.YthighbbikpnpgaaDoorW.PrintWords

def spindleref07_Symbol.f (_k : Nat) (a0 : ByteArray) : Option (Bool) := some (symL a0.data.toList)
theorem spindleref07_Symbol.mono : ∀ a0 k, LeO (spindleref07_Symbol.f k a0) (spindleref07_Symbol.f (k + 1) a0) := fun _ _ => LeO.refl _
theorem spindleref07_Symbol.calls (k : Nat) (a0 : ByteArray) (r : Bool) (w : World) (h : spindleref07_Symbol.f k a0 = some r) :
    Calls Tryd.prog 60 #[.string a0] w fun e w' => e = .returned (.bool r) ∧ Drawn0 w w' := by
  refine (refsymbol_any a0 w).mono ?_
  rintro e w' ⟨rfl, rfl⟩
  unfold spindleref07_Symbol.f at h
  cases h
  exact ⟨rfl, Drawn0.refl _⟩
end Go.Proofs.YthighbbikpnpgaaDoor.PSh
