/-
  Walks of fix.Parse.
-/
import Derived.Test.YtneokkhnjnomdaaDoorFP
namespace Go.Proofs.YtneokkhnjnomdaaDoor
open Go.RowKit

theorem parse_minus (r : List UInt8) (W : World) :
    Calls Tryd.prog 49 #[.string ⟨⟨45 :: r⟩⟩] W fun e w' => e = .returned (resV (parseL (45 :: r))) ∧ Below W.heap.size W w' := by
  have hcv := fun (w : World) (s : ByteArray) => Lib.run_convert_string_bytes w 9 105 5 s Tryd.underlying9 Tryd.underlying105 Tryd.underlying5
  have eb := ba_zero 45 r
  have hext : (⟨⟨45 :: r⟩⟩ : ByteArray).extract 1 (r.length + 1) = ⟨⟨r⟩⟩ := by
    rw [Lib.extract_eq]; simp
  have hBody : bodyL (45 :: r) = r := rfl
  have hNeg : negL (45 :: r) = true := rfl
  have hl : (r).length = (r).length := rfl
  by_cases hlen : 1 ≤ (r).length ∧ (r).length ≤ 30
  · obtain ⟨l1, l2⟩ := hlen
    have l1' : 1 ≤ ((r).length : Int) := by omega
    have l2' : ((r).length : Int) ≤ 30 := by omega
    obtain ⟨P, hP⟩ : ∃ P, parseL (45 :: r) = P := ⟨_, rfl⟩
    have HP := Lib.hid hP
    have HL : Hid (P = if (r).all digB = true then fitL (if true = true then -valL (r) else valL (r)) else (0, 6)) := by
      simp only [Hid]
      rw [← hP, parseL, okL, hBody, hNeg, decide_eq_true l1, decide_eq_true l2]
      rfl
    have hcells := Lib.hid (bytes_cell W 5 (r))
    have hbl := below_bytes (W := W) 5 ⟨⟨r⟩⟩
    try simp only [List.length_cons] at l1' l2'
    clear hBody hNeg hl hP
    go_enter Tryd.func49, Tryd.ntmps49
    go_wp2_with fail
    clear hcv
    generalize Lib.bytesWorld W 5 ⟨⟨r⟩⟩ = w1 at hcells hbl ⊢
    obtain ⟨E, hE⟩ : ∃ E, E = r := ⟨_, rfl⟩
    have HE := Lib.hid hE
    rw [← hE] at HL hcells l1 l2
    clear hE
    have hEl : (E.length : Int) = (r).length := by rw [HE.out]
    go_loop [5, 6, 36] (fun f n i => ∃ k : Nat, k ≤ E.length ∧ i = .int .i64 k ∧ f = .bool (stF (E.take k)).1 ∧ n = .int .i64 (stF (E.take k)).2 ∧ (E.take k).all digB = true) (fun _ _ i => E.length - (intOf i).toNat)
    case atStart => exact ⟨0, by omega, rfl, rfl, rfl, rfl⟩
    case round =>
      obtain ⟨k, hk, rfl, rfl, rfl, hall⟩ := hrel
      obtain ⟨⟨i1, i2⟩, i3, i4⟩ := stF_inv _ hall
      by_cases hlt : k < E.length
      · have hst := Lib.hid (stF_snoc (E.take k) E[k])
        have htk := Lib.hid (List.take_succ_eq_append_getElem hlt)
        have hck := hcells.out k hlt
        generalize E[k] = x at hst htk hck
        clear i3 i4
        generalize stF (E.take k) = st at hst i1 i2
        obtain ⟨far, n⟩ := st
        simp only at i1 i2
        by_cases hd : digB x = true
        · obtain ⟨d1, d2⟩ := digB_iff.1 hd
          have c1 : ((x.toNat : Int) < 48) = False := by simp; omega
          have c2 : (57 < (x.toNat : Int)) = False := by simp; omega
          have b1 : decide ((x.toNat : Int) < 48) = false := by simp; omega
          have b2 : decide (57 < (x.toNat : Int)) = false := by simp; omega
          have hall' : (E.take (k + 1)).all digB = true := by rw [htk.out, List.all_append, hall]; simp [hd]
          have HALL := Lib.hid hall'
          clear hall hall' hd
          cases far
          · by_cases hm : 288230376151711743 < n
            · have HST : Hid (stF (E.take (k + 1)) = (true, n)) := by rw [Hid, htk.out, hst.out]; simp [hm]
              clear hst htk
              go_wp2_with fail
              go_round
              case rel => exact ⟨k + 1, by omega, by go_num, by rw [HST.out], by rw [HST.out], HALL.out⟩
              case measure => simp [intOf]; omega
            · have HST : Hid (stF (E.take (k + 1)) = (false, 10 * n + digV x)) := by rw [Hid, htk.out, hst.out]; simp [hm]
              have hdv : digV x = (x.toNat : Int) - 48 := rfl
              have hm' : n ≤ 288230376151711743 := by omega
              rw [hdv] at HST
              clear hst htk hdv
              go_wp2_with fail
              go_round
              case rel => exact ⟨k + 1, by omega, by go_num, by rw [HST.out], by rw [HST.out], HALL.out⟩
              case measure => simp [intOf]; omega
          · have HST : Hid (stF (E.take (k + 1)) = (true, n)) := by rw [Hid, htk.out, hst.out]; simp
            clear hst htk
            go_wp2_with fail
            go_round
            case rel => exact ⟨k + 1, by omega, by go_num, by rw [HST.out], by rw [HST.out], HALL.out⟩
            case measure => simp [intOf]; omega
        · have hno : E.all digB = false := by
            rw [← Bool.not_eq_true]
            intro hh
            have := all_take hh (k + 1)
            rw [htk.out, List.all_append, Bool.and_eq_true] at this
            simp only [List.all_cons, List.all_nil, Bool.and_true] at this
            exact hd this.2
          have H6 := Lib.hid (show P = (0, 6) by rw [HL.out, hno]; rfl)
          have hx : x.toNat < 48 ∨ 57 < x.toNat := by
            rcases Nat.lt_or_ge x.toNat 48 with h | h
            · exact .inl h
            · rcases Nat.lt_or_ge 57 x.toNat with h' | h'
              · exact .inr h'
              · exact absurd (digB_iff.2 ⟨h, h'⟩) hd
          clear hst htk hno hd hall
          rcases hx with h | h
          · have b1 : decide ((x.toNat : Int) < 48) = true := by simp; omega
            go_wp2_with fail
            go_ret2
            exact ⟨by rw [HP.out, H6.out]; rfl, hbl⟩
          · have b1 : decide ((x.toNat : Int) < 48) = false := by simp; omega
            have b2 : decide (57 < (x.toNat : Int)) = true := by simp; omega
            go_wp2_with fail
            go_ret2
            exact ⟨by rw [HP.out, H6.out]; rfl, hbl⟩
      · obtain rfl : k = E.length := by omega
        have hge : ¬ (E.length : Int) < (r.length : Int) := by (try simp only [List.length_cons] at hEl); omega
        have hdk : decide ((E.length : Int) < (r.length : Int)) = false := decide_eq_false hge
        rw [List.take_length] at hall i1 i2 i3 i4
        rw [List.take_length]
        have HV : Hid (P = fitL (if true = true then -valL E else valL E)) := by
          rw [Hid, HL.out, hall]; rfl
        have hi3 := Lib.hid i3
        have hi4 := Lib.hid i4
        clear i3 i4 hall
        generalize stF E = st at hi3 hi4 i1 i2
        obtain ⟨far, n⟩ := st
        simp only at i1 i2
        cases far
        · have hn : valL E = n := (hi3.out rfl).symm
          rw [hn] at HV
          clear hn
          go_wp2_with fail
          refine (fit_any _ _).mono ?_
          rintro e w' ⟨rfl, rfl⟩
          have HV2 : Hid (P = fitL (-n)) := HV.out
          generalize fitL (-n) = x at HV2
          obtain ⟨m, e⟩ := x
          rw [resV]
          go_wp2_with fail
          go_ret2
          exact ⟨by rw [HP.out, HV2.out]; rfl, hbl⟩
        · have hn : 1152921504606846976 < valL E := hi4.out rfl
          have H11 := Lib.hid (show P = (0, 11) by
            rw [HV.out, fitL, if_neg]
            rw [num_iff]
            simp
            omega)
          clear hn
          go_wp2_with fail
          go_ret2
          exact ⟨by rw [HP.out, H11.out]; rfl, hbl⟩
  · have H := Lib.hid (show parseL (45 :: r) = (0, 6) by
      rw [parseL, hBody, if_neg]
      simp only [okL, Bool.and_eq_true, decide_eq_true_eq]
      exact fun h => hlen h.1)
    have hlen' : ((r).length : Int) < 1 ∨ 30 < ((r).length : Int) := by omega
    clear hlen hBody hNeg hl
    try simp only [List.length_cons] at hlen'
    rcases hlen' with h | h
    · go_enter Tryd.func49, Tryd.ntmps49
      go_wp2_with fail
      go_ret2
      exact ⟨by rw [H.out]; rfl, Below.refl _ _⟩
    · have h' : ¬ ((r).length : Int) < 1 := by simp; omega
      try simp only [List.length_cons] at h'
      go_enter Tryd.func49, Tryd.ntmps49
      go_wp2_with fail
      go_ret2
      exact ⟨by rw [H.out]; rfl, Below.refl _ _⟩

theorem parse_plus (r : List UInt8) (W : World) :
    Calls Tryd.prog 49 #[.string ⟨⟨43 :: r⟩⟩] W fun e w' => e = .returned (resV (parseL (43 :: r))) ∧ Below W.heap.size W w' := by
  have hcv := fun (w : World) (s : ByteArray) => Lib.run_convert_string_bytes w 9 105 5 s Tryd.underlying9 Tryd.underlying105 Tryd.underlying5
  have eb := ba_zero 43 r
  have hext : (⟨⟨43 :: r⟩⟩ : ByteArray).extract 1 (r.length + 1) = ⟨⟨r⟩⟩ := by
    rw [Lib.extract_eq]; simp
  have hBody : bodyL (43 :: r) = r := rfl
  have hNeg : negL (43 :: r) = false := rfl
  have hl : (r).length = (r).length := rfl
  by_cases hlen : 1 ≤ (r).length ∧ (r).length ≤ 30
  · obtain ⟨l1, l2⟩ := hlen
    have l1' : 1 ≤ ((r).length : Int) := by omega
    have l2' : ((r).length : Int) ≤ 30 := by omega
    obtain ⟨P, hP⟩ : ∃ P, parseL (43 :: r) = P := ⟨_, rfl⟩
    have HP := Lib.hid hP
    have HL : Hid (P = if (r).all digB = true then fitL (if false = true then -valL (r) else valL (r)) else (0, 6)) := by
      simp only [Hid]
      rw [← hP, parseL, okL, hBody, hNeg, decide_eq_true l1, decide_eq_true l2]
      rfl
    have hcells := Lib.hid (bytes_cell W 5 (r))
    have hbl := below_bytes (W := W) 5 ⟨⟨r⟩⟩
    try simp only [List.length_cons] at l1' l2'
    clear hBody hNeg hl hP
    go_enter Tryd.func49, Tryd.ntmps49
    go_wp2_with fail
    clear hcv
    generalize Lib.bytesWorld W 5 ⟨⟨r⟩⟩ = w1 at hcells hbl ⊢
    obtain ⟨E, hE⟩ : ∃ E, E = r := ⟨_, rfl⟩
    have HE := Lib.hid hE
    rw [← hE] at HL hcells l1 l2
    clear hE
    have hEl : (E.length : Int) = (r).length := by rw [HE.out]
    go_loop [5, 6, 36] (fun f n i => ∃ k : Nat, k ≤ E.length ∧ i = .int .i64 k ∧ f = .bool (stF (E.take k)).1 ∧ n = .int .i64 (stF (E.take k)).2 ∧ (E.take k).all digB = true) (fun _ _ i => E.length - (intOf i).toNat)
    case atStart => exact ⟨0, by omega, rfl, rfl, rfl, rfl⟩
    case round =>
      obtain ⟨k, hk, rfl, rfl, rfl, hall⟩ := hrel
      obtain ⟨⟨i1, i2⟩, i3, i4⟩ := stF_inv _ hall
      by_cases hlt : k < E.length
      · have hst := Lib.hid (stF_snoc (E.take k) E[k])
        have htk := Lib.hid (List.take_succ_eq_append_getElem hlt)
        have hck := hcells.out k hlt
        generalize E[k] = x at hst htk hck
        clear i3 i4
        generalize stF (E.take k) = st at hst i1 i2
        obtain ⟨far, n⟩ := st
        simp only at i1 i2
        by_cases hd : digB x = true
        · obtain ⟨d1, d2⟩ := digB_iff.1 hd
          have c1 : ((x.toNat : Int) < 48) = False := by simp; omega
          have c2 : (57 < (x.toNat : Int)) = False := by simp; omega
          have b1 : decide ((x.toNat : Int) < 48) = false := by simp; omega
          have b2 : decide (57 < (x.toNat : Int)) = false := by simp; omega
          have hall' : (E.take (k + 1)).all digB = true := by rw [htk.out, List.all_append, hall]; simp [hd]
          have HALL := Lib.hid hall'
          clear hall hall' hd
          cases far
          · by_cases hm : 288230376151711743 < n
            · have HST : Hid (stF (E.take (k + 1)) = (true, n)) := by rw [Hid, htk.out, hst.out]; simp [hm]
              clear hst htk
              go_wp2_with fail
              go_round
              case rel => exact ⟨k + 1, by omega, by go_num, by rw [HST.out], by rw [HST.out], HALL.out⟩
              case measure => simp [intOf]; omega
            · have HST : Hid (stF (E.take (k + 1)) = (false, 10 * n + digV x)) := by rw [Hid, htk.out, hst.out]; simp [hm]
              have hdv : digV x = (x.toNat : Int) - 48 := rfl
              have hm' : n ≤ 288230376151711743 := by omega
              rw [hdv] at HST
              clear hst htk hdv
              go_wp2_with fail
              go_round
              case rel => exact ⟨k + 1, by omega, by go_num, by rw [HST.out], by rw [HST.out], HALL.out⟩
              case measure => simp [intOf]; omega
          · have HST : Hid (stF (E.take (k + 1)) = (true, n)) := by rw [Hid, htk.out, hst.out]; simp
            clear hst htk
            go_wp2_with fail
            go_round
            case rel => exact ⟨k + 1, by omega, by go_num, by rw [HST.out], by rw [HST.out], HALL.out⟩
            case measure => simp [intOf]; omega
        · have hno : E.all digB = false := by
            rw [← Bool.not_eq_true]
            intro hh
            have := all_take hh (k + 1)
            rw [htk.out, List.all_append, Bool.and_eq_true] at this
            simp only [List.all_cons, List.all_nil, Bool.and_true] at this
            exact hd this.2
          have H6 := Lib.hid (show P = (0, 6) by rw [HL.out, hno]; rfl)
          have hx : x.toNat < 48 ∨ 57 < x.toNat := by
            rcases Nat.lt_or_ge x.toNat 48 with h | h
            · exact .inl h
            · rcases Nat.lt_or_ge 57 x.toNat with h' | h'
              · exact .inr h'
              · exact absurd (digB_iff.2 ⟨h, h'⟩) hd
          clear hst htk hno hd hall
          rcases hx with h | h
          · have b1 : decide ((x.toNat : Int) < 48) = true := by simp; omega
            go_wp2_with fail
            go_ret2
            exact ⟨by rw [HP.out, H6.out]; rfl, hbl⟩
          · have b1 : decide ((x.toNat : Int) < 48) = false := by simp; omega
            have b2 : decide (57 < (x.toNat : Int)) = true := by simp; omega
            go_wp2_with fail
            go_ret2
            exact ⟨by rw [HP.out, H6.out]; rfl, hbl⟩
      · obtain rfl : k = E.length := by omega
        have hge : ¬ (E.length : Int) < (r.length : Int) := by (try simp only [List.length_cons] at hEl); omega
        have hdk : decide ((E.length : Int) < (r.length : Int)) = false := decide_eq_false hge
        rw [List.take_length] at hall i1 i2 i3 i4
        rw [List.take_length]
        have HV : Hid (P = fitL (if false = true then -valL E else valL E)) := by
          rw [Hid, HL.out, hall]; rfl
        have hi3 := Lib.hid i3
        have hi4 := Lib.hid i4
        clear i3 i4 hall
        generalize stF E = st at hi3 hi4 i1 i2
        obtain ⟨far, n⟩ := st
        simp only at i1 i2
        cases far
        · have hn : valL E = n := (hi3.out rfl).symm
          rw [hn] at HV
          clear hn
          go_wp2_with fail
          refine (fit_any _ _).mono ?_
          rintro e w' ⟨rfl, rfl⟩
          have HV2 : Hid (P = fitL n) := HV.out
          generalize fitL n = x at HV2
          obtain ⟨m, e⟩ := x
          rw [resV]
          go_wp2_with fail
          go_ret2
          exact ⟨by rw [HP.out, HV2.out]; rfl, hbl⟩
        · have hn : 1152921504606846976 < valL E := hi4.out rfl
          have H11 := Lib.hid (show P = (0, 11) by
            rw [HV.out, fitL, if_neg]
            rw [num_iff]
            simp
            omega)
          clear hn
          go_wp2_with fail
          go_ret2
          exact ⟨by rw [HP.out, H11.out]; rfl, hbl⟩
  · have H := Lib.hid (show parseL (43 :: r) = (0, 6) by
      rw [parseL, hBody, if_neg]
      simp only [okL, Bool.and_eq_true, decide_eq_true_eq]
      exact fun h => hlen h.1)
    have hlen' : ((r).length : Int) < 1 ∨ 30 < ((r).length : Int) := by omega
    clear hlen hBody hNeg hl
    try simp only [List.length_cons] at hlen'
    rcases hlen' with h | h
    · go_enter Tryd.func49, Tryd.ntmps49
      go_wp2_with fail
      go_ret2
      exact ⟨by rw [H.out]; rfl, Below.refl _ _⟩
    · have h' : ¬ ((r).length : Int) < 1 := by simp; omega
      try simp only [List.length_cons] at h'
      go_enter Tryd.func49, Tryd.ntmps49
      go_wp2_with fail
      go_ret2
      exact ⟨by rw [H.out]; rfl, Below.refl _ _⟩

theorem parse_none (D : List UInt8) (c : UInt8) (eb : ∀ (h : 0 < (⟨⟨D⟩⟩ : ByteArray).size), (⟨⟨D⟩⟩ : ByteArray)[0]'h = c) (hBody : bodyL D = D) (hNeg : negL D = false) (hpos : 0 < D.length) (h45 : c ≠ 45) (h43 : c ≠ 43) (W : World) :
    Calls Tryd.prog 49 #[.string ⟨⟨D⟩⟩] W fun e w' => e = .returned (resV (parseL (D))) ∧ Below W.heap.size W w' := by
  have hcv := fun (w : World) (s : ByteArray) => Lib.run_convert_string_bytes w 9 105 5 s Tryd.underlying9 Tryd.underlying105 Tryd.underlying5
  have g45 : ((c.toNat : Int) == 45) = false := (u8beq c 45).trans (by simpa using h45)
  have g43 : ((c.toNat : Int) == 43) = false := (u8beq c 43).trans (by simpa using h43)
  have hem : D.isEmpty = false := by cases D <;> simp at hpos ⊢
  have hl : (D).length = (D).length := rfl
  by_cases hlen : 1 ≤ (D).length ∧ (D).length ≤ 30
  · obtain ⟨l1, l2⟩ := hlen
    have l1' : 1 ≤ ((D).length : Int) := by omega
    have l2' : ((D).length : Int) ≤ 30 := by omega
    obtain ⟨P, hP⟩ : ∃ P, parseL (D) = P := ⟨_, rfl⟩
    have HP := Lib.hid hP
    have HL : Hid (P = if (D).all digB = true then fitL (if false = true then -valL (D) else valL (D)) else (0, 6)) := by
      simp only [Hid]
      rw [← hP, parseL, okL, hBody, hNeg, decide_eq_true l1, decide_eq_true l2]
      rfl
    have hcells := Lib.hid (bytes_cell W 5 (D))
    have hbl := below_bytes (W := W) 5 ⟨⟨D⟩⟩
    try simp only [List.length_cons] at l1' l2'
    clear hBody hNeg hl hP
    go_enter Tryd.func49, Tryd.ntmps49
    go_wp2_with fail
    clear hcv
    generalize Lib.bytesWorld W 5 ⟨⟨D⟩⟩ = w1 at hcells hbl ⊢
    obtain ⟨E, hE⟩ : ∃ E, E = D := ⟨_, rfl⟩
    have HE := Lib.hid hE
    rw [← hE] at HL hcells l1 l2
    clear hE
    have hEl : (E.length : Int) = (D).length := by rw [HE.out]
    go_loop [5, 6, 36] (fun f n i => ∃ k : Nat, k ≤ E.length ∧ i = .int .i64 k ∧ f = .bool (stF (E.take k)).1 ∧ n = .int .i64 (stF (E.take k)).2 ∧ (E.take k).all digB = true) (fun _ _ i => E.length - (intOf i).toNat)
    case atStart => exact ⟨0, by omega, rfl, rfl, rfl, rfl⟩
    case round =>
      obtain ⟨k, hk, rfl, rfl, rfl, hall⟩ := hrel
      obtain ⟨⟨i1, i2⟩, i3, i4⟩ := stF_inv _ hall
      by_cases hlt : k < E.length
      · have hst := Lib.hid (stF_snoc (E.take k) E[k])
        have htk := Lib.hid (List.take_succ_eq_append_getElem hlt)
        have hck := hcells.out k hlt
        generalize E[k] = x at hst htk hck
        clear i3 i4
        generalize stF (E.take k) = st at hst i1 i2
        obtain ⟨far, n⟩ := st
        simp only at i1 i2
        by_cases hd : digB x = true
        · obtain ⟨d1, d2⟩ := digB_iff.1 hd
          have c1 : ((x.toNat : Int) < 48) = False := by simp; omega
          have c2 : (57 < (x.toNat : Int)) = False := by simp; omega
          have b1 : decide ((x.toNat : Int) < 48) = false := by simp; omega
          have b2 : decide (57 < (x.toNat : Int)) = false := by simp; omega
          have hall' : (E.take (k + 1)).all digB = true := by rw [htk.out, List.all_append, hall]; simp [hd]
          have HALL := Lib.hid hall'
          clear hall hall' hd
          cases far
          · by_cases hm : 288230376151711743 < n
            · have HST : Hid (stF (E.take (k + 1)) = (true, n)) := by rw [Hid, htk.out, hst.out]; simp [hm]
              clear hst htk
              go_wp2_with fail
              go_round
              case rel => exact ⟨k + 1, by omega, by go_num, by rw [HST.out], by rw [HST.out], HALL.out⟩
              case measure => simp [intOf]; omega
            · have HST : Hid (stF (E.take (k + 1)) = (false, 10 * n + digV x)) := by rw [Hid, htk.out, hst.out]; simp [hm]
              have hdv : digV x = (x.toNat : Int) - 48 := rfl
              have hm' : n ≤ 288230376151711743 := by omega
              rw [hdv] at HST
              clear hst htk hdv
              go_wp2_with fail
              go_round
              case rel => exact ⟨k + 1, by omega, by go_num, by rw [HST.out], by rw [HST.out], HALL.out⟩
              case measure => simp [intOf]; omega
          · have HST : Hid (stF (E.take (k + 1)) = (true, n)) := by rw [Hid, htk.out, hst.out]; simp
            clear hst htk
            go_wp2_with fail
            go_round
            case rel => exact ⟨k + 1, by omega, by go_num, by rw [HST.out], by rw [HST.out], HALL.out⟩
            case measure => simp [intOf]; omega
        · have hno : E.all digB = false := by
            rw [← Bool.not_eq_true]
            intro hh
            have := all_take hh (k + 1)
            rw [htk.out, List.all_append, Bool.and_eq_true] at this
            simp only [List.all_cons, List.all_nil, Bool.and_true] at this
            exact hd this.2
          have H6 := Lib.hid (show P = (0, 6) by rw [HL.out, hno]; rfl)
          have hx : x.toNat < 48 ∨ 57 < x.toNat := by
            rcases Nat.lt_or_ge x.toNat 48 with h | h
            · exact .inl h
            · rcases Nat.lt_or_ge 57 x.toNat with h' | h'
              · exact .inr h'
              · exact absurd (digB_iff.2 ⟨h, h'⟩) hd
          clear hst htk hno hd hall
          rcases hx with h | h
          · have b1 : decide ((x.toNat : Int) < 48) = true := by simp; omega
            go_wp2_with fail
            go_ret2
            exact ⟨by rw [HP.out, H6.out]; rfl, hbl⟩
          · have b1 : decide ((x.toNat : Int) < 48) = false := by simp; omega
            have b2 : decide (57 < (x.toNat : Int)) = true := by simp; omega
            go_wp2_with fail
            go_ret2
            exact ⟨by rw [HP.out, H6.out]; rfl, hbl⟩
      · obtain rfl : k = E.length := by omega
        have hge : ¬ (E.length : Int) < (D.length : Int) := by (try simp only [List.length_cons] at hEl); omega
        have hdk : decide ((E.length : Int) < (D.length : Int)) = false := decide_eq_false hge
        rw [List.take_length] at hall i1 i2 i3 i4
        rw [List.take_length]
        have HV : Hid (P = fitL (if false = true then -valL E else valL E)) := by
          rw [Hid, HL.out, hall]; rfl
        have hi3 := Lib.hid i3
        have hi4 := Lib.hid i4
        clear i3 i4 hall
        generalize stF E = st at hi3 hi4 i1 i2
        obtain ⟨far, n⟩ := st
        simp only at i1 i2
        cases far
        · have hn : valL E = n := (hi3.out rfl).symm
          rw [hn] at HV
          clear hn
          go_wp2_with fail
          refine (fit_any _ _).mono ?_
          rintro e w' ⟨rfl, rfl⟩
          have HV2 : Hid (P = fitL n) := HV.out
          generalize fitL n = x at HV2
          obtain ⟨m, e⟩ := x
          rw [resV]
          go_wp2_with fail
          go_ret2
          exact ⟨by rw [HP.out, HV2.out]; rfl, hbl⟩
        · have hn : 1152921504606846976 < valL E := hi4.out rfl
          have H11 := Lib.hid (show P = (0, 11) by
            rw [HV.out, fitL, if_neg]
            rw [num_iff]
            simp
            omega)
          clear hn
          go_wp2_with fail
          go_ret2
          exact ⟨by rw [HP.out, H11.out]; rfl, hbl⟩
  · have H := Lib.hid (show parseL (D) = (0, 6) by
      rw [parseL, hBody, if_neg]
      simp only [okL, Bool.and_eq_true, decide_eq_true_eq]
      exact fun h => hlen h.1)
    have hlen' : ((D).length : Int) < 1 ∨ 30 < ((D).length : Int) := by omega
    clear hlen hBody hNeg hl
    try simp only [List.length_cons] at hlen'
    rcases hlen' with h | h
    · go_enter Tryd.func49, Tryd.ntmps49
      go_wp2_with fail
      go_ret2
      exact ⟨by rw [H.out]; rfl, Below.refl _ _⟩
    · have h' : ¬ ((D).length : Int) < 1 := by simp; omega
      try simp only [List.length_cons] at h'
      go_enter Tryd.func49, Tryd.ntmps49
      go_wp2_with fail
      go_ret2
      exact ⟨by rw [H.out]; rfl, Below.refl _ _⟩

theorem parse_any (s : ByteArray) (w : World) :
    Calls Tryd.prog 49 #[.string s] w fun e w' => e = .returned (resV (parseL s.data.toList)) ∧ Below w.heap.size w w' := by
  obtain ⟨⟨l⟩⟩ := s
  rw [show (ByteArray.mk ⟨l⟩).data.toList = l from rfl]
  rcases l with _ | ⟨c, r⟩
  · have H := Lib.hid (show parseL [] = (0, 6) from rfl)
    go_enter Tryd.func49, Tryd.ntmps49
    go_wp2_with fail
    go_ret2
    exact ⟨by rw [H.out]; rfl, Below.refl _ _⟩
  · by_cases h45 : c = 45
    · subst h45
      exact parse_minus r w
    · by_cases h43 : c = 43
      · subst h43
        exact parse_plus r w
      · exact parse_none (c :: r) c (ba_zero c r) (by simp [bodyL, h45, h43]) (by simp [negL, h45]) (by simp) h45 h43 w
end Go.Proofs.YtneokkhnjnomdaaDoor
