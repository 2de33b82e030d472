/-
  The law of strings.
-/
import Derived.Test.YthighbbikpnpgaaDoorLB5
import Derived.Laws.IdiomStrings
import Derived.Deep.AppendLies
import Derived.ProofKit
import Derived.OpenShut
namespace Go.Proofs.YthighbbikpnpgaaDoor
open Go.RowKit Go.Proofs.YthighbbikpnpgaaDoorW.PrintWords Go.ChangeShapes Go.WideShapes Go.ChangeAt

structure OutI (w : World) (gb : Nat) (E M : List UInt8) (v : Value) (w' : World) : Prop where
  own : ∃ g n cap, v = .slice (some ⟨g, 0, none⟩) n cap ∧ n = M.length ∧ g ≠ gb ∧ g < w'.heap.size ∧ w'.ownsRow w.heap.size 5 1 v n (Lib.byteCells M)
  below : Below w.heap.size w w'
  lt : gb < w'.heap.size
  src : ∀ j (hj : j < E.length), w'.cell? ⟨gb, j, none⟩ = some (.int .u8 (E[j].toNat : Int))

theorem OutI.grow {w : World} {gb : Nat} {E M : List UInt8} {g n cap : Nat} {w1 : World} (h : OutI w gb E M (.slice (some ⟨g, 0, none⟩) n cap) w1) (c : UInt8) (o : Obj) {g' cap' : Nat} {w2 : World}
    (hown : w2.ownsRow w.heap.size 5 1 (.slice (some ⟨g', 0, none⟩) (n + 1) cap') (n + 1) (Lib.byteCells M ++ [.int .u8 (c.toNat : Int)])) (hgrow : (w1.alloc o).grownBy w2 (Value.slice (some ⟨g, 0, none⟩) n cap).ownBlock)
    (hat : (Value.slice (some ⟨g, 0, none⟩) n cap).ownBlock = some g' ∨ g' = w1.heap.size + 1) (hlt : g' < w2.heap.size) : OutI w gb E (M ++ [c]) (.slice (some ⟨g', 0, none⟩) (n + 1) cap') w2 := by
  obtain ⟨g1, n1, cap1, e1, hn, hne, hl, ho⟩ := h.own
  injection e1 with ea en ec
  injection ea with ea
  injection ea with ea
  subst ea en ec
  have hlt0 := h.lt
  have hne' : some gb ≠ (Value.slice (some ⟨g, 0, none⟩) n cap).ownBlock := by
    intro e
    simp [Value.ownBlock] at e
    exact hne e.symm
  refine ⟨⟨g', n + 1, cap', rfl, by simp [hn], ?_, hlt, ?_⟩, ?_, ?_, fun j hj => ?_⟩
  · rcases hat with e | e
    · simp [Value.ownBlock] at e
      rw [← e]; exact hne
    · omega
  · rw [Lib.byteCells_append]
    exact hown
  · refine (below_alloc h.below o).grown hgrow (by have := h.below.size; simp; omega) (fun k hk => ?_)
    have := (ho.lt k hk).1
    exact this
  · have := hgrow.size
    simp at this
    omega
  · have e : w2.heap[gb]? = (w1.alloc o).heap[gb]? := hgrow.block gb (by simp; omega) hne'
    have e2 : (w1.alloc o).heap[gb]? = w1.heap[gb]? := Below.heap_alloc w1 o gb hlt0
    have h3 := h.src j hj
    unfold World.cell? at h3 ⊢
    simp only at h3 ⊢
    rw [e, e2]
    exact h3

theorem own_bytes {w : World} {B g n cap : Nat} {M : List UInt8} (h : w.ownsRow B 5 1 (.slice (some ⟨g, 0, none⟩) n cap) n (Lib.byteCells M)) : ∀ j (hj : j < M.length), w.cell? ((⟨g, 0, none⟩ : Addr).add j) = some (.int .u8 (M[j].toNat : Int)) := by
  intro j hj
  rcases h.2 with ⟨h1, _⟩ | ⟨g', cap', cur, hv, hb, hg, hc, hm, hs, ht⟩
  · cases h1
  · injection hv with ha _ _
    injection ha with ha
    injection ha with ha
    subst ha
    rw [add_zero_off, cell_of_row w g j _ _ (0, 0) hg]
    have hx : (Lib.byteCells M)[j]? = some (.int .u8 (M[j].toNat : Int)) := by
      rw [Lib.byteCells, List.getElem?_map, List.getElem?_eq_getElem hj]; rfl
    rw [← ht, List.getElem?_take] at hx
    split at hx
    · simpa using hx
    · cases hx

/-- A string's text: its one token, or the error. -/
theorem str_all (E : List UInt8) (f : Nat) : (E.length ≤ 500 → ∃ ln cl nx, allP ⟨(34 :: (escL E ++ [34])).toArray⟩ (f + 2) 0 1 1 = ((0, 0, 0), [⟨12, 0, E, ln, cl, nx⟩])) ∧ (500 < E.length → allP ⟨(34 :: (escL E ++ [34])).toArray⟩ (f + 2) 0 1 1 = ((14, 1, 1), [])) := by
  have h := str_tok E
  constructor
  · intro hl
    rw [if_neg (by omega)] at h
    exact ⟨1, 1, _, allP_one h (by simp) rfl⟩
  · intro hl
    rw [if_pos hl] at h
    exact allP_bad h (by decide)

theorem esc_len : ∀ (l : List UInt8), (escL l).length ≤ 2 * l.length := by
  intro l
  induction l with
  | nil => simp [escL]
  | cons c r ih =>
    rw [escL]
    split <;> simp only [List.length_cons] <;> omega
theorem esc_step (l : List UInt8) (k : Nat) (hk : k < l.length) : escL (l.take (k + 1)) = escL (l.take k) ++ (if l[k] = 34 ∨ l[k] = 92 then [92, l[k]] else [l[k]]) := by
  have happ : ∀ (a b : List UInt8), escL (a ++ b) = escL a ++ escL b := by
    intro a
    induction a with
    | nil => intro b; rfl
    | cons c r ih =>
      intro b
      rw [List.cons_append, escL, escL, ih]
      split <;> simp
  rw [List.take_succ_eq_append_getElem hk, happ]
  congr 1

set_option maxRecDepth 400000 in
set_option maxHeartbeats 8000000 in
theorem LexStrings_long (s : ByteArray) (w : World) (hg : EtIs w) (hs : 600 < s.size) : Calls Tryd.prog 11 #[.string s] w (NextTo (.bool true) w) := by
  have HG := Lib.hid hg
  have hb : decide ((600 : Int) < (s.size : Nat)) = true := decide_eq_true (by omega)
  have hb' : (600 : Int) < (s.size : Nat) := by omega
  clear hg hs
  go_enter Tryd.func11, Tryd.ntmps11
  go_wp2_with fail
  refine (awake_lex _ HG.out).mono ?_
  rintro e w1 hw1
  obtain rfl := hw1.ret
  have HB1 := Lib.hid hw1.below
  clear hw1
  go_wp2_with fail
  refine (awake_lex _ (et_below HG.out HB1.out)).mono ?_
  rintro e w2 hw2
  obtain rfl := hw2.ret
  have HB2 := Lib.hid (below_step HB1.out hw2.below)
  clear hw2
  go_wp2_with fail
  go_ret
  exact ⟨rfl, HB2.out⟩

set_option maxRecDepth 400000 in
set_option maxHeartbeats 8000000 in
theorem LexStrings_short (s : ByteArray) (w : World) (hg : EtIs w) (hs : ¬ 600 < s.size) : Calls Tryd.prog 11 #[.string s] w (NextTo (.bool true) w) := by
  have HG := Lib.hid hg
  have hb : decide ((600 : Int) < (s.size : Nat)) = false := decide_eq_false (by omega)
  have hb' : ¬ (600 : Int) < (s.size : Nat) := by omega
  have hcv := fun (w : World) (s : ByteArray) => Lib.run_convert_string_bytes w 9 76 5 s Tryd.underlying9 Tryd.underlying76 Tryd.underlying5
  obtain ⟨i0, hi, hz0, hz1, hz2⟩ := info_parts info_byte
  have hEl : s.data.toList.length = s.size := by simp
  clear hg
  go_enter Tryd.func11, Tryd.ntmps11
  go_wp2_with fail
  refine (awake_lex _ HG.out).mono ?_
  rintro e w1 hw1
  obtain rfl := hw1.ret
  have HB1 := Lib.hid hw1.below
  clear hw1
  go_wp2_with fail
  obtain ⟨E, hE⟩ : ∃ E, s.data.toList = E := ⟨_, rfl⟩
  have HI := Lib.hid (show OutI w (w1.heap.size + 1) E (34 :: escL (E.take 0)) (.slice (some ⟨w1.heap.size, 0, none⟩) 1 1) (Lib.bytesWorld (w1.alloc (.cells #[.int .u8 34] 5)) 5 s) from by
    have hh : (Lib.bytesWorld (w1.alloc (.cells #[.int .u8 34] 5)) 5 s).heap[w1.heap.size]? = some (.cells #[.int .u8 34] 5 (0, 0)) := (Lib.bytesWorld_at_old _ _ _ _ (by simp)).trans (blk_new w1 _)
    have hz : (Lib.bytesWorld (w1.alloc (.cells #[.int .u8 34] 5)) 5 s).heap.size = w1.heap.size + 2 := by rw [Lib.bytesWorld_size]; simp
    refine ⟨⟨w1.heap.size, 1, 1, rfl, rfl, by omega, by rw [hz]; omega, ⟨rfl, .inr ⟨w1.heap.size, 1, #[.int .u8 34], rfl, HB1.out.size, hh, by omega, by decide, rfl, rfl⟩⟩⟩, ?_, by rw [hz]; omega, fun j hj => ?_⟩
    · exact below_step (below_alloc HB1.out _) (below_bytes _ s)
    · subst hE
      have := bytes_at (w1.alloc (.cells #[.int .u8 34] 5)) s j hj
      rw [show (w1.alloc (.cells #[.int .u8 34] 5)).heap.size = w1.heap.size + 1 by simp] at this
      exact this)
  have HS := Lib.hid (show (⟨E.toArray⟩ : ByteArray) = s by rw [← hE])
  rw [hE] at hEl
  clear hE hcv
  generalize Lib.bytesWorld (w1.alloc (.cells #[.int .u8 34] 5)) 5 s = w0 at HI ⊢
  go_loopg [3, 20] (E.length) (fun gk v i w' => ∃ (k : Nat), i = .int .i64 (k : Nat) ∧ gk = E.length - k ∧ k ≤ E.length ∧ Hid (OutI w (w1.heap.size + 1) E (34 :: escL (E.take k)) v w'))
  case atStart => exact ⟨0, rfl, rfl, Nat.zero_le _, HI⟩
  case round =>
    clear HI
    obtain ⟨k, rfl, rfl, hk, HJ⟩ := hrel
    have hM : (34 :: escL (E.take k)).length ≤ 1201 := by
      have := esc_len (E.take k)
      have h2 : (E.take k).length ≤ E.length := by rw [List.length_take]; omega
      simp only [List.length_cons]
      omega
    obtain ⟨g0, n, cap0, rfl, hn, -, -, ho0⟩ := HJ.out.own
    have HO0 := Lib.hid ho0
    have HN := Lib.hid hn
    have hnl : n ≤ 1201 := by omega
    clear ho0 hn hM
    have hsz0 := HJ.out.below.size
    by_cases hlt : k < E.length
    · have hlt' : (k : Int) < (s.size : Nat) := by omega
      have hlt2 : k < s.size := by omega
      obtain ⟨x, hx⟩ : ∃ x, E[k] = x := ⟨_, rfl⟩
      have hst := esc_step E k hlt
      have hcx := HJ.out.src k hlt
      rw [hx] at hst hcx
      have x256 : x.toNat < 256 := x.toNat_lt
      clear hx
      by_cases h34 : x = 34 ∨ x = 92
      · have HST := Lib.hid (show 34 :: escL (E.take (k + 1)) = ((34 :: escL (E.take k)) ++ [92]) ++ [x] by rw [hst, if_pos h34]; simp)
        clear hst
        rcases h34 with rfl | rfl
        · go_wp2_with (at_builtin; refine wpList_append_lies _ rfl _ _ 76 rfl w.heap.size 5 i0 (.int .u8 0) 1 1 Tryd.underlying76 hi hz0 hz1 hz2 rfl (by decide) (.slice (some ⟨g0, 0, none⟩) n cap0) (n) (Lib.byteCells (34 :: escL (E.take k))) rfl (HO0.out.alloc _) ⟨wr.heap.size, 0, none⟩ 1 1 [.int .u8 92] rfl rfl ?c1 ?c2 (by decide) ?c3 ?c4 ?c5 _ rfl ?_)
          case c1 => exact news_new _ [_] _ _ rfl
          case c2 => first | rfl | (intro u hu; simp at hu; subst hu; rfl)
          case c3 => unfold maxLen; omega
          case c4 => omega
          case c5 => have := hsz0; simp; omega
          intro g1 cap1 ww1 hown1 hgrow1 hat1 hlt1
          have H1 := Lib.hid (HJ.out.grow 92 _ hown1 hgrow1 hat1 hlt1)
          have HO1 := Lib.hid hown1
          have hsz1 := H1.out.below.size
          rw [show Lib.byteCells (34 :: escL (E.take k)) ++ [.int .u8 92] = Lib.byteCells ((34 :: escL (E.take k)) ++ [92]) by rw [Lib.byteCells_append]; rfl] at HO1
          clear hown1 hgrow1 hat1 hlt1 hcx
          go_wp2_with (at_builtin; refine wpList_append_lies _ rfl _ _ 76 rfl w.heap.size 5 i0 (.int .u8 0) 1 1 Tryd.underlying76 hi hz0 hz1 hz2 rfl (by decide) (.slice (some ⟨g1, 0, none⟩) (n + 1) cap1) ((n + 1)) (Lib.byteCells ((34 :: escL (E.take k)) ++ [92])) rfl (HO1.out.alloc _) ⟨ww1.heap.size, 0, none⟩ 1 1 [.int .u8 34] rfl rfl ?c1 ?c2 (by decide) ?c3 ?c4 ?c5 _ rfl ?_)
          case c1 => exact news_new _ [_] _ _ rfl
          case c2 => first | rfl | (intro u hu; simp at hu; subst hu; rfl)
          case c3 => unfold maxLen; omega
          case c4 => omega
          case c5 => have := hsz1; simp; omega
          intro g2 cap2 ww2 hown2 hgrow2 hat2 hlt2
          have H2 := Lib.hid (H1.out.grow 34 _ hown2 hgrow2 hat2 hlt2)
          rw [← HST.out] at H2
          clear hown2 hgrow2 hat2 hlt2
          go_wp2_with fail
          go_roundg (E.length - (k + 1))
          case measure => omega
          case rel => exact ⟨k + 1, rfl, rfl, hlt, H2⟩
        · go_wp2_with (at_builtin; refine wpList_append_lies _ rfl _ _ 76 rfl w.heap.size 5 i0 (.int .u8 0) 1 1 Tryd.underlying76 hi hz0 hz1 hz2 rfl (by decide) (.slice (some ⟨g0, 0, none⟩) n cap0) (n) (Lib.byteCells (34 :: escL (E.take k))) rfl (HO0.out.alloc _) ⟨wr.heap.size, 0, none⟩ 1 1 [.int .u8 92] rfl rfl ?c1 ?c2 (by decide) ?c3 ?c4 ?c5 _ rfl ?_)
          case c1 => exact news_new _ [_] _ _ rfl
          case c2 => first | rfl | (intro u hu; simp at hu; subst hu; rfl)
          case c3 => unfold maxLen; omega
          case c4 => omega
          case c5 => have := hsz0; simp; omega
          intro g1 cap1 ww1 hown1 hgrow1 hat1 hlt1
          have H1 := Lib.hid (HJ.out.grow 92 _ hown1 hgrow1 hat1 hlt1)
          have HO1 := Lib.hid hown1
          have hsz1 := H1.out.below.size
          rw [show Lib.byteCells (34 :: escL (E.take k)) ++ [.int .u8 92] = Lib.byteCells ((34 :: escL (E.take k)) ++ [92]) by rw [Lib.byteCells_append]; rfl] at HO1
          clear hown1 hgrow1 hat1 hlt1 hcx
          go_wp2_with (at_builtin; refine wpList_append_lies _ rfl _ _ 76 rfl w.heap.size 5 i0 (.int .u8 0) 1 1 Tryd.underlying76 hi hz0 hz1 hz2 rfl (by decide) (.slice (some ⟨g1, 0, none⟩) (n + 1) cap1) ((n + 1)) (Lib.byteCells ((34 :: escL (E.take k)) ++ [92])) rfl (HO1.out.alloc _) ⟨ww1.heap.size, 0, none⟩ 1 1 [.int .u8 92] rfl rfl ?c1 ?c2 (by decide) ?c3 ?c4 ?c5 _ rfl ?_)
          case c1 => exact news_new _ [_] _ _ rfl
          case c2 => first | rfl | (intro u hu; simp at hu; subst hu; rfl)
          case c3 => unfold maxLen; omega
          case c4 => omega
          case c5 => have := hsz1; simp; omega
          intro g2 cap2 ww2 hown2 hgrow2 hat2 hlt2
          have H2 := Lib.hid (H1.out.grow 92 _ hown2 hgrow2 hat2 hlt2)
          rw [← HST.out] at H2
          clear hown2 hgrow2 hat2 hlt2
          go_wp2_with fail
          go_roundg (E.length - (k + 1))
          case measure => omega
          case rel => exact ⟨k + 1, rfl, rfl, hlt, H2⟩
      · have HST := Lib.hid (show 34 :: escL (E.take (k + 1)) = (34 :: escL (E.take k)) ++ [x] by rw [hst, if_neg h34]; simp)
        have n34 : x ≠ 34 := fun e => h34 (.inl e)
        have n92 : x ≠ 92 := fun e => h34 (.inr e)
        have b34 : ((x.toNat : Int) == 34) = false := u8ne (n := 34) (by omega) n34
        have b92 : ((x.toNat : Int) == 92) = false := u8ne (n := 92) (by omega) n92
        have p34 : ¬ (x.toNat : Int) = 34 := fun e => n34 ((byte_int x 34 (by omega)).1 e)
        have p92 : ¬ (x.toNat : Int) = 92 := fun e => n92 ((byte_int x 92 (by omega)).1 e)
        clear hst h34 n34 n92
        go_wp2_with (at_builtin; refine wpList_append_lies _ rfl _ _ 76 rfl w.heap.size 5 i0 (.int .u8 0) 1 1 Tryd.underlying76 hi hz0 hz1 hz2 rfl (by decide) (.slice (some ⟨g0, 0, none⟩) n cap0) (n) (Lib.byteCells (34 :: escL (E.take k))) rfl (HO0.out.alloc _) ⟨wr.heap.size, 0, none⟩ 1 1 [.int .u8 (x.toNat : Int)] rfl rfl ?c1 ?c2 (by decide) ?c3 ?c4 ?c5 _ rfl ?_)
        case c1 => exact news_new _ [_] _ _ rfl
        case c2 => first | rfl | (intro u hu; simp at hu; subst hu; rfl)
        case c3 => unfold maxLen; omega
        case c4 => omega
        case c5 => have := hsz0; simp; omega
        intro g1 cap1 ww1 hown1 hgrow1 hat1 hlt1
        have H1 := Lib.hid (HJ.out.grow x _ hown1 hgrow1 hat1 hlt1)
        rw [← HST.out] at H1
        clear hown1 hgrow1 hat1 hlt1 hcx
        go_wp2_with fail
        go_roundg (E.length - (k + 1))
        case measure => omega
        case rel => exact ⟨k + 1, rfl, rfl, hlt, H1⟩
    · have hlt' : ¬ (k : Int) < (s.size : Nat) := by omega
      go_wp2_with (at_builtin; refine wpList_append_lies _ rfl _ _ 76 rfl w.heap.size 5 i0 (.int .u8 0) 1 1 Tryd.underlying76 hi hz0 hz1 hz2 rfl (by decide) (.slice (some ⟨g0, 0, none⟩) n cap0) (n) (Lib.byteCells (34 :: escL (E.take k))) rfl (HO0.out.alloc _) ⟨wr.heap.size, 0, none⟩ 1 1 [.int .u8 34] rfl rfl ?c1 ?c2 (by decide) ?c3 ?c4 ?c5 _ rfl ?_)
      case c2 => first | rfl | (intro u hu; simp at hu; subst hu; rfl)
      case c3 => unfold maxLen; omega
      case c4 => omega
      case c5 => have := hsz0; simp; omega
      intro g1 cap1 ww1 hown1 hgrow1 hat1 hlt1
      have HB2 := Lib.hid (HJ.out.grow 34 _ hown1 hgrow1 hat1 hlt1).below
      have hke : k = E.length := by omega
      have hno : n + 1 = ((34 :: escL (E.take k)) ++ [34]).length := by rw [List.length_append, ← HN.out]; rfl
      rw [show Lib.byteCells (34 :: escL (E.take k)) ++ [.int .u8 34] = Lib.byteCells ((34 :: escL (E.take k)) ++ [34]) by rw [Lib.byteCells_append]; rfl] at hown1
      have hcb := run_convert_bytes_back ww1 76 9 5 ⟨g1, 0, none⟩ cap1 ((34 :: escL (E.take k)) ++ [34]) Tryd.underlying76 Tryd.underlying5 Tryd.underlying9 (own_bytes hown1)
      rw [← hno, hke, List.take_length, List.cons_append] at hcb
      clear hown1 hgrow1 hat1 hlt1 hno hke
      have cA := Lib.hid (fun w => all_any ⟨(34 :: (escL E ++ [34])).toArray⟩ w (by
        have := esc_len E
        show (34 :: (escL E ++ [34])).toArray.size ≤ 16384
        simp; omega))
      have HF := Lib.hid (show ∃ f, (⟨(34 :: (escL E ++ [34])).toArray⟩ : ByteArray).size + 1 = f + 2 from ⟨(escL E).length + 1, by
        show (34 :: (escL E ++ [34])).toArray.size + 1 = _
        simp⟩)
      have HSA := Lib.hid (fun f => str_all E f)
      generalize (⟨(34 :: (escL E ++ [34])).toArray⟩ : ByteArray) = TX at hcb cA HF HSA
      go_wp2_with fail
      obtain ⟨f, hf⟩ := HF.out
      refine (cA.out _).mono ?_
      rintro e w3 hw3
      rw [hf] at hw3
      clear hcb
      by_cases h500 : 500 < E.length
      · have b500 : decide ((500 : Int) < (s.size : Nat)) = true := decide_eq_true (by omega)
        have p500 : (500 : Int) < (s.size : Nat) := by omega
        rw [(HSA.out f).2 h500] at hw3
        obtain ⟨v, rfl, hnil, -⟩ := hw3.ret
        obtain rfl := hnil (by decide)
        have HB3 := Lib.hid (below_step HB2.out hw3.below)
        clear hw3 hnil hf h500
        rw [show allErr (((14, 1, 1), []) : (Int × Int × Int) × List TokR).1 = atV 1 1 14 from rfl]
        have hfld : ∀ w, (Instr.field 64 (faultV 14 1 1) 0).run Tryd.prog w = .ok (.int .i64 14) w := fun w => by kernel_rfl
        go_wp2_with fail
        refine (fault_at 1 1 14 (by decide) _ (et_below HG.out HB3.out)).mono ?_
        rintro e w5 hw5
        obtain rfl := hw5.ret
        have HB5 := Lib.hid (below_step HB3.out hw5.below)
        clear hw5
        go_wp2_with fail
        go_ret
        exact ⟨rfl, HB5.out⟩
      · have b500 : decide ((500 : Int) < (s.size : Nat)) = false := decide_eq_false (by omega)
        have p500 : ¬ (500 : Int) < (s.size : Nat) := by omega
        obtain ⟨ln, cl, nx, hall⟩ := (HSA.out f).1 (by omega)
        rw [hall] at hw3
        obtain ⟨v, rfl, -, hown⟩ := hw3.ret
        obtain ⟨g, cap, rfl, hgB, hgc, hgl, hcell⟩ := own_cells (hown rfl) (by simp)
        have c0 : w3.cell? ⟨g, 0, none⟩ = some (.int .i64 12) := hcell 0 _ rfl
        have c2 : w3.cell? ⟨g, 2, none⟩ = some (.string s) := by
          have := hcell 2 _ rfl
          rw [← HS.out]; exact this
        have HB3 := Lib.hid (below_step HB2.out hw3.below)
        clear hw3 hown hcell hall hf h500
        rw [show allErr (((0, 0, 0), [⟨12, 0, E, ln, cl, nx⟩]) : (Int × Int × Int) × List TokR).1 = .nilIface from rfl]
        rw [show (((0, 0, 0), [⟨12, 0, E, ln, cl, nx⟩]) : (Int × Int × Int) × List TokR).2.length = 1 from rfl] at hgc ⊢
        go_wp2_with fail
        go_ret
        exact ⟨rfl, HB3.out⟩

set_option maxRecDepth 16000 in
theorem LexStrings_top {H : Type} {enc : TypeId × Value → H} (W : World) (base : Nat) (v0 : Value) (d0 : DataW H) (p0 : List MemPlace) (hv0 : Value.okWide Tryd.prog W .any base 9 v0) (h0 : DataW.Trod enc Tryd.prog W 0 (fun _ => true) true 9 v0 d0 p0)
    {ts : List TypeId} {ds : List (DataW H)} (_ : (DataW.weightsEach Tryd.prog ts ds).all (· ≤ reachBytes) = true) (hT : EtIs W) :
    Calls Tryd.prog 11 #[v0] W fun e w' => e = .returned (.bool true) ∧ Below W.heap.size W w' := by
  obtain ⟨s, rfl, rfl, rfl, _⟩ := Go.ChangeMaps.open_string Tryd.underlying9 hv0 h0
  by_cases hs : 600 < s.size
  · exact (LexStrings_long s W hT hs).mono fun e w' h => ⟨h.ret, h.below⟩
  · exact (LexStrings_short s W hT hs).mono fun e w' h => ⟨h.ret, h.below⟩
end Go.Proofs.YthighbbikpnpgaaDoor
