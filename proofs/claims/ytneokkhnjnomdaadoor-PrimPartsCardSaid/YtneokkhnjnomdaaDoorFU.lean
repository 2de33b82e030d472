/-
  Walk: a number's text by the reference.
-/
import Derived.Test.YtneokkhnjnomdaaDoorFT
import Derived.Laws.IdiomStrings
namespace Go.Proofs.YtneokkhnjnomdaaDoor
open Go.RowKit

theorem dec_small {u : Nat} (h : u < 10) : Lib.decDigits u = [UInt8.ofNat (48 + u)] := by rw [Lib.decDigits, dif_pos h]
theorem dec_big {u : Nat} (h : ¬ u < 10) : Lib.decDigits u = Lib.decDigits (u / 10) ++ [UInt8.ofNat (48 + u % 10)] := by rw [Lib.decDigits, dif_neg h]

/-- A string of one byte, out of the newest block. -/
theorem one_string (w : World) (c : Int) (h0 : 0 ≤ c) (h1 : c < 256) :
    (convert 105 9 (.slice (some ⟨w.heap.size, 0, none⟩) 1 1)).run Tryd.prog (w.alloc (.cells #[.int .u8 c] 5)) = .ok (.string ⟨#[UInt8.ofNat c.toNat]⟩) (w.alloc (.cells #[.int .u8 c] 5)) := by
  have hc : ((UInt8.ofNat c.toNat).toNat : Int) = c := by
    simp [UInt8.toNat_ofNat']
    omega
  refine run_convert_bytes_back (w.alloc (.cells #[.int .u8 c] 5)) 105 9 5 ⟨w.heap.size, 0, none⟩ 1 [UInt8.ofNat c.toNat] Tryd.underlying105 Tryd.underlying5 Tryd.underlying9 ?_
  intro j hj
  obtain rfl : j = 0 := by simpa using hj
  rw [news_new w [.int .u8 c] 5 w.heap.size rfl 0 (.int .u8 c) rfl]
  simp only [List.getElem_cons_zero, hc]

theorem mk_cons (c : UInt8) (t : List UInt8) : (⟨#[c]⟩ : ByteArray) ++ ⟨t.toArray⟩ = ⟨(c :: t).toArray⟩ := by
  apply ByteArray.ext
  rw [ByteArray.data_append]
  simp

end Go.Proofs.YtneokkhnjnomdaaDoor
