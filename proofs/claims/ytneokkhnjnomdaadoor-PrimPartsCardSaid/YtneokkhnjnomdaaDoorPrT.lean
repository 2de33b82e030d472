/-
  The law of parts.
-/
import Derived.Test.YtneokkhnjnomdaaDoorPrR
import Derived.ProofKit
import Derived.OpenShut
namespace Go.Proofs.YtneokkhnjnomdaaDoor
open Go.RowKit Go.Proofs.YtneokkhnjnomdaaDoorW.PrintWords Go.ChangeShapes Go.WideShapes Go.ChangeAt

theorem parts_all (a b : ByteArray) (w : World) (h : Laid18 w) : Calls Tryd.prog 4 #[.string a, .string b] w (Giv (.bool true) w) := by
  by_cases h1 : 600 < a.size
  · exact parts_longa a b h1 w h
  by_cases h2 : 600 < b.size
  · exact parts_longb a b h1 h2 w h
  by_cases h3 : 500 < a.size
  · exact parts_bada a b h1 h2 h3 w h
  by_cases h4 : 500 < b.size
  · exact parts_badb a b h1 h2 h3 h4 w h
  by_cases h5 : a.size + b.size ≤ 500
  · exact parts_ok a b h5 w h
  · exact parts_over a b (by omega) (by omega) h5 w h

set_option maxRecDepth 16000 in
theorem PrimParts_top {H : Type} {enc : TypeId × Value → H} (W : World) (base : Nat) (v0 v1 : Value) (d0 d1 : DataW H) (p0 p1 : List MemPlace) (hv0 : Value.okWide Tryd.prog W .any base 9 v0) (hv1 : Value.okWide Tryd.prog W .any base 9 v1)
    (h0 : DataW.Trod enc Tryd.prog W 0 (fun _ => true) true 9 v0 d0 p0) (h1 : DataW.Trod enc Tryd.prog W 0 (fun _ => true) true 9 v1 d1 p1)
    {ts : List TypeId} {ds : List (DataW H)} (_ : (DataW.weightsEach Tryd.prog ts ds).all (· ≤ reachBytes) = true) (hT : Laid18 W) :
    Calls Tryd.prog 4 #[v0, v1] W fun e w' => e = .returned (.bool true) ∧ Below W.heap.size W w' := by
  obtain ⟨s, rfl, rfl, rfl, _⟩ := Go.ChangeMaps.open_string Tryd.underlying9 hv0 h0
  obtain ⟨t, rfl, rfl, rfl, _⟩ := Go.ChangeMaps.open_string Tryd.underlying9 hv1 h1
  exact (parts_all s t W hT).mono fun e w' h => ⟨h.ret, h.below⟩
end Go.Proofs.YtneokkhnjnomdaaDoor
