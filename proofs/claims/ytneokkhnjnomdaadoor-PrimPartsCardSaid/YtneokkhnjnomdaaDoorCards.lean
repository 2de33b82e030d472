/-
  DERIVED. GIVEN WITH THE SEED: THE CARDS: each row of YtneokkhnjnomdaaDoorRows.lean that lists a variable, with what it lists TIED to the program's text (the seventh form; the later family's looks); each row that meets fmt, with fmt's text TOLD by the authors' own Lean function (tested against real Go, not proved from fmt's source: count such statements apart). THE CARD IS WHAT COUNTS. Prove the row's statement (the work); the ties are given (YtneokkhnjnomdaaDoorTie.lean); close each card by the builder's one call (the guide's Derived/Test/ToyasCard.lean, 'card_holds'). Laid BY PROGRAM, IN A SANDBOX (cutbox-door.mjs). By AI agents, Wed Nov 11 2026. No macro, syntax, notation, axiom, sorry.
-/
import Derived.Test.YtneokkhnjnomdaaDoorRows
import GoSem.ClaimSeven
namespace Go.Proofs.YtneokkhnjnomdaaDoor
namespace Rows

/-- THE TIED CARD OF 'spindlelaw18.PrimNames'. -/
def primNamesCard : Claim7 := { stood := { row := primNamesRow, standIns := [], harness := (true, "bb200c925a571b3f8043ab6e07802dd0687467d710c90f640a346790dc26d208"), looks := true }, kinds := [], alts := [], laidByText := true, laidKinds := [.data, .data, .data, .handle, .listed, .data], laidTests := true, laidLooks := .later }
def PrimNamesCardSaid : Prop := Claim7.holds Tryd.pinned (.plain (OpenSpec.ofChange primNamesSpec)) primNamesCard

/-- THE TIED CARD OF 'spindlelaw18.PrimParts'. -/
def primPartsCard : Claim7 := { stood := { row := primPartsRow, standIns := [], harness := (true, "bb200c925a571b3f8043ab6e07802dd0687467d710c90f640a346790dc26d208"), looks := true }, kinds := [], alts := [], laidByText := true, laidKinds := [.data, .data, .data, .handle, .listed, .data], laidTests := true, laidLooks := .later }
def PrimPartsCardSaid : Prop := Claim7.holds Tryd.pinned (.plain (OpenSpec.ofChange primPartsSpec)) primPartsCard

/-- THE TIED CARD OF 'spindlelaw18.PrimOrder'. -/
def primOrderCard : Claim7 := { stood := { row := primOrderRow, standIns := [], harness := (true, "bb200c925a571b3f8043ab6e07802dd0687467d710c90f640a346790dc26d208"), looks := true }, kinds := [], alts := [], laidByText := true, laidKinds := [.data, .data, .data, .handle, .listed, .data], laidTests := true, laidLooks := .later }
def PrimOrderCardSaid : Prop := Claim7.holds Tryd.pinned (.plain (OpenSpec.ofChange primOrderSpec)) primOrderCard

/-- THE SECOND FORM's CARD OF 'spindlelaw18.PrimNames'. -/
def primNamesUptoCard : Claim7 := { stood := { row := primNamesUptoRow, standIns := [], harness := (true, "bb200c925a571b3f8043ab6e07802dd0687467d710c90f640a346790dc26d208"), looks := true }, kinds := [], alts := [], laidByText := true, laidKinds := [.data, .data, .data, .handle, .listed, .data], laidTests := true, laidLooks := .later }
def PrimNamesUptoCardSaid : Prop := Claim7.holds Tryd.pinned (.plain (OpenSpec.upto primNamesSpec)) primNamesUptoCard

/-- THE SECOND FORM's CARD OF 'spindlelaw18.PrimParts'. -/
def primPartsUptoCard : Claim7 := { stood := { row := primPartsUptoRow, standIns := [], harness := (true, "bb200c925a571b3f8043ab6e07802dd0687467d710c90f640a346790dc26d208"), looks := true }, kinds := [], alts := [], laidByText := true, laidKinds := [.data, .data, .data, .handle, .listed, .data], laidTests := true, laidLooks := .later }
def PrimPartsUptoCardSaid : Prop := Claim7.holds Tryd.pinned (.plain (OpenSpec.upto primPartsSpec)) primPartsUptoCard

/-- THE SECOND FORM's CARD OF 'spindlelaw18.PrimOrder'. -/
def primOrderUptoCard : Claim7 := { stood := { row := primOrderUptoRow, standIns := [], harness := (true, "bb200c925a571b3f8043ab6e07802dd0687467d710c90f640a346790dc26d208"), looks := true }, kinds := [], alts := [], laidByText := true, laidKinds := [.data, .data, .data, .handle, .listed, .data], laidTests := true, laidLooks := .later }
def PrimOrderUptoCardSaid : Prop := Claim7.holds Tryd.pinned (.plain (OpenSpec.upto primOrderSpec)) primOrderUptoCard
end Rows
end Go.Proofs.YtneokkhnjnomdaaDoor
