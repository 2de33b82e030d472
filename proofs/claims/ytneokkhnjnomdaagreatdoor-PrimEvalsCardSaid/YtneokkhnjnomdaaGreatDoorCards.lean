/-
  DERIVED. GIVEN WITH THE SEED: THE CARDS: each row of YtneokkhnjnomdaaGreatDoorRows.lean that lists a variable, with what it lists TIED to the program's text (the seventh form; the later family's looks); each row that meets fmt, with fmt's text TOLD by the authors' own Lean function (tested against real Go, not proved from fmt's source: count such statements apart). THE CARD IS WHAT COUNTS. Prove the row's statement (the work); the ties are given (YtneokkhnjnomdaaGreatDoorTie.lean); close each card by the builder's one call (the guide's Derived/Test/ToyasCard.lean, 'card_holds'). Laid BY PROGRAM, IN A SANDBOX (cutbox-door.mjs). By AI agents, Wed Nov 11 2026. No macro, syntax, notation, axiom, sorry.
-/
import Derived.Test.YtneokkhnjnomdaaGreatDoorRows
import GoSem.ClaimSeven
namespace Go.Proofs.YtneokkhnjnomdaaGreatDoor
namespace Rows

/-- THE TIED CARD OF 'spindlelaw18.PrimEvals'. -/
def primEvalsCard : Claim7 := { stood := { row := primEvalsRow, standIns := [], harness := (true, "c2e027890ffade807270a6bbd70cf82210534f4cc8d7fda9eee6b5c803dac69a"), looks := true }, kinds := [], alts := [], laidByText := true, laidKinds := [.data, .data, .data, .handle, .listed, .data], laidTests := true, laidLooks := .later }
def PrimEvalsCardSaid : Prop := Claim7.holds Tryz.pinned (.plain (OpenSpec.ofChange primEvalsSpec)) primEvalsCard

/-- THE TIED CARD OF 'spindlelaw18.PrimPlain'. -/
def primPlainCard : Claim7 := { stood := { row := primPlainRow, standIns := [], harness := (true, "c2e027890ffade807270a6bbd70cf82210534f4cc8d7fda9eee6b5c803dac69a"), looks := true }, kinds := [], alts := [], laidByText := true, laidKinds := [.data, .data, .data, .handle, .listed, .data], laidTests := true, laidLooks := .later }
def PrimPlainCardSaid : Prop := Claim7.holds Tryz.pinned (.plain (OpenSpec.ofChange primPlainSpec)) primPlainCard

/-- THE TIED CARD OF 'spindlelaw18.PrimArities'. -/
def primAritiesCard : Claim7 := { stood := { row := primAritiesRow, standIns := [], harness := (true, "c2e027890ffade807270a6bbd70cf82210534f4cc8d7fda9eee6b5c803dac69a"), looks := true }, kinds := [], alts := [], laidByText := true, laidKinds := [.data, .data, .data, .handle, .listed, .data], laidTests := true, laidLooks := .later }
def PrimAritiesCardSaid : Prop := Claim7.holds Tryz.pinned (.plain (OpenSpec.ofChange primAritiesSpec)) primAritiesCard

/-- THE SECOND FORM's CARD OF 'spindlelaw18.PrimEvals'. -/
def primEvalsUptoCard : Claim7 := { stood := { row := primEvalsUptoRow, standIns := [], harness := (true, "c2e027890ffade807270a6bbd70cf82210534f4cc8d7fda9eee6b5c803dac69a"), looks := true }, kinds := [], alts := [], laidByText := true, laidKinds := [.data, .data, .data, .handle, .listed, .data], laidTests := true, laidLooks := .later }
def PrimEvalsUptoCardSaid : Prop := Claim7.holds Tryz.pinned (.plain (OpenSpec.upto primEvalsSpec)) primEvalsUptoCard

/-- THE SECOND FORM's CARD OF 'spindlelaw18.PrimPlain'. -/
def primPlainUptoCard : Claim7 := { stood := { row := primPlainUptoRow, standIns := [], harness := (true, "c2e027890ffade807270a6bbd70cf82210534f4cc8d7fda9eee6b5c803dac69a"), looks := true }, kinds := [], alts := [], laidByText := true, laidKinds := [.data, .data, .data, .handle, .listed, .data], laidTests := true, laidLooks := .later }
def PrimPlainUptoCardSaid : Prop := Claim7.holds Tryz.pinned (.plain (OpenSpec.upto primPlainSpec)) primPlainUptoCard

/-- THE SECOND FORM's CARD OF 'spindlelaw18.PrimArities'. -/
def primAritiesUptoCard : Claim7 := { stood := { row := primAritiesUptoRow, standIns := [], harness := (true, "c2e027890ffade807270a6bbd70cf82210534f4cc8d7fda9eee6b5c803dac69a"), looks := true }, kinds := [], alts := [], laidByText := true, laidKinds := [.data, .data, .data, .handle, .listed, .data], laidTests := true, laidLooks := .later }
def PrimAritiesUptoCardSaid : Prop := Claim7.holds Tryz.pinned (.plain (OpenSpec.upto primAritiesSpec)) primAritiesUptoCard
end Rows
end Go.Proofs.YtneokkhnjnomdaaGreatDoor
