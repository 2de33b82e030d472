/-
  DERIVED. GIVEN WITH THE SEED: THE CARDS: each row of YtcbibajcmhpjpaaDoorRows.lean that lists a variable, with what it lists TIED to the program's text (the seventh form; the later family's looks); each row that meets fmt, with fmt's text TOLD by the authors' own Lean function (tested against real Go, not proved from fmt's source: count such statements apart). THE CARD IS WHAT COUNTS. Prove the row's statement (the work); the ties are given (YtcbibajcmhpjpaaDoorTie.lean); close each card by the builder's one call (the guide's Derived/Test/ToyasCard.lean, 'card_holds'). Laid BY PROGRAM, IN A SANDBOX (cutbox-door.mjs). By AI agents, Wed Nov 11 2026. No macro, syntax, notation, axiom, sorry.
-/
import Derived.Test.YtcbibajcmhpjpaaDoorRows
import GoSem.ClaimSeven
namespace Go.Proofs.YtcbibajcmhpjpaaDoor
namespace Rows

/-- THE TIED CARD OF 'spindlelaw02.FixTexts'. -/
def fixTextsCard : Claim7 := { stood := { row := fixTextsRow, standIns := [], harness := (true, "94f6ca73053a0adb122fc8440df71b0f605d8e9ae0bbe72f9d6cfcc5d1f78db0"), looks := true }, kinds := [], alts := [], laidByText := true, laidKinds := [.data, .data, .data], laidTests := true, laidLooks := .later }
def FixTextsCardSaid : Prop := Claim7.holds Tryd.pinned (.plain (OpenSpec.ofChange fixTextsSpec)) fixTextsCard

/-- THE TIED CARD OF 'spindlelaw02.FixParses'. -/
def fixParsesCard : Claim7 := { stood := { row := fixParsesRow, standIns := [], harness := (true, "94f6ca73053a0adb122fc8440df71b0f605d8e9ae0bbe72f9d6cfcc5d1f78db0"), looks := true }, kinds := [], alts := [], laidByText := true, laidKinds := [.data, .data, .data], laidTests := true, laidLooks := .later }
def FixParsesCardSaid : Prop := Claim7.holds Tryd.pinned (.plain (OpenSpec.ofChange fixParsesSpec)) fixParsesCard

/-- THE TIED CARD OF 'spindlelaw02.FixNoughts'. -/
def fixNoughtsCard : Claim7 := { stood := { row := fixNoughtsRow, standIns := [], harness := (true, "94f6ca73053a0adb122fc8440df71b0f605d8e9ae0bbe72f9d6cfcc5d1f78db0"), looks := true }, kinds := [], alts := [], laidByText := true, laidKinds := [.data, .data, .data], laidTests := true, laidLooks := .later }
def FixNoughtsCardSaid : Prop := Claim7.holds Tryd.pinned (.plain (OpenSpec.ofChange fixNoughtsSpec)) fixNoughtsCard

/-- THE TIED CARD OF 'spindlelaw02.FixParts'. -/
def fixPartsCard : Claim7 := { stood := { row := fixPartsRow, standIns := [], harness := (true, "94f6ca73053a0adb122fc8440df71b0f605d8e9ae0bbe72f9d6cfcc5d1f78db0"), looks := true }, kinds := [], alts := [], laidByText := true, laidKinds := [.data, .data, .data], laidTests := true, laidLooks := .later }
def FixPartsCardSaid : Prop := Claim7.holds Tryd.pinned (.plain (OpenSpec.ofChange fixPartsSpec)) fixPartsCard

/-- THE TIED CARD OF 'spindlelaw02.FixModulo'. -/
def fixModuloCard : Claim7 := { stood := { row := fixModuloRow, standIns := [], harness := (true, "94f6ca73053a0adb122fc8440df71b0f605d8e9ae0bbe72f9d6cfcc5d1f78db0"), looks := true }, kinds := [], alts := [], laidByText := true, laidKinds := [.data, .data, .data], laidTests := true, laidLooks := .later }
def FixModuloCardSaid : Prop := Claim7.holds Tryd.pinned (.plain (OpenSpec.ofChange fixModuloSpec)) fixModuloCard

/-- THE TIED CARD OF 'spindlelaw02.FixBack'. -/
def fixBackCard : Claim7 := { stood := { row := fixBackRow, standIns := [], harness := (true, "94f6ca73053a0adb122fc8440df71b0f605d8e9ae0bbe72f9d6cfcc5d1f78db0"), looks := true }, kinds := [], alts := [], laidByText := true, laidKinds := [.data, .data, .data], laidTests := true, laidLooks := .later }
def FixBackCardSaid : Prop := Claim7.holds Tryd.pinned (.plain (OpenSpec.ofChange fixBackSpec)) fixBackCard

/-- THE TIED CARD OF 'spindlelaw02.FixSums'. -/
def fixSumsCard : Claim7 := { stood := { row := fixSumsRow, standIns := [], harness := (true, "94f6ca73053a0adb122fc8440df71b0f605d8e9ae0bbe72f9d6cfcc5d1f78db0"), looks := true }, kinds := [], alts := [], laidByText := true, laidKinds := [.data, .data, .data], laidTests := true, laidLooks := .later }
def FixSumsCardSaid : Prop := Claim7.holds Tryd.pinned (.plain (OpenSpec.ofChange fixSumsSpec)) fixSumsCard

/-- THE TIED CARD OF 'spindlelaw02.FixOrder'. -/
def fixOrderCard : Claim7 := { stood := { row := fixOrderRow, standIns := [], harness := (true, "94f6ca73053a0adb122fc8440df71b0f605d8e9ae0bbe72f9d6cfcc5d1f78db0"), looks := true }, kinds := [], alts := [], laidByText := true, laidKinds := [.data, .data, .data], laidTests := true, laidLooks := .later }
def FixOrderCardSaid : Prop := Claim7.holds Tryd.pinned (.plain (OpenSpec.ofChange fixOrderSpec)) fixOrderCard

/-- THE TIED CARD OF 'spindlelaw02.FixSigns'. -/
def fixSignsCard : Claim7 := { stood := { row := fixSignsRow, standIns := [], harness := (true, "94f6ca73053a0adb122fc8440df71b0f605d8e9ae0bbe72f9d6cfcc5d1f78db0"), looks := true }, kinds := [], alts := [], laidByText := true, laidKinds := [.data, .data, .data], laidTests := true, laidLooks := .later }
def FixSignsCardSaid : Prop := Claim7.holds Tryd.pinned (.plain (OpenSpec.ofChange fixSignsSpec)) fixSignsCard

/-- THE SECOND FORM's CARD OF 'spindlelaw02.FixTexts'. -/
def fixTextsUptoCard : Claim7 := { stood := { row := fixTextsUptoRow, standIns := [], harness := (true, "94f6ca73053a0adb122fc8440df71b0f605d8e9ae0bbe72f9d6cfcc5d1f78db0"), looks := true }, kinds := [], alts := [], laidByText := true, laidKinds := [.data, .data, .data], laidTests := true, laidLooks := .later }
def FixTextsUptoCardSaid : Prop := Claim7.holds Tryd.pinned (.plain (OpenSpec.upto fixTextsSpec)) fixTextsUptoCard

/-- THE SECOND FORM's CARD OF 'spindlelaw02.FixParses'. -/
def fixParsesUptoCard : Claim7 := { stood := { row := fixParsesUptoRow, standIns := [], harness := (true, "94f6ca73053a0adb122fc8440df71b0f605d8e9ae0bbe72f9d6cfcc5d1f78db0"), looks := true }, kinds := [], alts := [], laidByText := true, laidKinds := [.data, .data, .data], laidTests := true, laidLooks := .later }
def FixParsesUptoCardSaid : Prop := Claim7.holds Tryd.pinned (.plain (OpenSpec.upto fixParsesSpec)) fixParsesUptoCard

/-- THE SECOND FORM's CARD OF 'spindlelaw02.FixNoughts'. -/
def fixNoughtsUptoCard : Claim7 := { stood := { row := fixNoughtsUptoRow, standIns := [], harness := (true, "94f6ca73053a0adb122fc8440df71b0f605d8e9ae0bbe72f9d6cfcc5d1f78db0"), looks := true }, kinds := [], alts := [], laidByText := true, laidKinds := [.data, .data, .data], laidTests := true, laidLooks := .later }
def FixNoughtsUptoCardSaid : Prop := Claim7.holds Tryd.pinned (.plain (OpenSpec.upto fixNoughtsSpec)) fixNoughtsUptoCard

/-- THE SECOND FORM's CARD OF 'spindlelaw02.FixParts'. -/
def fixPartsUptoCard : Claim7 := { stood := { row := fixPartsUptoRow, standIns := [], harness := (true, "94f6ca73053a0adb122fc8440df71b0f605d8e9ae0bbe72f9d6cfcc5d1f78db0"), looks := true }, kinds := [], alts := [], laidByText := true, laidKinds := [.data, .data, .data], laidTests := true, laidLooks := .later }
def FixPartsUptoCardSaid : Prop := Claim7.holds Tryd.pinned (.plain (OpenSpec.upto fixPartsSpec)) fixPartsUptoCard

/-- THE SECOND FORM's CARD OF 'spindlelaw02.FixModulo'. -/
def fixModuloUptoCard : Claim7 := { stood := { row := fixModuloUptoRow, standIns := [], harness := (true, "94f6ca73053a0adb122fc8440df71b0f605d8e9ae0bbe72f9d6cfcc5d1f78db0"), looks := true }, kinds := [], alts := [], laidByText := true, laidKinds := [.data, .data, .data], laidTests := true, laidLooks := .later }
def FixModuloUptoCardSaid : Prop := Claim7.holds Tryd.pinned (.plain (OpenSpec.upto fixModuloSpec)) fixModuloUptoCard

/-- THE SECOND FORM's CARD OF 'spindlelaw02.FixBack'. -/
def fixBackUptoCard : Claim7 := { stood := { row := fixBackUptoRow, standIns := [], harness := (true, "94f6ca73053a0adb122fc8440df71b0f605d8e9ae0bbe72f9d6cfcc5d1f78db0"), looks := true }, kinds := [], alts := [], laidByText := true, laidKinds := [.data, .data, .data], laidTests := true, laidLooks := .later }
def FixBackUptoCardSaid : Prop := Claim7.holds Tryd.pinned (.plain (OpenSpec.upto fixBackSpec)) fixBackUptoCard

/-- THE SECOND FORM's CARD OF 'spindlelaw02.FixSums'. -/
def fixSumsUptoCard : Claim7 := { stood := { row := fixSumsUptoRow, standIns := [], harness := (true, "94f6ca73053a0adb122fc8440df71b0f605d8e9ae0bbe72f9d6cfcc5d1f78db0"), looks := true }, kinds := [], alts := [], laidByText := true, laidKinds := [.data, .data, .data], laidTests := true, laidLooks := .later }
def FixSumsUptoCardSaid : Prop := Claim7.holds Tryd.pinned (.plain (OpenSpec.upto fixSumsSpec)) fixSumsUptoCard

/-- THE SECOND FORM's CARD OF 'spindlelaw02.FixOrder'. -/
def fixOrderUptoCard : Claim7 := { stood := { row := fixOrderUptoRow, standIns := [], harness := (true, "94f6ca73053a0adb122fc8440df71b0f605d8e9ae0bbe72f9d6cfcc5d1f78db0"), looks := true }, kinds := [], alts := [], laidByText := true, laidKinds := [.data, .data, .data], laidTests := true, laidLooks := .later }
def FixOrderUptoCardSaid : Prop := Claim7.holds Tryd.pinned (.plain (OpenSpec.upto fixOrderSpec)) fixOrderUptoCard

/-- THE SECOND FORM's CARD OF 'spindlelaw02.FixSigns'. -/
def fixSignsUptoCard : Claim7 := { stood := { row := fixSignsUptoRow, standIns := [], harness := (true, "94f6ca73053a0adb122fc8440df71b0f605d8e9ae0bbe72f9d6cfcc5d1f78db0"), looks := true }, kinds := [], alts := [], laidByText := true, laidKinds := [.data, .data, .data], laidTests := true, laidLooks := .later }
def FixSignsUptoCardSaid : Prop := Claim7.holds Tryd.pinned (.plain (OpenSpec.upto fixSignsSpec)) fixSignsUptoCard
end Rows
end Go.Proofs.YtcbibajcmhpjpaaDoor
