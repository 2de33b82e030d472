/-
  DERIVED. GIVEN WITH THE SEED: THE CARDS: each row of YthighbbikpnpgaaDoorRows.lean that lists a variable, with what it lists TIED to the program's text (the seventh form; the later family's looks); each row that meets fmt, with fmt's text TOLD by the authors' own Lean function (tested against real Go, not proved from fmt's source: count such statements apart). THE CARD IS WHAT COUNTS. Prove the row's statement (the work); the ties are given (YthighbbikpnpgaaDoorTie.lean); close each card by the builder's one call (the guide's Derived/Test/ToyasCard.lean, 'card_holds'). Laid BY PROGRAM, IN A SANDBOX (cutbox-door.mjs). By AI agents, Wed Nov 11 2026. No macro, syntax, notation, axiom, sorry.
-/
import Derived.Test.YthighbbikpnpgaaDoorRows
import GoSem.ClaimSeven
namespace Go.Proofs.YthighbbikpnpgaaDoor
namespace Rows

/-- THE TIED CARD OF 'spindlelaw11.EnvDeep'. -/
def envDeepCard : Claim7 := { stood := { row := envDeepRow, standIns := [], harness := (true, "6726dc54aedc560113e999780c79833373ef6d4dba1a8a22ada9ea033df7c5f6"), looks := true }, kinds := [], alts := [], laidByText := true, laidKinds := [.data, .data, .data], laidTests := true, laidLooks := .later }
def EnvDeepCardSaid : Prop := Claim7.holds Tryd.pinned (.plain (OpenSpec.ofChange envDeepSpec)) envDeepCard

/-- THE TIED CARD OF 'spindlelaw11.EnvAlias'. -/
def envAliasCard : Claim7 := { stood := { row := envAliasRow, standIns := [], harness := (true, "6726dc54aedc560113e999780c79833373ef6d4dba1a8a22ada9ea033df7c5f6"), looks := true }, kinds := [], alts := [], laidByText := true, laidKinds := [.data, .data, .data], laidTests := true, laidLooks := .later }
def EnvAliasCardSaid : Prop := Claim7.holds Tryd.pinned (.plain (OpenSpec.ofChange envAliasSpec)) envAliasCard

/-- THE TIED CARD OF 'spindlelaw11.EnvNil'. -/
def envNilCard : Claim7 := { stood := { row := envNilRow, standIns := [], harness := (true, "6726dc54aedc560113e999780c79833373ef6d4dba1a8a22ada9ea033df7c5f6"), looks := true }, kinds := [], alts := [], laidByText := true, laidKinds := [.data, .data, .data], laidTests := true, laidLooks := .later }
def EnvNilCardSaid : Prop := Claim7.holds Tryd.pinned (.plain (OpenSpec.ofChange envNilSpec)) envNilCard

/-- THE TIED CARD OF 'spindlelaw07.LexNext'. -/
def lexNextCard : Claim7 := { stood := { row := lexNextRow, standIns := [], harness := (true, "6726dc54aedc560113e999780c79833373ef6d4dba1a8a22ada9ea033df7c5f6"), looks := true }, kinds := [], alts := [], laidByText := true, laidKinds := [.handle], laidTests := true, laidLooks := .later }
def LexNextCardSaid : Prop := Claim7.holds Tryd.pinned (.plain (OpenSpec.ofChange lexNextSpec)) lexNextCard

/-- THE TIED CARD OF 'spindlelaw07.LexAll'. -/
def lexAllCard : Claim7 := { stood := { row := lexAllRow, standIns := [], harness := (true, "6726dc54aedc560113e999780c79833373ef6d4dba1a8a22ada9ea033df7c5f6"), looks := true }, kinds := [], alts := [], laidByText := true, laidKinds := [.handle], laidTests := true, laidLooks := .later }
def LexAllCardSaid : Prop := Claim7.holds Tryd.pinned (.plain (OpenSpec.ofChange lexAllSpec)) lexAllCard

/-- THE TIED CARD OF 'spindlelaw07.LexBlanks'. -/
def lexBlanksCard : Claim7 := { stood := { row := lexBlanksRow, standIns := [], harness := (true, "6726dc54aedc560113e999780c79833373ef6d4dba1a8a22ada9ea033df7c5f6"), looks := true }, kinds := [], alts := [], laidByText := true, laidKinds := [.handle], laidTests := true, laidLooks := .later }
def LexBlanksCardSaid : Prop := Claim7.holds Tryd.pinned (.plain (OpenSpec.ofChange lexBlanksSpec)) lexBlanksCard

/-- THE TIED CARD OF 'spindlelaw07.LexRises'. -/
def lexRisesCard : Claim7 := { stood := { row := lexRisesRow, standIns := [], harness := (true, "6726dc54aedc560113e999780c79833373ef6d4dba1a8a22ada9ea033df7c5f6"), looks := true }, kinds := [], alts := [], laidByText := true, laidKinds := [.handle], laidTests := true, laidLooks := .later }
def LexRisesCardSaid : Prop := Claim7.holds Tryd.pinned (.plain (OpenSpec.ofChange lexRisesSpec)) lexRisesCard

/-- THE TIED CARD OF 'spindlelaw07.LexNumbers'. -/
def lexNumbersCard : Claim7 := { stood := { row := lexNumbersRow, standIns := [], harness := (true, "6726dc54aedc560113e999780c79833373ef6d4dba1a8a22ada9ea033df7c5f6"), looks := true }, kinds := [], alts := [], laidByText := true, laidKinds := [.handle], laidTests := true, laidLooks := .later }
def LexNumbersCardSaid : Prop := Claim7.holds Tryd.pinned (.plain (OpenSpec.ofChange lexNumbersSpec)) lexNumbersCard

/-- THE TIED CARD OF 'spindlelaw07.LexStrings'. -/
def lexStringsCard : Claim7 := { stood := { row := lexStringsRow, standIns := [], harness := (true, "6726dc54aedc560113e999780c79833373ef6d4dba1a8a22ada9ea033df7c5f6"), looks := true }, kinds := [], alts := [], laidByText := true, laidKinds := [.handle], laidTests := true, laidLooks := .later }
def LexStringsCardSaid : Prop := Claim7.holds Tryd.pinned (.plain (OpenSpec.ofChange lexStringsSpec)) lexStringsCard

/-- THE TIED CARD OF 'spindlelaw09.ShowTexts'. -/
def showTextsCard : Claim7 := { stood := { row := showTextsRow, standIns := [], harness := (true, "6726dc54aedc560113e999780c79833373ef6d4dba1a8a22ada9ea033df7c5f6"), looks := true }, kinds := [], alts := [], laidByText := true, laidKinds := [.data, .data, .data], laidTests := true, laidLooks := .later }
def ShowTextsCardSaid : Prop := Claim7.holds Tryd.pinned (.plain (OpenSpec.ofChange showTextsSpec)) showTextsCard

/-- THE TIED CARD OF 'spindlelaw09.ShowChars'. -/
def showCharsCard : Claim7 := { stood := { row := showCharsRow, standIns := [], harness := (true, "6726dc54aedc560113e999780c79833373ef6d4dba1a8a22ada9ea033df7c5f6"), looks := true }, kinds := [], alts := [], laidByText := true, laidKinds := [.data, .data, .data], laidTests := true, laidLooks := .later }
def ShowCharsCardSaid : Prop := Claim7.holds Tryd.pinned (.plain (OpenSpec.ofChange showCharsSpec)) showCharsCard

/-- THE TIED CARD OF 'spindlelaw09.ShowLists'. -/
def showListsCard : Claim7 := { stood := { row := showListsRow, standIns := [], harness := (true, "6726dc54aedc560113e999780c79833373ef6d4dba1a8a22ada9ea033df7c5f6"), looks := true }, kinds := [], alts := [], laidByText := true, laidKinds := [.data, .data, .data], laidTests := true, laidLooks := .later }
def ShowListsCardSaid : Prop := Claim7.holds Tryd.pinned (.plain (OpenSpec.ofChange showListsSpec)) showListsCard

/-- THE TIED CARD OF 'spindlelaw08.ReadParts'. -/
def readPartsCard : Claim7 := { stood := { row := readPartsRow, standIns := [], harness := (true, "6726dc54aedc560113e999780c79833373ef6d4dba1a8a22ada9ea033df7c5f6"), looks := true }, kinds := [], alts := [], laidByText := true, laidKinds := [.handle], laidTests := true, laidLooks := .later }
def ReadPartsCardSaid : Prop := Claim7.holds Tryd.pinned (.plain (OpenSpec.ofChange readPartsSpec)) readPartsCard

/-- THE TIED CARD OF 'spindlelaw08.ReadLists'. -/
def readListsCard : Claim7 := { stood := { row := readListsRow, standIns := [], harness := (true, "6726dc54aedc560113e999780c79833373ef6d4dba1a8a22ada9ea033df7c5f6"), looks := true }, kinds := [], alts := [], laidByText := true, laidKinds := [.handle], laidTests := true, laidLooks := .later }
def ReadListsCardSaid : Prop := Claim7.holds Tryd.pinned (.plain (OpenSpec.ofChange readListsSpec)) readListsCard

/-- THE SECOND FORM's CARD OF 'spindlelaw11.EnvDeep'. -/
def envDeepUptoCard : Claim7 := { stood := { row := envDeepUptoRow, standIns := [], harness := (true, "6726dc54aedc560113e999780c79833373ef6d4dba1a8a22ada9ea033df7c5f6"), looks := true }, kinds := [], alts := [], laidByText := true, laidKinds := [.data, .data, .data], laidTests := true, laidLooks := .later }
def EnvDeepUptoCardSaid : Prop := Claim7.holds Tryd.pinned (.plain (OpenSpec.upto envDeepSpec)) envDeepUptoCard

/-- THE SECOND FORM's CARD OF 'spindlelaw11.EnvAlias'. -/
def envAliasUptoCard : Claim7 := { stood := { row := envAliasUptoRow, standIns := [], harness := (true, "6726dc54aedc560113e999780c79833373ef6d4dba1a8a22ada9ea033df7c5f6"), looks := true }, kinds := [], alts := [], laidByText := true, laidKinds := [.data, .data, .data], laidTests := true, laidLooks := .later }
def EnvAliasUptoCardSaid : Prop := Claim7.holds Tryd.pinned (.plain (OpenSpec.upto envAliasSpec)) envAliasUptoCard

/-- THE SECOND FORM's CARD OF 'spindlelaw11.EnvNil'. -/
def envNilUptoCard : Claim7 := { stood := { row := envNilUptoRow, standIns := [], harness := (true, "6726dc54aedc560113e999780c79833373ef6d4dba1a8a22ada9ea033df7c5f6"), looks := true }, kinds := [], alts := [], laidByText := true, laidKinds := [.data, .data, .data], laidTests := true, laidLooks := .later }
def EnvNilUptoCardSaid : Prop := Claim7.holds Tryd.pinned (.plain (OpenSpec.upto envNilSpec)) envNilUptoCard

/-- THE SECOND FORM's CARD OF 'spindlelaw07.LexNext'. -/
def lexNextUptoCard : Claim7 := { stood := { row := lexNextUptoRow, standIns := [], harness := (true, "6726dc54aedc560113e999780c79833373ef6d4dba1a8a22ada9ea033df7c5f6"), looks := true }, kinds := [], alts := [], laidByText := true, laidKinds := [.handle], laidTests := true, laidLooks := .later }
def LexNextUptoCardSaid : Prop := Claim7.holds Tryd.pinned (.plain (OpenSpec.upto lexNextSpec)) lexNextUptoCard

/-- THE SECOND FORM's CARD OF 'spindlelaw07.LexAll'. -/
def lexAllUptoCard : Claim7 := { stood := { row := lexAllUptoRow, standIns := [], harness := (true, "6726dc54aedc560113e999780c79833373ef6d4dba1a8a22ada9ea033df7c5f6"), looks := true }, kinds := [], alts := [], laidByText := true, laidKinds := [.handle], laidTests := true, laidLooks := .later }
def LexAllUptoCardSaid : Prop := Claim7.holds Tryd.pinned (.plain (OpenSpec.upto lexAllSpec)) lexAllUptoCard

/-- THE SECOND FORM's CARD OF 'spindlelaw07.LexBlanks'. -/
def lexBlanksUptoCard : Claim7 := { stood := { row := lexBlanksUptoRow, standIns := [], harness := (true, "6726dc54aedc560113e999780c79833373ef6d4dba1a8a22ada9ea033df7c5f6"), looks := true }, kinds := [], alts := [], laidByText := true, laidKinds := [.handle], laidTests := true, laidLooks := .later }
def LexBlanksUptoCardSaid : Prop := Claim7.holds Tryd.pinned (.plain (OpenSpec.upto lexBlanksSpec)) lexBlanksUptoCard

/-- THE SECOND FORM's CARD OF 'spindlelaw07.LexRises'. -/
def lexRisesUptoCard : Claim7 := { stood := { row := lexRisesUptoRow, standIns := [], harness := (true, "6726dc54aedc560113e999780c79833373ef6d4dba1a8a22ada9ea033df7c5f6"), looks := true }, kinds := [], alts := [], laidByText := true, laidKinds := [.handle], laidTests := true, laidLooks := .later }
def LexRisesUptoCardSaid : Prop := Claim7.holds Tryd.pinned (.plain (OpenSpec.upto lexRisesSpec)) lexRisesUptoCard

/-- THE SECOND FORM's CARD OF 'spindlelaw07.LexNumbers'. -/
def lexNumbersUptoCard : Claim7 := { stood := { row := lexNumbersUptoRow, standIns := [], harness := (true, "6726dc54aedc560113e999780c79833373ef6d4dba1a8a22ada9ea033df7c5f6"), looks := true }, kinds := [], alts := [], laidByText := true, laidKinds := [.handle], laidTests := true, laidLooks := .later }
def LexNumbersUptoCardSaid : Prop := Claim7.holds Tryd.pinned (.plain (OpenSpec.upto lexNumbersSpec)) lexNumbersUptoCard

/-- THE SECOND FORM's CARD OF 'spindlelaw07.LexStrings'. -/
def lexStringsUptoCard : Claim7 := { stood := { row := lexStringsUptoRow, standIns := [], harness := (true, "6726dc54aedc560113e999780c79833373ef6d4dba1a8a22ada9ea033df7c5f6"), looks := true }, kinds := [], alts := [], laidByText := true, laidKinds := [.handle], laidTests := true, laidLooks := .later }
def LexStringsUptoCardSaid : Prop := Claim7.holds Tryd.pinned (.plain (OpenSpec.upto lexStringsSpec)) lexStringsUptoCard

/-- THE SECOND FORM's CARD OF 'spindlelaw09.ShowTexts'. -/
def showTextsUptoCard : Claim7 := { stood := { row := showTextsUptoRow, standIns := [], harness := (true, "6726dc54aedc560113e999780c79833373ef6d4dba1a8a22ada9ea033df7c5f6"), looks := true }, kinds := [], alts := [], laidByText := true, laidKinds := [.data, .data, .data], laidTests := true, laidLooks := .later }
def ShowTextsUptoCardSaid : Prop := Claim7.holds Tryd.pinned (.plain (OpenSpec.upto showTextsSpec)) showTextsUptoCard

/-- THE SECOND FORM's CARD OF 'spindlelaw09.ShowChars'. -/
def showCharsUptoCard : Claim7 := { stood := { row := showCharsUptoRow, standIns := [], harness := (true, "6726dc54aedc560113e999780c79833373ef6d4dba1a8a22ada9ea033df7c5f6"), looks := true }, kinds := [], alts := [], laidByText := true, laidKinds := [.data, .data, .data], laidTests := true, laidLooks := .later }
def ShowCharsUptoCardSaid : Prop := Claim7.holds Tryd.pinned (.plain (OpenSpec.upto showCharsSpec)) showCharsUptoCard

/-- THE SECOND FORM's CARD OF 'spindlelaw09.ShowLists'. -/
def showListsUptoCard : Claim7 := { stood := { row := showListsUptoRow, standIns := [], harness := (true, "6726dc54aedc560113e999780c79833373ef6d4dba1a8a22ada9ea033df7c5f6"), looks := true }, kinds := [], alts := [], laidByText := true, laidKinds := [.data, .data, .data], laidTests := true, laidLooks := .later }
def ShowListsUptoCardSaid : Prop := Claim7.holds Tryd.pinned (.plain (OpenSpec.upto showListsSpec)) showListsUptoCard

/-- THE SECOND FORM's CARD OF 'spindlelaw08.ReadParts'. -/
def readPartsUptoCard : Claim7 := { stood := { row := readPartsUptoRow, standIns := [], harness := (true, "6726dc54aedc560113e999780c79833373ef6d4dba1a8a22ada9ea033df7c5f6"), looks := true }, kinds := [], alts := [], laidByText := true, laidKinds := [.handle], laidTests := true, laidLooks := .later }
def ReadPartsUptoCardSaid : Prop := Claim7.holds Tryd.pinned (.plain (OpenSpec.upto readPartsSpec)) readPartsUptoCard

/-- THE SECOND FORM's CARD OF 'spindlelaw08.ReadLists'. -/
def readListsUptoCard : Claim7 := { stood := { row := readListsUptoRow, standIns := [], harness := (true, "6726dc54aedc560113e999780c79833373ef6d4dba1a8a22ada9ea033df7c5f6"), looks := true }, kinds := [], alts := [], laidByText := true, laidKinds := [.handle], laidTests := true, laidLooks := .later }
def ReadListsUptoCardSaid : Prop := Claim7.holds Tryd.pinned (.plain (OpenSpec.upto readListsSpec)) readListsUptoCard
end Rows
end Go.Proofs.YthighbbikpnpgaaDoor
