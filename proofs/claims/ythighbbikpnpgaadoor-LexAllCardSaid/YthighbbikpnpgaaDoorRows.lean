/-
  NARROWER THAN 'FOR EVERY INPUT', by the rows' own cells (each row's printed sentence says how): EnvDeep: laid · EnvAlias: laid · EnvNil: laid · LexNext: laid · LexAll: laid · LexBlanks: laid · LexRises: laid · LexNumbers: laid · LexStrings: laid · ShowTexts: loops, laid · ShowChars: laid · ShowLists: loops, laid · ReadParts: laid · ReadLists: laid.
  DERIVED. THE GIVEN ROWS OF THIS SEAT. 14 by the template 'for every input the law returns true; each argument reads behind the call as it read before'; 0 by the template 'total and deterministic' (their statements: YthighbbikpnpgaaDoorTotals.lean).
  GIVEN WITH THE SEED: the statements are not yours to turn. If you find one false, say at which input.
  Laid BY PROGRAM, IN A SANDBOX (cutbox-rows.mjs): the forced cells as the released guide's own fill.sh prints them over the translation 843ffe84287383f0… (all of the seat's roots in one cut). By AI agents, Wed Nov 11 2026. No macro, syntax, notation, axiom, sorry.
-/
import Derived.Test.YthighbbikpnpgaaDoorChecked
import GoSem.Claim
import GoSem.ClaimJoined
import GoSem.ClaimMapViews
import Derived.JoinedTies
import Derived.KernelRfl
namespace Go.Proofs.YthighbbikpnpgaaDoor
/- THE CELL 'sum', in the pinned program and in every row, IS THE sha256 OF THE DUMP (.gsa) THAT YthighbbikpnpgaaDoorProg.lean LOADS. Nothing in Lean hashes anything: it is a label: what it is worth is what the hold of that sum in a sandbox is worth. -/
noncomputable def Tryd.pinned : Pinned := { name := "ythighbbikpnpgaadoor", sum := "843ffe84287383f0acf8213e1f9baaa01503ff6ed0b9ca95416297994e87cf9d", checked := Tryd.checked }
namespace Rows
def none {H : Type} : Left H := { results := [], args := [] }

/- WHAT THE LISTED PACKAGE-LEVEL VARIABLES READ AS WHEN THE CALL BEGINS. Each datum BY PROGRAM (the guide's laid-datum.mjs) off the statement by which the dump's own 'gosem.cut.vars' lays the variable. In a bare row this is a premise. The card (YthighbbikpnpgaaDoorCards.lean) ties it to the program's text. -/
def laid_math_bits_deBruijn32tab {H : Type} : DataW H := .agg [.lit (.int .u8 0), .lit (.int .u8 1), .lit (.int .u8 28), .lit (.int .u8 2), .lit (.int .u8 29), .lit (.int .u8 14), .lit (.int .u8 24), .lit (.int .u8 3), .lit (.int .u8 30), .lit (.int .u8 22), .lit (.int .u8 20), .lit (.int .u8 15), .lit (.int .u8 25), .lit (.int .u8 17), .lit (.int .u8 4), .lit (.int .u8 8), .lit (.int .u8 31), .lit (.int .u8 27), .lit (.int .u8 13), .lit (.int .u8 23), .lit (.int .u8 21), .lit (.int .u8 19), .lit (.int .u8 16), .lit (.int .u8 7), .lit (.int .u8 26), .lit (.int .u8 12), .lit (.int .u8 18), .lit (.int .u8 6), .lit (.int .u8 11), .lit (.int .u8 5), .lit (.int .u8 10), .lit (.int .u8 9)]
def laid_math_bits_deBruijn64tab {H : Type} : DataW H := .agg [.lit (.int .u8 0), .lit (.int .u8 1), .lit (.int .u8 56), .lit (.int .u8 2), .lit (.int .u8 57), .lit (.int .u8 49), .lit (.int .u8 28), .lit (.int .u8 3), .lit (.int .u8 61), .lit (.int .u8 58), .lit (.int .u8 42), .lit (.int .u8 50), .lit (.int .u8 38), .lit (.int .u8 29), .lit (.int .u8 17), .lit (.int .u8 4), .lit (.int .u8 62), .lit (.int .u8 47), .lit (.int .u8 59), .lit (.int .u8 36), .lit (.int .u8 45), .lit (.int .u8 43), .lit (.int .u8 51), .lit (.int .u8 22), .lit (.int .u8 53), .lit (.int .u8 39), .lit (.int .u8 33), .lit (.int .u8 30), .lit (.int .u8 24), .lit (.int .u8 18), .lit (.int .u8 12), .lit (.int .u8 5), .lit (.int .u8 63), .lit (.int .u8 55), .lit (.int .u8 48), .lit (.int .u8 27), .lit (.int .u8 60), .lit (.int .u8 41), .lit (.int .u8 37), .lit (.int .u8 16), .lit (.int .u8 46), .lit (.int .u8 35), .lit (.int .u8 44), .lit (.int .u8 21), .lit (.int .u8 52), .lit (.int .u8 32), .lit (.int .u8 23), .lit (.int .u8 11), .lit (.int .u8 54), .lit (.int .u8 26), .lit (.int .u8 40), .lit (.int .u8 15), .lit (.int .u8 34), .lit (.int .u8 20), .lit (.int .u8 31), .lit (.int .u8 10), .lit (.int .u8 25), .lit (.int .u8 14), .lit (.int .u8 19), .lit (.int .u8 9), .lit (.int .u8 13), .lit (.int .u8 8), .lit (.int .u8 7), .lit (.int .u8 6)]
def laid_internal_strconv_uint64pow10 {H : Type} : DataW H := .agg [.lit (.int .u64 1), .lit (.int .u64 10), .lit (.int .u64 100), .lit (.int .u64 1000), .lit (.int .u64 10000), .lit (.int .u64 100000), .lit (.int .u64 1000000), .lit (.int .u64 10000000), .lit (.int .u64 100000000), .lit (.int .u64 1000000000), .lit (.int .u64 10000000000), .lit (.int .u64 100000000000), .lit (.int .u64 1000000000000), .lit (.int .u64 10000000000000), .lit (.int .u64 100000000000000), .lit (.int .u64 1000000000000000), .lit (.int .u64 10000000000000000), .lit (.int .u64 100000000000000000), .lit (.int .u64 1000000000000000000), .lit (.int .u64 10000000000000000000)]
def laid_errors_errorType {H : Type} : DataW H := .iface "internal/reflectlite.rtype" (.agg [.ptr (.lit (.string [101, 114, 114, 111, 114]))])

/-- 'spindlelaw11.EnvDeep': WHATEVER THE INPUT: true; the input reads as it did. -/
def envDeepSpec : ChangeSpec := { name := "envDeep", fn := fun _ => fun
  | [d1, d2] => { results := [.lit (.bool true)], args := [d1, d2] }
  | _ => none }
def envDeepRow : OpenClaim := { program := "ythighbbikpnpgaadoor", sum := "843ffe84287383f0acf8213e1f9baaa01503ff6ed0b9ca95416297994e87cf9d", func := "spindle/spindlelaw11.EnvDeep", spec := "envDeep", inPlace := ["internal/reflectlite.TypeOf", "internal/bytealg.IndexByteString"], unfollowed := true, recurses := true, named := ["internal/strconv.uint64pow10", "math/bits.deBruijn32tab", "math/bits.deBruijn64tab"], apart := false, laid := [("math/bits.deBruijn32tab", laid_math_bits_deBruijn32tab), ("math/bits.deBruijn64tab", laid_math_bits_deBruijn64tab), ("internal/strconv.uint64pow10", laid_internal_strconv_uint64pow10)] }
def EnvDeepSaid : Prop := envDeepRow.holds Tryd.pinned (OpenSpec.ofChange envDeepSpec)

/-- ITS FALSE NEIGHBOUR: 'it returns false'. Refute it at one input. -/
def envDeepWrong : ChangeSpec := { name := "envDeep", fn := fun _ => fun
  | [d1, d2] => { results := [.lit (.bool false)], args := [d1, d2] }
  | _ => none }
def EnvDeepWrongFalsely : Prop := envDeepRow.holds Tryd.pinned (OpenSpec.ofChange envDeepWrong)

/-- 'spindlelaw11.EnvAlias': WHATEVER THE INPUT: true; the input reads as it did. -/
def envAliasSpec : ChangeSpec := { name := "envAlias", fn := fun _ => fun
  | [d1, d2, d3] => { results := [.lit (.bool true)], args := [d1, d2, d3] }
  | _ => none }
def envAliasRow : OpenClaim := { program := "ythighbbikpnpgaadoor", sum := "843ffe84287383f0acf8213e1f9baaa01503ff6ed0b9ca95416297994e87cf9d", func := "spindle/spindlelaw11.EnvAlias", spec := "envAlias", inPlace := ["internal/reflectlite.TypeOf", "internal/bytealg.IndexByteString"], unfollowed := true, recurses := true, named := ["internal/strconv.uint64pow10", "math/bits.deBruijn32tab", "math/bits.deBruijn64tab"], apart := false, laid := [("math/bits.deBruijn32tab", laid_math_bits_deBruijn32tab), ("math/bits.deBruijn64tab", laid_math_bits_deBruijn64tab), ("internal/strconv.uint64pow10", laid_internal_strconv_uint64pow10)] }
def EnvAliasSaid : Prop := envAliasRow.holds Tryd.pinned (OpenSpec.ofChange envAliasSpec)

/-- ITS FALSE NEIGHBOUR: 'it returns false'. Refute it at one input. -/
def envAliasWrong : ChangeSpec := { name := "envAlias", fn := fun _ => fun
  | [d1, d2, d3] => { results := [.lit (.bool false)], args := [d1, d2, d3] }
  | _ => none }
def EnvAliasWrongFalsely : Prop := envAliasRow.holds Tryd.pinned (OpenSpec.ofChange envAliasWrong)

/-- 'spindlelaw11.EnvNil': WHATEVER THE INPUT: true; the input reads as it did. -/
def envNilSpec : ChangeSpec := { name := "envNil", fn := fun _ => fun
  | [d] => { results := [.lit (.bool true)], args := [d] }
  | _ => none }
def envNilRow : OpenClaim := { program := "ythighbbikpnpgaadoor", sum := "843ffe84287383f0acf8213e1f9baaa01503ff6ed0b9ca95416297994e87cf9d", func := "spindle/spindlelaw11.EnvNil", spec := "envNil", inPlace := ["internal/reflectlite.TypeOf", "internal/bytealg.IndexByteString"], unfollowed := true, recurses := true, named := ["internal/strconv.uint64pow10", "math/bits.deBruijn32tab", "math/bits.deBruijn64tab"], apart := false, laid := [("math/bits.deBruijn32tab", laid_math_bits_deBruijn32tab), ("math/bits.deBruijn64tab", laid_math_bits_deBruijn64tab), ("internal/strconv.uint64pow10", laid_internal_strconv_uint64pow10)] }
def EnvNilSaid : Prop := envNilRow.holds Tryd.pinned (OpenSpec.ofChange envNilSpec)

/-- ITS FALSE NEIGHBOUR: 'it returns false'. Refute it at one input. -/
def envNilWrong : ChangeSpec := { name := "envNil", fn := fun _ => fun
  | [d] => { results := [.lit (.bool false)], args := [d] }
  | _ => none }
def EnvNilWrongFalsely : Prop := envNilRow.holds Tryd.pinned (OpenSpec.ofChange envNilWrong)

/-- 'spindlelaw07.LexNext': WHATEVER THE INPUT: true; the input reads as it did. -/
def lexNextSpec : ChangeSpec := { name := "lexNext", fn := fun _ => fun
  | [d1, d2, d3, d4] => { results := [.lit (.bool true)], args := [d1, d2, d3, d4] }
  | _ => none }
def lexNextRow : OpenClaim := { program := "ythighbbikpnpgaadoor", sum := "843ffe84287383f0acf8213e1f9baaa01503ff6ed0b9ca95416297994e87cf9d", func := "spindle/spindlelaw07.LexNext", spec := "lexNext", inPlace := ["internal/bytealg.IndexByteString", "internal/abi.NoEscape", "internal/reflectlite.TypeOf", "internal/reflectlite.ValueOf", "(internal/reflectlite.Value).Type", "(internal/reflectlite.Value).IsNil", "(internal/reflectlite.Value).Elem", "(internal/reflectlite.Value).Set"], unfollowed := true, recurses := true, named := ["errors.errorType"], apart := false, laid := [("errors.errorType", laid_errors_errorType)] }
def LexNextSaid : Prop := lexNextRow.holds Tryd.pinned (OpenSpec.ofChange lexNextSpec)

/-- ITS FALSE NEIGHBOUR: 'it returns false'. Refute it at one input. -/
def lexNextWrong : ChangeSpec := { name := "lexNext", fn := fun _ => fun
  | [d1, d2, d3, d4] => { results := [.lit (.bool false)], args := [d1, d2, d3, d4] }
  | _ => none }
def LexNextWrongFalsely : Prop := lexNextRow.holds Tryd.pinned (OpenSpec.ofChange lexNextWrong)

/-- 'spindlelaw07.LexAll': WHATEVER THE INPUT: true; the input reads as it did. -/
def lexAllSpec : ChangeSpec := { name := "lexAll", fn := fun _ => fun
  | [d] => { results := [.lit (.bool true)], args := [d] }
  | _ => none }
def lexAllRow : OpenClaim := { program := "ythighbbikpnpgaadoor", sum := "843ffe84287383f0acf8213e1f9baaa01503ff6ed0b9ca95416297994e87cf9d", func := "spindle/spindlelaw07.LexAll", spec := "lexAll", inPlace := ["internal/bytealg.IndexByteString", "internal/abi.NoEscape", "internal/reflectlite.TypeOf", "internal/reflectlite.ValueOf", "(internal/reflectlite.Value).Type", "(internal/reflectlite.Value).IsNil", "(internal/reflectlite.Value).Elem", "(internal/reflectlite.Value).Set"], unfollowed := true, recurses := true, named := ["errors.errorType"], apart := false, laid := [("errors.errorType", laid_errors_errorType)] }
def LexAllSaid : Prop := lexAllRow.holds Tryd.pinned (OpenSpec.ofChange lexAllSpec)

/-- ITS FALSE NEIGHBOUR: 'it returns false'. Refute it at one input. -/
def lexAllWrong : ChangeSpec := { name := "lexAll", fn := fun _ => fun
  | [d] => { results := [.lit (.bool false)], args := [d] }
  | _ => none }
def LexAllWrongFalsely : Prop := lexAllRow.holds Tryd.pinned (OpenSpec.ofChange lexAllWrong)

/-- 'spindlelaw07.LexBlanks': WHATEVER THE INPUT: true; the input reads as it did. -/
def lexBlanksSpec : ChangeSpec := { name := "lexBlanks", fn := fun _ => fun
  | [d1, d2] => { results := [.lit (.bool true)], args := [d1, d2] }
  | _ => none }
def lexBlanksRow : OpenClaim := { program := "ythighbbikpnpgaadoor", sum := "843ffe84287383f0acf8213e1f9baaa01503ff6ed0b9ca95416297994e87cf9d", func := "spindle/spindlelaw07.LexBlanks", spec := "lexBlanks", inPlace := ["internal/bytealg.IndexByteString", "internal/abi.NoEscape", "internal/reflectlite.TypeOf", "internal/reflectlite.ValueOf", "(internal/reflectlite.Value).Type", "(internal/reflectlite.Value).IsNil", "(internal/reflectlite.Value).Elem", "(internal/reflectlite.Value).Set"], unfollowed := true, recurses := true, named := ["errors.errorType"], apart := false, laid := [("errors.errorType", laid_errors_errorType)] }
def LexBlanksSaid : Prop := lexBlanksRow.holds Tryd.pinned (OpenSpec.ofChange lexBlanksSpec)

/-- ITS FALSE NEIGHBOUR: 'it returns false'. Refute it at one input. -/
def lexBlanksWrong : ChangeSpec := { name := "lexBlanks", fn := fun _ => fun
  | [d1, d2] => { results := [.lit (.bool false)], args := [d1, d2] }
  | _ => none }
def LexBlanksWrongFalsely : Prop := lexBlanksRow.holds Tryd.pinned (OpenSpec.ofChange lexBlanksWrong)

/-- 'spindlelaw07.LexRises': WHATEVER THE INPUT: true; the input reads as it did. -/
def lexRisesSpec : ChangeSpec := { name := "lexRises", fn := fun _ => fun
  | [d] => { results := [.lit (.bool true)], args := [d] }
  | _ => none }
def lexRisesRow : OpenClaim := { program := "ythighbbikpnpgaadoor", sum := "843ffe84287383f0acf8213e1f9baaa01503ff6ed0b9ca95416297994e87cf9d", func := "spindle/spindlelaw07.LexRises", spec := "lexRises", inPlace := ["internal/bytealg.IndexByteString", "internal/abi.NoEscape", "internal/reflectlite.TypeOf", "internal/reflectlite.ValueOf", "(internal/reflectlite.Value).Type", "(internal/reflectlite.Value).IsNil", "(internal/reflectlite.Value).Elem", "(internal/reflectlite.Value).Set"], unfollowed := true, recurses := true, named := ["errors.errorType"], apart := false, laid := [("errors.errorType", laid_errors_errorType)] }
def LexRisesSaid : Prop := lexRisesRow.holds Tryd.pinned (OpenSpec.ofChange lexRisesSpec)

/-- ITS FALSE NEIGHBOUR: 'it returns false'. Refute it at one input. -/
def lexRisesWrong : ChangeSpec := { name := "lexRises", fn := fun _ => fun
  | [d] => { results := [.lit (.bool false)], args := [d] }
  | _ => none }
def LexRisesWrongFalsely : Prop := lexRisesRow.holds Tryd.pinned (OpenSpec.ofChange lexRisesWrong)

/-- 'spindlelaw07.LexNumbers': WHATEVER THE INPUT: true; the input reads as it did. -/
def lexNumbersSpec : ChangeSpec := { name := "lexNumbers", fn := fun _ => fun
  | [d] => { results := [.lit (.bool true)], args := [d] }
  | _ => none }
def lexNumbersRow : OpenClaim := { program := "ythighbbikpnpgaadoor", sum := "843ffe84287383f0acf8213e1f9baaa01503ff6ed0b9ca95416297994e87cf9d", func := "spindle/spindlelaw07.LexNumbers", spec := "lexNumbers", inPlace := ["internal/bytealg.IndexByteString", "internal/abi.NoEscape", "internal/reflectlite.TypeOf", "internal/reflectlite.ValueOf", "(internal/reflectlite.Value).Type", "(internal/reflectlite.Value).IsNil", "(internal/reflectlite.Value).Elem", "(internal/reflectlite.Value).Set"], unfollowed := true, recurses := true, named := ["errors.errorType"], apart := false, laid := [("errors.errorType", laid_errors_errorType)] }
def LexNumbersSaid : Prop := lexNumbersRow.holds Tryd.pinned (OpenSpec.ofChange lexNumbersSpec)

/-- ITS FALSE NEIGHBOUR: 'it returns false'. Refute it at one input. -/
def lexNumbersWrong : ChangeSpec := { name := "lexNumbers", fn := fun _ => fun
  | [d] => { results := [.lit (.bool false)], args := [d] }
  | _ => none }
def LexNumbersWrongFalsely : Prop := lexNumbersRow.holds Tryd.pinned (OpenSpec.ofChange lexNumbersWrong)

/-- 'spindlelaw07.LexStrings': WHATEVER THE INPUT: true; the input reads as it did. -/
def lexStringsSpec : ChangeSpec := { name := "lexStrings", fn := fun _ => fun
  | [d] => { results := [.lit (.bool true)], args := [d] }
  | _ => none }
def lexStringsRow : OpenClaim := { program := "ythighbbikpnpgaadoor", sum := "843ffe84287383f0acf8213e1f9baaa01503ff6ed0b9ca95416297994e87cf9d", func := "spindle/spindlelaw07.LexStrings", spec := "lexStrings", inPlace := ["internal/bytealg.IndexByteString", "internal/abi.NoEscape", "internal/reflectlite.TypeOf", "internal/reflectlite.ValueOf", "(internal/reflectlite.Value).Type", "(internal/reflectlite.Value).IsNil", "(internal/reflectlite.Value).Elem", "(internal/reflectlite.Value).Set"], unfollowed := true, recurses := true, named := ["errors.errorType"], apart := false, laid := [("errors.errorType", laid_errors_errorType)] }
def LexStringsSaid : Prop := lexStringsRow.holds Tryd.pinned (OpenSpec.ofChange lexStringsSpec)

/-- ITS FALSE NEIGHBOUR: 'it returns false'. Refute it at one input. -/
def lexStringsWrong : ChangeSpec := { name := "lexStrings", fn := fun _ => fun
  | [d] => { results := [.lit (.bool false)], args := [d] }
  | _ => none }
def LexStringsWrongFalsely : Prop := lexStringsRow.holds Tryd.pinned (OpenSpec.ofChange lexStringsWrong)

/-- 'spindlelaw09.ShowTexts': WHATEVER THE INPUT: true; the input reads as it did. -/
def showTextsSpec : ChangeSpec := { name := "showTexts", fn := fun _ => fun
  | [d] => { results := [.lit (.bool true)], args := [d] }
  | _ => none }
def showTextsRow : OpenClaim := { program := "ythighbbikpnpgaadoor", sum := "843ffe84287383f0acf8213e1f9baaa01503ff6ed0b9ca95416297994e87cf9d", func := "spindle/spindlelaw09.ShowTexts", spec := "showTexts", inPlace := ["internal/reflectlite.TypeOf", "internal/bytealg.IndexByteString", "internal/abi.NoEscape"], unfollowed := true, recurses := true, named := ["internal/strconv.uint64pow10", "math/bits.deBruijn32tab", "math/bits.deBruijn64tab"], loops := true, apart := false, laid := [("math/bits.deBruijn32tab", laid_math_bits_deBruijn32tab), ("math/bits.deBruijn64tab", laid_math_bits_deBruijn64tab), ("internal/strconv.uint64pow10", laid_internal_strconv_uint64pow10)] }
def ShowTextsSaid : Prop := showTextsRow.holds Tryd.pinned (OpenSpec.ofChange showTextsSpec)

/-- ITS FALSE NEIGHBOUR: 'it returns false'. Refute it at one input. -/
def showTextsWrong : ChangeSpec := { name := "showTexts", fn := fun _ => fun
  | [d] => { results := [.lit (.bool false)], args := [d] }
  | _ => none }
def ShowTextsWrongFalsely : Prop := showTextsRow.holds Tryd.pinned (OpenSpec.ofChange showTextsWrong)

/-- 'spindlelaw09.ShowChars': WHATEVER THE INPUT: true; the input reads as it did. -/
def showCharsSpec : ChangeSpec := { name := "showChars", fn := fun _ => fun
  | [d] => { results := [.lit (.bool true)], args := [d] }
  | _ => none }
def showCharsRow : OpenClaim := { program := "ythighbbikpnpgaadoor", sum := "843ffe84287383f0acf8213e1f9baaa01503ff6ed0b9ca95416297994e87cf9d", func := "spindle/spindlelaw09.ShowChars", spec := "showChars", inPlace := ["internal/reflectlite.TypeOf", "internal/bytealg.IndexByteString", "internal/abi.NoEscape"], unfollowed := true, recurses := true, named := ["internal/strconv.uint64pow10", "math/bits.deBruijn32tab", "math/bits.deBruijn64tab"], apart := false, laid := [("math/bits.deBruijn32tab", laid_math_bits_deBruijn32tab), ("math/bits.deBruijn64tab", laid_math_bits_deBruijn64tab), ("internal/strconv.uint64pow10", laid_internal_strconv_uint64pow10)] }
def ShowCharsSaid : Prop := showCharsRow.holds Tryd.pinned (OpenSpec.ofChange showCharsSpec)

/-- ITS FALSE NEIGHBOUR: 'it returns false'. Refute it at one input. -/
def showCharsWrong : ChangeSpec := { name := "showChars", fn := fun _ => fun
  | [d] => { results := [.lit (.bool false)], args := [d] }
  | _ => none }
def ShowCharsWrongFalsely : Prop := showCharsRow.holds Tryd.pinned (OpenSpec.ofChange showCharsWrong)

/-- 'spindlelaw09.ShowLists': WHATEVER THE INPUT: true; the input reads as it did. -/
def showListsSpec : ChangeSpec := { name := "showLists", fn := fun _ => fun
  | [d] => { results := [.lit (.bool true)], args := [d] }
  | _ => none }
def showListsRow : OpenClaim := { program := "ythighbbikpnpgaadoor", sum := "843ffe84287383f0acf8213e1f9baaa01503ff6ed0b9ca95416297994e87cf9d", func := "spindle/spindlelaw09.ShowLists", spec := "showLists", inPlace := ["internal/reflectlite.TypeOf", "internal/bytealg.IndexByteString", "internal/abi.NoEscape"], unfollowed := true, recurses := true, named := ["internal/strconv.uint64pow10", "math/bits.deBruijn32tab", "math/bits.deBruijn64tab"], loops := true, apart := false, laid := [("math/bits.deBruijn32tab", laid_math_bits_deBruijn32tab), ("math/bits.deBruijn64tab", laid_math_bits_deBruijn64tab), ("internal/strconv.uint64pow10", laid_internal_strconv_uint64pow10)] }
def ShowListsSaid : Prop := showListsRow.holds Tryd.pinned (OpenSpec.ofChange showListsSpec)

/-- ITS FALSE NEIGHBOUR: 'it returns false'. Refute it at one input. -/
def showListsWrong : ChangeSpec := { name := "showLists", fn := fun _ => fun
  | [d] => { results := [.lit (.bool false)], args := [d] }
  | _ => none }
def ShowListsWrongFalsely : Prop := showListsRow.holds Tryd.pinned (OpenSpec.ofChange showListsWrong)

/-- 'spindlelaw08.ReadParts': WHATEVER THE INPUT: true; the input reads as it did. -/
def readPartsSpec : ChangeSpec := { name := "readParts", fn := fun _ => fun
  | [d1, d2] => { results := [.lit (.bool true)], args := [d1, d2] }
  | _ => none }
def readPartsRow : OpenClaim := { program := "ythighbbikpnpgaadoor", sum := "843ffe84287383f0acf8213e1f9baaa01503ff6ed0b9ca95416297994e87cf9d", func := "spindle/spindlelaw08.ReadParts", spec := "readParts", inPlace := ["internal/bytealg.IndexByteString", "internal/abi.NoEscape", "internal/reflectlite.TypeOf", "internal/reflectlite.ValueOf", "(internal/reflectlite.Value).Type", "(internal/reflectlite.Value).IsNil", "(internal/reflectlite.Value).Elem", "(internal/reflectlite.Value).Set"], unfollowed := true, recurses := true, named := ["errors.errorType"], apart := false, laid := [("errors.errorType", laid_errors_errorType)] }
def ReadPartsSaid : Prop := readPartsRow.holds Tryd.pinned (OpenSpec.ofChange readPartsSpec)

/-- ITS FALSE NEIGHBOUR: 'it returns false'. Refute it at one input. -/
def readPartsWrong : ChangeSpec := { name := "readParts", fn := fun _ => fun
  | [d1, d2] => { results := [.lit (.bool false)], args := [d1, d2] }
  | _ => none }
def ReadPartsWrongFalsely : Prop := readPartsRow.holds Tryd.pinned (OpenSpec.ofChange readPartsWrong)

/-- 'spindlelaw08.ReadLists': WHATEVER THE INPUT: true; the input reads as it did. -/
def readListsSpec : ChangeSpec := { name := "readLists", fn := fun _ => fun
  | [d] => { results := [.lit (.bool true)], args := [d] }
  | _ => none }
def readListsRow : OpenClaim := { program := "ythighbbikpnpgaadoor", sum := "843ffe84287383f0acf8213e1f9baaa01503ff6ed0b9ca95416297994e87cf9d", func := "spindle/spindlelaw08.ReadLists", spec := "readLists", inPlace := ["internal/bytealg.IndexByteString", "internal/abi.NoEscape", "internal/reflectlite.TypeOf", "internal/reflectlite.ValueOf", "(internal/reflectlite.Value).Type", "(internal/reflectlite.Value).IsNil", "(internal/reflectlite.Value).Elem", "(internal/reflectlite.Value).Set"], unfollowed := true, recurses := true, named := ["errors.errorType"], apart := false, laid := [("errors.errorType", laid_errors_errorType)] }
def ReadListsSaid : Prop := readListsRow.holds Tryd.pinned (OpenSpec.ofChange readListsSpec)

/-- ITS FALSE NEIGHBOUR: 'it returns false'. Refute it at one input. -/
def readListsWrong : ChangeSpec := { name := "readLists", fn := fun _ => fun
  | [d] => { results := [.lit (.bool false)], args := [d] }
  | _ => none }
def ReadListsWrongFalsely : Prop := readListsRow.holds Tryd.pinned (OpenSpec.ofChange readListsWrong)

/- THE SECOND FORM. 'bulk': how many values and letters a reading holds, each counted each time it is reached (what is shared counts as often as it is met; a slice's spare places count too). A statement '..UptoSaid' is the law's where the arguments, and the package variables that the reading takes, are together of bulk at most 1048576: NARROWER than '..Said'. Prove '..Said' where nothing that the law and all that it calls make is longer than what came in: it says more and counts as full. Else prove '..UptoSaid'. A law counts once. -/
mutual
def uptoBulk {H : Type} : DataW H → Nat
  | .lit (.string bytes) => bytes.length + 1
  | .lit _ => 1
  | .nil => 1
  | .ptr d => uptoBulk d + 1
  | .slice elems spare => uptoBulkAll elems + uptoBulkAll spare + 1
  | .agg parts => uptoBulkAll parts + 1
  | .iface _ d => uptoBulk d + 1
  | .map entries => uptoBulkEntries entries + 1
  | .held _ => 1
def uptoBulkAll {H : Type} : List (DataW H) → Nat
  | [] => 0
  | d :: r => uptoBulk d + uptoBulkAll r
def uptoBulkEntries {H : Type} : List (Lit × DataW H) → Nat
  | [] => 0
  | x :: r => uptoBulkEntry x + uptoBulkEntries r
def uptoBulkEntry {H : Type} : Lit × DataW H → Nat
  | (.string bytes, d) => bytes.length + uptoBulk d + 1
  | (_, d) => uptoBulk d + 1
 end
def uptoSmall : (H : Type) → List (DataW H) → Bool := fun _ ds => decide (uptoBulkAll ds ≤ 1048576)
def OpenSpec.upto (s : _root_.Go.ChangeSpec) : _root_.Go.OpenSpec := { _root_.Go.OpenSpec.ofChange s with cond := some uptoSmall }

/-- 'spindlelaw11.EnvDeep', WHERE WHAT IT READS IS OF BULK AT MOST 1048576: true; the input reads as it did. -/
def envDeepUptoRow : OpenClaim := { program := "ythighbbikpnpgaadoor", sum := "843ffe84287383f0acf8213e1f9baaa01503ff6ed0b9ca95416297994e87cf9d", func := "spindle/spindlelaw11.EnvDeep", spec := "envDeep", inPlace := ["internal/reflectlite.TypeOf", "internal/bytealg.IndexByteString"], unfollowed := true, recurses := true, named := ["internal/strconv.uint64pow10", "math/bits.deBruijn32tab", "math/bits.deBruijn64tab"], apart := false, laid := [("math/bits.deBruijn32tab", laid_math_bits_deBruijn32tab), ("math/bits.deBruijn64tab", laid_math_bits_deBruijn64tab), ("internal/strconv.uint64pow10", laid_internal_strconv_uint64pow10)], narrowed := true }
def EnvDeepUptoSaid : Prop := envDeepUptoRow.holds Tryd.pinned (OpenSpec.upto envDeepSpec)

/-- 'spindlelaw11.EnvAlias', WHERE WHAT IT READS IS OF BULK AT MOST 1048576: true; the input reads as it did. -/
def envAliasUptoRow : OpenClaim := { program := "ythighbbikpnpgaadoor", sum := "843ffe84287383f0acf8213e1f9baaa01503ff6ed0b9ca95416297994e87cf9d", func := "spindle/spindlelaw11.EnvAlias", spec := "envAlias", inPlace := ["internal/reflectlite.TypeOf", "internal/bytealg.IndexByteString"], unfollowed := true, recurses := true, named := ["internal/strconv.uint64pow10", "math/bits.deBruijn32tab", "math/bits.deBruijn64tab"], apart := false, laid := [("math/bits.deBruijn32tab", laid_math_bits_deBruijn32tab), ("math/bits.deBruijn64tab", laid_math_bits_deBruijn64tab), ("internal/strconv.uint64pow10", laid_internal_strconv_uint64pow10)], narrowed := true }
def EnvAliasUptoSaid : Prop := envAliasUptoRow.holds Tryd.pinned (OpenSpec.upto envAliasSpec)

/-- 'spindlelaw11.EnvNil', WHERE WHAT IT READS IS OF BULK AT MOST 1048576: true; the input reads as it did. -/
def envNilUptoRow : OpenClaim := { program := "ythighbbikpnpgaadoor", sum := "843ffe84287383f0acf8213e1f9baaa01503ff6ed0b9ca95416297994e87cf9d", func := "spindle/spindlelaw11.EnvNil", spec := "envNil", inPlace := ["internal/reflectlite.TypeOf", "internal/bytealg.IndexByteString"], unfollowed := true, recurses := true, named := ["internal/strconv.uint64pow10", "math/bits.deBruijn32tab", "math/bits.deBruijn64tab"], apart := false, laid := [("math/bits.deBruijn32tab", laid_math_bits_deBruijn32tab), ("math/bits.deBruijn64tab", laid_math_bits_deBruijn64tab), ("internal/strconv.uint64pow10", laid_internal_strconv_uint64pow10)], narrowed := true }
def EnvNilUptoSaid : Prop := envNilUptoRow.holds Tryd.pinned (OpenSpec.upto envNilSpec)

/-- 'spindlelaw07.LexNext', WHERE WHAT IT READS IS OF BULK AT MOST 1048576: true; the input reads as it did. -/
def lexNextUptoRow : OpenClaim := { program := "ythighbbikpnpgaadoor", sum := "843ffe84287383f0acf8213e1f9baaa01503ff6ed0b9ca95416297994e87cf9d", func := "spindle/spindlelaw07.LexNext", spec := "lexNext", inPlace := ["internal/bytealg.IndexByteString", "internal/abi.NoEscape", "internal/reflectlite.TypeOf", "internal/reflectlite.ValueOf", "(internal/reflectlite.Value).Type", "(internal/reflectlite.Value).IsNil", "(internal/reflectlite.Value).Elem", "(internal/reflectlite.Value).Set"], unfollowed := true, recurses := true, named := ["errors.errorType"], apart := false, laid := [("errors.errorType", laid_errors_errorType)], narrowed := true }
def LexNextUptoSaid : Prop := lexNextUptoRow.holds Tryd.pinned (OpenSpec.upto lexNextSpec)

/-- 'spindlelaw07.LexAll', WHERE WHAT IT READS IS OF BULK AT MOST 1048576: true; the input reads as it did. -/
def lexAllUptoRow : OpenClaim := { program := "ythighbbikpnpgaadoor", sum := "843ffe84287383f0acf8213e1f9baaa01503ff6ed0b9ca95416297994e87cf9d", func := "spindle/spindlelaw07.LexAll", spec := "lexAll", inPlace := ["internal/bytealg.IndexByteString", "internal/abi.NoEscape", "internal/reflectlite.TypeOf", "internal/reflectlite.ValueOf", "(internal/reflectlite.Value).Type", "(internal/reflectlite.Value).IsNil", "(internal/reflectlite.Value).Elem", "(internal/reflectlite.Value).Set"], unfollowed := true, recurses := true, named := ["errors.errorType"], apart := false, laid := [("errors.errorType", laid_errors_errorType)], narrowed := true }
def LexAllUptoSaid : Prop := lexAllUptoRow.holds Tryd.pinned (OpenSpec.upto lexAllSpec)

/-- 'spindlelaw07.LexBlanks', WHERE WHAT IT READS IS OF BULK AT MOST 1048576: true; the input reads as it did. -/
def lexBlanksUptoRow : OpenClaim := { program := "ythighbbikpnpgaadoor", sum := "843ffe84287383f0acf8213e1f9baaa01503ff6ed0b9ca95416297994e87cf9d", func := "spindle/spindlelaw07.LexBlanks", spec := "lexBlanks", inPlace := ["internal/bytealg.IndexByteString", "internal/abi.NoEscape", "internal/reflectlite.TypeOf", "internal/reflectlite.ValueOf", "(internal/reflectlite.Value).Type", "(internal/reflectlite.Value).IsNil", "(internal/reflectlite.Value).Elem", "(internal/reflectlite.Value).Set"], unfollowed := true, recurses := true, named := ["errors.errorType"], apart := false, laid := [("errors.errorType", laid_errors_errorType)], narrowed := true }
def LexBlanksUptoSaid : Prop := lexBlanksUptoRow.holds Tryd.pinned (OpenSpec.upto lexBlanksSpec)

/-- 'spindlelaw07.LexRises', WHERE WHAT IT READS IS OF BULK AT MOST 1048576: true; the input reads as it did. -/
def lexRisesUptoRow : OpenClaim := { program := "ythighbbikpnpgaadoor", sum := "843ffe84287383f0acf8213e1f9baaa01503ff6ed0b9ca95416297994e87cf9d", func := "spindle/spindlelaw07.LexRises", spec := "lexRises", inPlace := ["internal/bytealg.IndexByteString", "internal/abi.NoEscape", "internal/reflectlite.TypeOf", "internal/reflectlite.ValueOf", "(internal/reflectlite.Value).Type", "(internal/reflectlite.Value).IsNil", "(internal/reflectlite.Value).Elem", "(internal/reflectlite.Value).Set"], unfollowed := true, recurses := true, named := ["errors.errorType"], apart := false, laid := [("errors.errorType", laid_errors_errorType)], narrowed := true }
def LexRisesUptoSaid : Prop := lexRisesUptoRow.holds Tryd.pinned (OpenSpec.upto lexRisesSpec)

/-- 'spindlelaw07.LexNumbers', WHERE WHAT IT READS IS OF BULK AT MOST 1048576: true; the input reads as it did. -/
def lexNumbersUptoRow : OpenClaim := { program := "ythighbbikpnpgaadoor", sum := "843ffe84287383f0acf8213e1f9baaa01503ff6ed0b9ca95416297994e87cf9d", func := "spindle/spindlelaw07.LexNumbers", spec := "lexNumbers", inPlace := ["internal/bytealg.IndexByteString", "internal/abi.NoEscape", "internal/reflectlite.TypeOf", "internal/reflectlite.ValueOf", "(internal/reflectlite.Value).Type", "(internal/reflectlite.Value).IsNil", "(internal/reflectlite.Value).Elem", "(internal/reflectlite.Value).Set"], unfollowed := true, recurses := true, named := ["errors.errorType"], apart := false, laid := [("errors.errorType", laid_errors_errorType)], narrowed := true }
def LexNumbersUptoSaid : Prop := lexNumbersUptoRow.holds Tryd.pinned (OpenSpec.upto lexNumbersSpec)

/-- 'spindlelaw07.LexStrings', WHERE WHAT IT READS IS OF BULK AT MOST 1048576: true; the input reads as it did. -/
def lexStringsUptoRow : OpenClaim := { program := "ythighbbikpnpgaadoor", sum := "843ffe84287383f0acf8213e1f9baaa01503ff6ed0b9ca95416297994e87cf9d", func := "spindle/spindlelaw07.LexStrings", spec := "lexStrings", inPlace := ["internal/bytealg.IndexByteString", "internal/abi.NoEscape", "internal/reflectlite.TypeOf", "internal/reflectlite.ValueOf", "(internal/reflectlite.Value).Type", "(internal/reflectlite.Value).IsNil", "(internal/reflectlite.Value).Elem", "(internal/reflectlite.Value).Set"], unfollowed := true, recurses := true, named := ["errors.errorType"], apart := false, laid := [("errors.errorType", laid_errors_errorType)], narrowed := true }
def LexStringsUptoSaid : Prop := lexStringsUptoRow.holds Tryd.pinned (OpenSpec.upto lexStringsSpec)

/-- 'spindlelaw09.ShowTexts', WHERE WHAT IT READS IS OF BULK AT MOST 1048576: true; the input reads as it did. -/
def showTextsUptoRow : OpenClaim := { program := "ythighbbikpnpgaadoor", sum := "843ffe84287383f0acf8213e1f9baaa01503ff6ed0b9ca95416297994e87cf9d", func := "spindle/spindlelaw09.ShowTexts", spec := "showTexts", inPlace := ["internal/reflectlite.TypeOf", "internal/bytealg.IndexByteString", "internal/abi.NoEscape"], unfollowed := true, recurses := true, named := ["internal/strconv.uint64pow10", "math/bits.deBruijn32tab", "math/bits.deBruijn64tab"], loops := true, apart := false, laid := [("math/bits.deBruijn32tab", laid_math_bits_deBruijn32tab), ("math/bits.deBruijn64tab", laid_math_bits_deBruijn64tab), ("internal/strconv.uint64pow10", laid_internal_strconv_uint64pow10)], narrowed := true }
def ShowTextsUptoSaid : Prop := showTextsUptoRow.holds Tryd.pinned (OpenSpec.upto showTextsSpec)

/-- 'spindlelaw09.ShowChars', WHERE WHAT IT READS IS OF BULK AT MOST 1048576: true; the input reads as it did. -/
def showCharsUptoRow : OpenClaim := { program := "ythighbbikpnpgaadoor", sum := "843ffe84287383f0acf8213e1f9baaa01503ff6ed0b9ca95416297994e87cf9d", func := "spindle/spindlelaw09.ShowChars", spec := "showChars", inPlace := ["internal/reflectlite.TypeOf", "internal/bytealg.IndexByteString", "internal/abi.NoEscape"], unfollowed := true, recurses := true, named := ["internal/strconv.uint64pow10", "math/bits.deBruijn32tab", "math/bits.deBruijn64tab"], apart := false, laid := [("math/bits.deBruijn32tab", laid_math_bits_deBruijn32tab), ("math/bits.deBruijn64tab", laid_math_bits_deBruijn64tab), ("internal/strconv.uint64pow10", laid_internal_strconv_uint64pow10)], narrowed := true }
def ShowCharsUptoSaid : Prop := showCharsUptoRow.holds Tryd.pinned (OpenSpec.upto showCharsSpec)

/-- 'spindlelaw09.ShowLists', WHERE WHAT IT READS IS OF BULK AT MOST 1048576: true; the input reads as it did. -/
def showListsUptoRow : OpenClaim := { program := "ythighbbikpnpgaadoor", sum := "843ffe84287383f0acf8213e1f9baaa01503ff6ed0b9ca95416297994e87cf9d", func := "spindle/spindlelaw09.ShowLists", spec := "showLists", inPlace := ["internal/reflectlite.TypeOf", "internal/bytealg.IndexByteString", "internal/abi.NoEscape"], unfollowed := true, recurses := true, named := ["internal/strconv.uint64pow10", "math/bits.deBruijn32tab", "math/bits.deBruijn64tab"], loops := true, apart := false, laid := [("math/bits.deBruijn32tab", laid_math_bits_deBruijn32tab), ("math/bits.deBruijn64tab", laid_math_bits_deBruijn64tab), ("internal/strconv.uint64pow10", laid_internal_strconv_uint64pow10)], narrowed := true }
def ShowListsUptoSaid : Prop := showListsUptoRow.holds Tryd.pinned (OpenSpec.upto showListsSpec)

/-- 'spindlelaw08.ReadParts', WHERE WHAT IT READS IS OF BULK AT MOST 1048576: true; the input reads as it did. -/
def readPartsUptoRow : OpenClaim := { program := "ythighbbikpnpgaadoor", sum := "843ffe84287383f0acf8213e1f9baaa01503ff6ed0b9ca95416297994e87cf9d", func := "spindle/spindlelaw08.ReadParts", spec := "readParts", inPlace := ["internal/bytealg.IndexByteString", "internal/abi.NoEscape", "internal/reflectlite.TypeOf", "internal/reflectlite.ValueOf", "(internal/reflectlite.Value).Type", "(internal/reflectlite.Value).IsNil", "(internal/reflectlite.Value).Elem", "(internal/reflectlite.Value).Set"], unfollowed := true, recurses := true, named := ["errors.errorType"], apart := false, laid := [("errors.errorType", laid_errors_errorType)], narrowed := true }
def ReadPartsUptoSaid : Prop := readPartsUptoRow.holds Tryd.pinned (OpenSpec.upto readPartsSpec)

/-- 'spindlelaw08.ReadLists', WHERE WHAT IT READS IS OF BULK AT MOST 1048576: true; the input reads as it did. -/
def readListsUptoRow : OpenClaim := { program := "ythighbbikpnpgaadoor", sum := "843ffe84287383f0acf8213e1f9baaa01503ff6ed0b9ca95416297994e87cf9d", func := "spindle/spindlelaw08.ReadLists", spec := "readLists", inPlace := ["internal/bytealg.IndexByteString", "internal/abi.NoEscape", "internal/reflectlite.TypeOf", "internal/reflectlite.ValueOf", "(internal/reflectlite.Value).Type", "(internal/reflectlite.Value).IsNil", "(internal/reflectlite.Value).Elem", "(internal/reflectlite.Value).Set"], unfollowed := true, recurses := true, named := ["errors.errorType"], apart := false, laid := [("errors.errorType", laid_errors_errorType)], narrowed := true }
def ReadListsUptoSaid : Prop := readListsUptoRow.holds Tryd.pinned (OpenSpec.upto readListsSpec)

end Rows
end Go.Proofs.YthighbbikpnpgaaDoor
