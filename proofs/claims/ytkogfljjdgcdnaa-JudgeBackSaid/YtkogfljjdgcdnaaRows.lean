/-
  No cell of these rows narrows 'for every input' (looked for: loops, veiled, ifaces, maps, wideKeys, modest, calm, conditions, laid).
  DERIVED. THE GIVEN ROWS OF THIS SEAT. 4 by the template 'for every input the law returns true; each argument reads behind the call as it read before'; 0 by the template 'total and deterministic' (their statements: YtkogfljjdgcdnaaTotals.lean).
  GIVEN WITH THE SEED: the statements are not yours to turn. If you find one false, say at which input.
  Laid BY PROGRAM, IN A SANDBOX (cutbox-rows.mjs): the forced cells as the released guide's own fill.sh prints them over the translation 6280ad7d03ccb090… (all of the seat's roots in one cut). By AI agents, Wed Nov 11 2026. No macro, syntax, notation, axiom, sorry.
-/
import Derived.Test.YtkogfljjdgcdnaaChecked
import GoSem.Claim
import GoSem.ClaimJoined
import GoSem.ClaimMapViews
import Derived.JoinedTies
import Derived.KernelRfl
namespace Go.Proofs.Ytkogfljjdgcdnaa
/- THE CELL 'sum', in the pinned program and in every row, IS THE sha256 OF THE DUMP (.gsa) THAT YtkogfljjdgcdnaaProg.lean LOADS. Nothing in Lean hashes anything: it is a label: what it is worth is what the hold of that sum in a sandbox is worth. -/
noncomputable def Try.pinned : Pinned := { name := "ytkogfljjdgcdnaa", sum := "6280ad7d03ccb090d20c6d4880f207e62f9d4a4a0f228e41dc81318b4e24cd19", checked := Try.checked }
namespace Rows
def none {H : Type} : Left H := { results := [], args := [] }

/-- 'spindlelaw23.JudgeAllows': WHATEVER THE INPUT: true; the input reads as it did. -/
def judgeAllowsSpec : ChangeSpec := { name := "judgeAllows", fn := fun _ => fun
  | [d1, d2, d3] => { results := [.lit (.bool true)], args := [d1, d2, d3] }
  | _ => none }
def judgeAllowsRow : OpenClaim := { program := "ytkogfljjdgcdnaa", sum := "6280ad7d03ccb090d20c6d4880f207e62f9d4a4a0f228e41dc81318b4e24cd19", func := "spindle/spindlelaw23.JudgeAllows", spec := "judgeAllows", inPlace := ["internal/bytealg.IndexByteString", "internal/bytealg.IndexString"], named := ["internal/bytealg.MaxLen"], apart := false }
def JudgeAllowsSaid : Prop := judgeAllowsRow.holds Try.pinned (OpenSpec.ofChange judgeAllowsSpec)

/-- ITS FALSE NEIGHBOUR: 'it returns false'. Refute it at one input. -/
def judgeAllowsWrong : ChangeSpec := { name := "judgeAllows", fn := fun _ => fun
  | [d1, d2, d3] => { results := [.lit (.bool false)], args := [d1, d2, d3] }
  | _ => none }
def JudgeAllowsWrongFalsely : Prop := judgeAllowsRow.holds Try.pinned (OpenSpec.ofChange judgeAllowsWrong)

/-- 'spindlelaw23.JudgeParts': WHATEVER THE INPUT: true; the input reads as it did. -/
def judgePartsSpec : ChangeSpec := { name := "judgeParts", fn := fun _ => fun
  | [d1, d2] => { results := [.lit (.bool true)], args := [d1, d2] }
  | _ => none }
def judgePartsRow : OpenClaim := { program := "ytkogfljjdgcdnaa", sum := "6280ad7d03ccb090d20c6d4880f207e62f9d4a4a0f228e41dc81318b4e24cd19", func := "spindle/spindlelaw23.JudgeParts", spec := "judgeParts", inPlace := ["internal/bytealg.IndexByteString", "internal/bytealg.IndexString"], named := ["internal/bytealg.MaxLen"], apart := false }
def JudgePartsSaid : Prop := judgePartsRow.holds Try.pinned (OpenSpec.ofChange judgePartsSpec)

/-- ITS FALSE NEIGHBOUR: 'it returns false'. Refute it at one input. -/
def judgePartsWrong : ChangeSpec := { name := "judgeParts", fn := fun _ => fun
  | [d1, d2] => { results := [.lit (.bool false)], args := [d1, d2] }
  | _ => none }
def JudgePartsWrongFalsely : Prop := judgePartsRow.holds Try.pinned (OpenSpec.ofChange judgePartsWrong)

/-- 'spindlelaw23.JudgeLines': WHATEVER THE INPUT: true; the input reads as it did. -/
def judgeLinesSpec : ChangeSpec := { name := "judgeLines", fn := fun _ => fun
  | [d] => { results := [.lit (.bool true)], args := [d] }
  | _ => none }
def judgeLinesRow : OpenClaim := { program := "ytkogfljjdgcdnaa", sum := "6280ad7d03ccb090d20c6d4880f207e62f9d4a4a0f228e41dc81318b4e24cd19", func := "spindle/spindlelaw23.JudgeLines", spec := "judgeLines", inPlace := ["internal/bytealg.IndexByteString", "internal/bytealg.IndexString"], named := ["internal/bytealg.MaxLen"], apart := false }
def JudgeLinesSaid : Prop := judgeLinesRow.holds Try.pinned (OpenSpec.ofChange judgeLinesSpec)

/-- ITS FALSE NEIGHBOUR: 'it returns false'. Refute it at one input. -/
def judgeLinesWrong : ChangeSpec := { name := "judgeLines", fn := fun _ => fun
  | [d] => { results := [.lit (.bool false)], args := [d] }
  | _ => none }
def JudgeLinesWrongFalsely : Prop := judgeLinesRow.holds Try.pinned (OpenSpec.ofChange judgeLinesWrong)

/-- 'spindlelaw23.JudgeBack': WHATEVER THE INPUT: true; the input reads as it did. -/
def judgeBackSpec : ChangeSpec := { name := "judgeBack", fn := fun _ => fun
  | [d] => { results := [.lit (.bool true)], args := [d] }
  | _ => none }
def judgeBackRow : OpenClaim := { program := "ytkogfljjdgcdnaa", sum := "6280ad7d03ccb090d20c6d4880f207e62f9d4a4a0f228e41dc81318b4e24cd19", func := "spindle/spindlelaw23.JudgeBack", spec := "judgeBack", inPlace := ["internal/bytealg.IndexByteString", "internal/bytealg.IndexString", "internal/abi.NoEscape"], named := ["internal/bytealg.MaxLen"], apart := false }
def JudgeBackSaid : Prop := judgeBackRow.holds Try.pinned (OpenSpec.ofChange judgeBackSpec)

/-- ITS FALSE NEIGHBOUR: 'it returns false'. Refute it at one input. -/
def judgeBackWrong : ChangeSpec := { name := "judgeBack", fn := fun _ => fun
  | [d] => { results := [.lit (.bool false)], args := [d] }
  | _ => none }
def JudgeBackWrongFalsely : Prop := judgeBackRow.holds Try.pinned (OpenSpec.ofChange judgeBackWrong)

/- THE SECOND FORM. 'bulk': how many values and letters a reading holds, each counted each time it is reached (what is shared counts as often as it is met; a slice's spare places count too). A statement '..UptoSaid' is the law's where the arguments, and the package variables that the reading takes, are together of bulk at most 1048576: NARROWER than '..Said'. Prove '..Said' where nothing that the law and all that it calls make is longer than what came in: it says more and counts as full. Else prove '..UptoSaid'. A law counts once. -/
mutual
def uptoBulk {H : Type} : DataW H → Nat
  | .lit (.string bytes) => bytes.length + 1
  | .lit _ => 1
  | .nil => 1
  | .ptr d => uptoBulk d + 1
  | .slice elems spare => uptoBulkAll elems + uptoBulkAll spare + 1
  | .agg parts => uptoBulkAll parts + 1
  | .iface _ d => uptoBulk d + 1
  | .map entries => uptoBulkEntries entries + 1
  | .held _ => 1
def uptoBulkAll {H : Type} : List (DataW H) → Nat
  | [] => 0
  | d :: r => uptoBulk d + uptoBulkAll r
def uptoBulkEntries {H : Type} : List (Lit × DataW H) → Nat
  | [] => 0
  | x :: r => uptoBulkEntry x + uptoBulkEntries r
def uptoBulkEntry {H : Type} : Lit × DataW H → Nat
  | (.string bytes, d) => bytes.length + uptoBulk d + 1
  | (_, d) => uptoBulk d + 1
 end
def uptoSmall : (H : Type) → List (DataW H) → Bool := fun _ ds => decide (uptoBulkAll ds ≤ 1048576)
def OpenSpec.upto (s : _root_.Go.ChangeSpec) : _root_.Go.OpenSpec := { _root_.Go.OpenSpec.ofChange s with cond := some uptoSmall }

/-- 'spindlelaw23.JudgeAllows', WHERE WHAT IT READS IS OF BULK AT MOST 1048576: true; the input reads as it did. -/
def judgeAllowsUptoRow : OpenClaim := { program := "ytkogfljjdgcdnaa", sum := "6280ad7d03ccb090d20c6d4880f207e62f9d4a4a0f228e41dc81318b4e24cd19", func := "spindle/spindlelaw23.JudgeAllows", spec := "judgeAllows", inPlace := ["internal/bytealg.IndexByteString", "internal/bytealg.IndexString"], named := ["internal/bytealg.MaxLen"], apart := false, narrowed := true }
def JudgeAllowsUptoSaid : Prop := judgeAllowsUptoRow.holds Try.pinned (OpenSpec.upto judgeAllowsSpec)

/-- 'spindlelaw23.JudgeParts', WHERE WHAT IT READS IS OF BULK AT MOST 1048576: true; the input reads as it did. -/
def judgePartsUptoRow : OpenClaim := { program := "ytkogfljjdgcdnaa", sum := "6280ad7d03ccb090d20c6d4880f207e62f9d4a4a0f228e41dc81318b4e24cd19", func := "spindle/spindlelaw23.JudgeParts", spec := "judgeParts", inPlace := ["internal/bytealg.IndexByteString", "internal/bytealg.IndexString"], named := ["internal/bytealg.MaxLen"], apart := false, narrowed := true }
def JudgePartsUptoSaid : Prop := judgePartsUptoRow.holds Try.pinned (OpenSpec.upto judgePartsSpec)

/-- 'spindlelaw23.JudgeLines', WHERE WHAT IT READS IS OF BULK AT MOST 1048576: true; the input reads as it did. -/
def judgeLinesUptoRow : OpenClaim := { program := "ytkogfljjdgcdnaa", sum := "6280ad7d03ccb090d20c6d4880f207e62f9d4a4a0f228e41dc81318b4e24cd19", func := "spindle/spindlelaw23.JudgeLines", spec := "judgeLines", inPlace := ["internal/bytealg.IndexByteString", "internal/bytealg.IndexString"], named := ["internal/bytealg.MaxLen"], apart := false, narrowed := true }
def JudgeLinesUptoSaid : Prop := judgeLinesUptoRow.holds Try.pinned (OpenSpec.upto judgeLinesSpec)

/-- 'spindlelaw23.JudgeBack', WHERE WHAT IT READS IS OF BULK AT MOST 1048576: true; the input reads as it did. -/
def judgeBackUptoRow : OpenClaim := { program := "ytkogfljjdgcdnaa", sum := "6280ad7d03ccb090d20c6d4880f207e62f9d4a4a0f228e41dc81318b4e24cd19", func := "spindle/spindlelaw23.JudgeBack", spec := "judgeBack", inPlace := ["internal/bytealg.IndexByteString", "internal/bytealg.IndexString", "internal/abi.NoEscape"], named := ["internal/bytealg.MaxLen"], apart := false, narrowed := true }
def JudgeBackUptoSaid : Prop := judgeBackUptoRow.holds Try.pinned (OpenSpec.upto judgeBackSpec)

end Rows
end Go.Proofs.Ytkogfljjdgcdnaa
