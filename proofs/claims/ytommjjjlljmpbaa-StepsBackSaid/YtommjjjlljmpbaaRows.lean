/-
  No cell of these rows narrows 'for every input' (looked for: loops, veiled, ifaces, maps, wideKeys, modest, calm, conditions, laid).
  DERIVED. THE GIVEN ROWS OF THIS SEAT. 7 by the template 'for every input the law returns true; each argument reads behind the call as it read before'; 0 by the template 'total and deterministic' (their statements: YtommjjjlljmpbaaTotals.lean).
  GIVEN WITH THE SEED: the statements are not yours to turn. If you find one false, say at which input.
  Laid BY PROGRAM, IN A SANDBOX (cutbox-rows.mjs): the forced cells as the released guide's own fill.sh prints them over the translation 01cda470da7bfa58… (all of the seat's roots in one cut). By AI agents, Wed Nov 11 2026. No macro, syntax, notation, axiom, sorry.
-/
import Derived.Test.YtommjjjlljmpbaaChecked
import GoSem.Claim
import GoSem.ClaimJoined
import GoSem.ClaimMapViews
import Derived.JoinedTies
import Derived.KernelRfl
namespace Go.Proofs.Ytommjjjlljmpbaa
/- THE CELL 'sum', in the pinned program and in every row, IS THE sha256 OF THE DUMP (.gsa) THAT YtommjjjlljmpbaaProg.lean LOADS. Nothing in Lean hashes anything: it is a label: what it is worth is what the hold of that sum in a sandbox is worth. -/
noncomputable def Try.pinned : Pinned := { name := "ytommjjjlljmpbaa", sum := "01cda470da7bfa58907369ff69c45bf3b9a15fe5932c0fb61487a4ee3dee304b", checked := Try.checked }
namespace Rows
def none {H : Type} : Left H := { results := [], args := [] }

/-- 'secateurlaw15.StepsChecks': WHATEVER THE INPUT: true; the input reads as it did. -/
def stepsChecksSpec : ChangeSpec := { name := "stepsChecks", fn := fun _ => fun
  | [d1, d2, d3] => { results := [.lit (.bool true)], args := [d1, d2, d3] }
  | _ => none }
def stepsChecksRow : OpenClaim := { program := "ytommjjjlljmpbaa", sum := "01cda470da7bfa58907369ff69c45bf3b9a15fe5932c0fb61487a4ee3dee304b", func := "secateur/secateurlaw15.StepsChecks", spec := "stepsChecks", inPlace := ["slices.overlaps[int]"], unfollowed := true, recurses := true, apart := false }
def StepsChecksSaid : Prop := stepsChecksRow.holds Try.pinned (OpenSpec.ofChange stepsChecksSpec)

/-- ITS FALSE NEIGHBOUR: 'it returns false'. Refute it at one input. -/
def stepsChecksWrong : ChangeSpec := { name := "stepsChecks", fn := fun _ => fun
  | [d1, d2, d3] => { results := [.lit (.bool false)], args := [d1, d2, d3] }
  | _ => none }
def StepsChecksWrongFalsely : Prop := stepsChecksRow.holds Try.pinned (OpenSpec.ofChange stepsChecksWrong)

/-- 'secateurlaw15.StepsLines': WHATEVER THE INPUT: true; the input reads as it did. -/
def stepsLinesSpec : ChangeSpec := { name := "stepsLines", fn := fun _ => fun
  | [d1, d2, d3] => { results := [.lit (.bool true)], args := [d1, d2, d3] }
  | _ => none }
def stepsLinesRow : OpenClaim := { program := "ytommjjjlljmpbaa", sum := "01cda470da7bfa58907369ff69c45bf3b9a15fe5932c0fb61487a4ee3dee304b", func := "secateur/secateurlaw15.StepsLines", spec := "stepsLines", inPlace := ["slices.overlaps[int]"], unfollowed := true, recurses := true, apart := false }
def StepsLinesSaid : Prop := stepsLinesRow.holds Try.pinned (OpenSpec.ofChange stepsLinesSpec)

/-- ITS FALSE NEIGHBOUR: 'it returns false'. Refute it at one input. -/
def stepsLinesWrong : ChangeSpec := { name := "stepsLines", fn := fun _ => fun
  | [d1, d2, d3] => { results := [.lit (.bool false)], args := [d1, d2, d3] }
  | _ => none }
def StepsLinesWrongFalsely : Prop := stepsLinesRow.holds Try.pinned (OpenSpec.ofChange stepsLinesWrong)

/-- 'secateurlaw15.StepsBack': WHATEVER THE INPUT: true; the input reads as it did. -/
def stepsBackSpec : ChangeSpec := { name := "stepsBack", fn := fun _ => fun
  | [d1, d2, d3] => { results := [.lit (.bool true)], args := [d1, d2, d3] }
  | _ => none }
def stepsBackRow : OpenClaim := { program := "ytommjjjlljmpbaa", sum := "01cda470da7bfa58907369ff69c45bf3b9a15fe5932c0fb61487a4ee3dee304b", func := "secateur/secateurlaw15.StepsBack", spec := "stepsBack", inPlace := ["slices.overlaps[int]"], unfollowed := true, recurses := true, apart := false }
def StepsBackSaid : Prop := stepsBackRow.holds Try.pinned (OpenSpec.ofChange stepsBackSpec)

/-- ITS FALSE NEIGHBOUR: 'it returns false'. Refute it at one input. -/
def stepsBackWrong : ChangeSpec := { name := "stepsBack", fn := fun _ => fun
  | [d1, d2, d3] => { results := [.lit (.bool false)], args := [d1, d2, d3] }
  | _ => none }
def StepsBackWrongFalsely : Prop := stepsBackRow.holds Try.pinned (OpenSpec.ofChange stepsBackWrong)

/-- 'secateurlaw15.StepsReplay': WHATEVER THE INPUT: true; the input reads as it did. -/
def stepsReplaySpec : ChangeSpec := { name := "stepsReplay", fn := fun _ => fun
  | [d1, d2] => { results := [.lit (.bool true)], args := [d1, d2] }
  | _ => none }
def stepsReplayRow : OpenClaim := { program := "ytommjjjlljmpbaa", sum := "01cda470da7bfa58907369ff69c45bf3b9a15fe5932c0fb61487a4ee3dee304b", func := "secateur/secateurlaw15.StepsReplay", spec := "stepsReplay", inPlace := ["slices.overlaps[int]"], unfollowed := true, recurses := true, apart := false }
def StepsReplaySaid : Prop := stepsReplayRow.holds Try.pinned (OpenSpec.ofChange stepsReplaySpec)

/-- ITS FALSE NEIGHBOUR: 'it returns false'. Refute it at one input. -/
def stepsReplayWrong : ChangeSpec := { name := "stepsReplay", fn := fun _ => fun
  | [d1, d2] => { results := [.lit (.bool false)], args := [d1, d2] }
  | _ => none }
def StepsReplayWrongFalsely : Prop := stepsReplayRow.holds Try.pinned (OpenSpec.ofChange stepsReplayWrong)

/-- 'secateurlaw15.StepsWhole': WHATEVER THE INPUT: true; the input reads as it did. -/
def stepsWholeSpec : ChangeSpec := { name := "stepsWhole", fn := fun _ => fun
  | [d1, d2] => { results := [.lit (.bool true)], args := [d1, d2] }
  | _ => none }
def stepsWholeRow : OpenClaim := { program := "ytommjjjlljmpbaa", sum := "01cda470da7bfa58907369ff69c45bf3b9a15fe5932c0fb61487a4ee3dee304b", func := "secateur/secateurlaw15.StepsWhole", spec := "stepsWhole", inPlace := ["slices.overlaps[int]"], unfollowed := true, recurses := true, apart := false }
def StepsWholeSaid : Prop := stepsWholeRow.holds Try.pinned (OpenSpec.ofChange stepsWholeSpec)

/-- ITS FALSE NEIGHBOUR: 'it returns false'. Refute it at one input. -/
def stepsWholeWrong : ChangeSpec := { name := "stepsWhole", fn := fun _ => fun
  | [d1, d2] => { results := [.lit (.bool false)], args := [d1, d2] }
  | _ => none }
def StepsWholeWrongFalsely : Prop := stepsWholeRow.holds Try.pinned (OpenSpec.ofChange stepsWholeWrong)

/-- 'secateurlaw15.StepsParts': WHATEVER THE INPUT: true; the input reads as it did. -/
def stepsPartsSpec : ChangeSpec := { name := "stepsParts", fn := fun _ => fun
  | [d1, d2, d3] => { results := [.lit (.bool true)], args := [d1, d2, d3] }
  | _ => none }
def stepsPartsRow : OpenClaim := { program := "ytommjjjlljmpbaa", sum := "01cda470da7bfa58907369ff69c45bf3b9a15fe5932c0fb61487a4ee3dee304b", func := "secateur/secateurlaw15.StepsParts", spec := "stepsParts", inPlace := ["slices.overlaps[int]"], unfollowed := true, recurses := true, apart := false }
def StepsPartsSaid : Prop := stepsPartsRow.holds Try.pinned (OpenSpec.ofChange stepsPartsSpec)

/-- ITS FALSE NEIGHBOUR: 'it returns false'. Refute it at one input. -/
def stepsPartsWrong : ChangeSpec := { name := "stepsParts", fn := fun _ => fun
  | [d1, d2, d3] => { results := [.lit (.bool false)], args := [d1, d2, d3] }
  | _ => none }
def StepsPartsWrongFalsely : Prop := stepsPartsRow.holds Try.pinned (OpenSpec.ofChange stepsPartsWrong)

/-- 'secateurlaw15.StepsFixes': WHATEVER THE INPUT: true; the input reads as it did. -/
def stepsFixesSpec : ChangeSpec := { name := "stepsFixes", fn := fun _ => fun
  | [d1, d2] => { results := [.lit (.bool true)], args := [d1, d2] }
  | _ => none }
def stepsFixesRow : OpenClaim := { program := "ytommjjjlljmpbaa", sum := "01cda470da7bfa58907369ff69c45bf3b9a15fe5932c0fb61487a4ee3dee304b", func := "secateur/secateurlaw15.StepsFixes", spec := "stepsFixes", inPlace := ["slices.overlaps[int]"], unfollowed := true, recurses := true, apart := false }
def StepsFixesSaid : Prop := stepsFixesRow.holds Try.pinned (OpenSpec.ofChange stepsFixesSpec)

/-- ITS FALSE NEIGHBOUR: 'it returns false'. Refute it at one input. -/
def stepsFixesWrong : ChangeSpec := { name := "stepsFixes", fn := fun _ => fun
  | [d1, d2] => { results := [.lit (.bool false)], args := [d1, d2] }
  | _ => none }
def StepsFixesWrongFalsely : Prop := stepsFixesRow.holds Try.pinned (OpenSpec.ofChange stepsFixesWrong)

/- THE SECOND FORM. 'bulk': how many values and letters a reading holds, each counted each time it is reached (what is shared counts as often as it is met; a slice's spare places count too). A statement '..UptoSaid' is the law's where the arguments, and the package variables that the reading takes, are together of bulk at most 1048576: NARROWER than '..Said'. Prove '..Said' where nothing that the law and all that it calls make is longer than what came in: it says more and counts as full. Else prove '..UptoSaid'. A law counts once. -/
mutual
def uptoBulk {H : Type} : DataW H → Nat
  | .lit (.string bytes) => bytes.length + 1
  | .lit _ => 1
  | .nil => 1
  | .ptr d => uptoBulk d + 1
  | .slice elems spare => uptoBulkAll elems + uptoBulkAll spare + 1
  | .agg parts => uptoBulkAll parts + 1
  | .iface _ d => uptoBulk d + 1
  | .map entries => uptoBulkEntries entries + 1
  | .held _ => 1
def uptoBulkAll {H : Type} : List (DataW H) → Nat
  | [] => 0
  | d :: r => uptoBulk d + uptoBulkAll r
def uptoBulkEntries {H : Type} : List (Lit × DataW H) → Nat
  | [] => 0
  | x :: r => uptoBulkEntry x + uptoBulkEntries r
def uptoBulkEntry {H : Type} : Lit × DataW H → Nat
  | (.string bytes, d) => bytes.length + uptoBulk d + 1
  | (_, d) => uptoBulk d + 1
 end
def uptoSmall : (H : Type) → List (DataW H) → Bool := fun _ ds => decide (uptoBulkAll ds ≤ 1048576)
def OpenSpec.upto (s : _root_.Go.ChangeSpec) : _root_.Go.OpenSpec := { _root_.Go.OpenSpec.ofChange s with cond := some uptoSmall }

/-- 'secateurlaw15.StepsChecks', WHERE WHAT IT READS IS OF BULK AT MOST 1048576: true; the input reads as it did. -/
def stepsChecksUptoRow : OpenClaim := { program := "ytommjjjlljmpbaa", sum := "01cda470da7bfa58907369ff69c45bf3b9a15fe5932c0fb61487a4ee3dee304b", func := "secateur/secateurlaw15.StepsChecks", spec := "stepsChecks", inPlace := ["slices.overlaps[int]"], unfollowed := true, recurses := true, apart := false, narrowed := true }
def StepsChecksUptoSaid : Prop := stepsChecksUptoRow.holds Try.pinned (OpenSpec.upto stepsChecksSpec)

/-- 'secateurlaw15.StepsLines', WHERE WHAT IT READS IS OF BULK AT MOST 1048576: true; the input reads as it did. -/
def stepsLinesUptoRow : OpenClaim := { program := "ytommjjjlljmpbaa", sum := "01cda470da7bfa58907369ff69c45bf3b9a15fe5932c0fb61487a4ee3dee304b", func := "secateur/secateurlaw15.StepsLines", spec := "stepsLines", inPlace := ["slices.overlaps[int]"], unfollowed := true, recurses := true, apart := false, narrowed := true }
def StepsLinesUptoSaid : Prop := stepsLinesUptoRow.holds Try.pinned (OpenSpec.upto stepsLinesSpec)

/-- 'secateurlaw15.StepsBack', WHERE WHAT IT READS IS OF BULK AT MOST 1048576: true; the input reads as it did. -/
def stepsBackUptoRow : OpenClaim := { program := "ytommjjjlljmpbaa", sum := "01cda470da7bfa58907369ff69c45bf3b9a15fe5932c0fb61487a4ee3dee304b", func := "secateur/secateurlaw15.StepsBack", spec := "stepsBack", inPlace := ["slices.overlaps[int]"], unfollowed := true, recurses := true, apart := false, narrowed := true }
def StepsBackUptoSaid : Prop := stepsBackUptoRow.holds Try.pinned (OpenSpec.upto stepsBackSpec)

/-- 'secateurlaw15.StepsReplay', WHERE WHAT IT READS IS OF BULK AT MOST 1048576: true; the input reads as it did. -/
def stepsReplayUptoRow : OpenClaim := { program := "ytommjjjlljmpbaa", sum := "01cda470da7bfa58907369ff69c45bf3b9a15fe5932c0fb61487a4ee3dee304b", func := "secateur/secateurlaw15.StepsReplay", spec := "stepsReplay", inPlace := ["slices.overlaps[int]"], unfollowed := true, recurses := true, apart := false, narrowed := true }
def StepsReplayUptoSaid : Prop := stepsReplayUptoRow.holds Try.pinned (OpenSpec.upto stepsReplaySpec)

/-- 'secateurlaw15.StepsWhole', WHERE WHAT IT READS IS OF BULK AT MOST 1048576: true; the input reads as it did. -/
def stepsWholeUptoRow : OpenClaim := { program := "ytommjjjlljmpbaa", sum := "01cda470da7bfa58907369ff69c45bf3b9a15fe5932c0fb61487a4ee3dee304b", func := "secateur/secateurlaw15.StepsWhole", spec := "stepsWhole", inPlace := ["slices.overlaps[int]"], unfollowed := true, recurses := true, apart := false, narrowed := true }
def StepsWholeUptoSaid : Prop := stepsWholeUptoRow.holds Try.pinned (OpenSpec.upto stepsWholeSpec)

/-- 'secateurlaw15.StepsParts', WHERE WHAT IT READS IS OF BULK AT MOST 1048576: true; the input reads as it did. -/
def stepsPartsUptoRow : OpenClaim := { program := "ytommjjjlljmpbaa", sum := "01cda470da7bfa58907369ff69c45bf3b9a15fe5932c0fb61487a4ee3dee304b", func := "secateur/secateurlaw15.StepsParts", spec := "stepsParts", inPlace := ["slices.overlaps[int]"], unfollowed := true, recurses := true, apart := false, narrowed := true }
def StepsPartsUptoSaid : Prop := stepsPartsUptoRow.holds Try.pinned (OpenSpec.upto stepsPartsSpec)

/-- 'secateurlaw15.StepsFixes', WHERE WHAT IT READS IS OF BULK AT MOST 1048576: true; the input reads as it did. -/
def stepsFixesUptoRow : OpenClaim := { program := "ytommjjjlljmpbaa", sum := "01cda470da7bfa58907369ff69c45bf3b9a15fe5932c0fb61487a4ee3dee304b", func := "secateur/secateurlaw15.StepsFixes", spec := "stepsFixes", inPlace := ["slices.overlaps[int]"], unfollowed := true, recurses := true, apart := false, narrowed := true }
def StepsFixesUptoSaid : Prop := stepsFixesUptoRow.holds Try.pinned (OpenSpec.upto stepsFixesSpec)

end Rows
end Go.Proofs.Ytommjjjlljmpbaa
