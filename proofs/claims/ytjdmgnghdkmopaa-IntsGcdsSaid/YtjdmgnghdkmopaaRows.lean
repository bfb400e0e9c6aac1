/-
  No cell of these rows narrows 'for every input' (looked for: loops, veiled, ifaces, maps, wideKeys, modest, calm, conditions, laid).
  DERIVED. THE GIVEN ROWS OF THIS SEAT. 10 by the template 'for every input the law returns true; each argument reads behind the call as it read before'; 0 by the template 'total and deterministic' (their statements: YtjdmgnghdkmopaaTotals.lean).
  GIVEN WITH THE SEED: the statements are not yours to turn. If you find one false, say at which input.
  Laid BY PROGRAM, IN A SANDBOX (cutbox-rows.mjs): the forced cells as the released guide's own fill.sh prints them over the translation dd0abcf62ff0d1de… (all of the seat's roots in one cut). By AI agents, Wed Nov 11 2026. No macro, syntax, notation, axiom, sorry.
-/
import Derived.Test.YtjdmgnghdkmopaaChecked
import GoSem.Claim
import GoSem.ClaimJoined
import GoSem.ClaimMapViews
import Derived.JoinedTies
import Derived.KernelRfl
namespace Go.Proofs.Ytjdmgnghdkmopaa
/- THE CELL 'sum', in the pinned program and in every row, IS THE sha256 OF THE DUMP (.gsa) THAT YtjdmgnghdkmopaaProg.lean LOADS. Nothing in Lean hashes anything: it is a label: what it is worth is what the hold of that sum in a sandbox is worth. -/
noncomputable def Try.pinned : Pinned := { name := "ytjdmgnghdkmopaa", sum := "dd0abcf62ff0d1de90ecc15c9d46fb04eca1d3561ae1b798eb1c6a884ba69738", checked := Try.checked }
namespace Rows
def none {H : Type} : Left H := { results := [], args := [] }

/-- 'secateurlaw01.IntsDots': WHATEVER THE INPUT: true; the input reads as it did. -/
def intsDotsSpec : ChangeSpec := { name := "intsDots", fn := fun _ => fun
  | [d1, d2] => { results := [.lit (.bool true)], args := [d1, d2] }
  | _ => none }
def intsDotsRow : OpenClaim := { program := "ytjdmgnghdkmopaa", sum := "dd0abcf62ff0d1de90ecc15c9d46fb04eca1d3561ae1b798eb1c6a884ba69738", func := "secateur/secateurlaw01.IntsDots", spec := "intsDots", apart := false }
def IntsDotsSaid : Prop := intsDotsRow.holds Try.pinned (OpenSpec.ofChange intsDotsSpec)

/-- ITS FALSE NEIGHBOUR: 'it returns false'. Refute it at one input. -/
def intsDotsWrong : ChangeSpec := { name := "intsDots", fn := fun _ => fun
  | [d1, d2] => { results := [.lit (.bool false)], args := [d1, d2] }
  | _ => none }
def IntsDotsWrongFalsely : Prop := intsDotsRow.holds Try.pinned (OpenSpec.ofChange intsDotsWrong)

/-- 'secateurlaw01.IntsDivides': WHATEVER THE INPUT: true; the input reads as it did. -/
def intsDividesSpec : ChangeSpec := { name := "intsDivides", fn := fun _ => fun
  | [d1, d2] => { results := [.lit (.bool true)], args := [d1, d2] }
  | _ => none }
def intsDividesRow : OpenClaim := { program := "ytjdmgnghdkmopaa", sum := "dd0abcf62ff0d1de90ecc15c9d46fb04eca1d3561ae1b798eb1c6a884ba69738", func := "secateur/secateurlaw01.IntsDivides", spec := "intsDivides", apart := false }
def IntsDividesSaid : Prop := intsDividesRow.holds Try.pinned (OpenSpec.ofChange intsDividesSpec)

/-- ITS FALSE NEIGHBOUR: 'it returns false'. Refute it at one input. -/
def intsDividesWrong : ChangeSpec := { name := "intsDivides", fn := fun _ => fun
  | [d1, d2] => { results := [.lit (.bool false)], args := [d1, d2] }
  | _ => none }
def IntsDividesWrongFalsely : Prop := intsDividesRow.holds Try.pinned (OpenSpec.ofChange intsDividesWrong)

/-- 'secateurlaw01.IntsRounds': WHATEVER THE INPUT: true; the input reads as it did. -/
def intsRoundsSpec : ChangeSpec := { name := "intsRounds", fn := fun _ => fun
  | [d1, d2] => { results := [.lit (.bool true)], args := [d1, d2] }
  | _ => none }
def intsRoundsRow : OpenClaim := { program := "ytjdmgnghdkmopaa", sum := "dd0abcf62ff0d1de90ecc15c9d46fb04eca1d3561ae1b798eb1c6a884ba69738", func := "secateur/secateurlaw01.IntsRounds", spec := "intsRounds", apart := false }
def IntsRoundsSaid : Prop := intsRoundsRow.holds Try.pinned (OpenSpec.ofChange intsRoundsSpec)

/-- ITS FALSE NEIGHBOUR: 'it returns false'. Refute it at one input. -/
def intsRoundsWrong : ChangeSpec := { name := "intsRounds", fn := fun _ => fun
  | [d1, d2] => { results := [.lit (.bool false)], args := [d1, d2] }
  | _ => none }
def IntsRoundsWrongFalsely : Prop := intsRoundsRow.holds Try.pinned (OpenSpec.ofChange intsRoundsWrong)

/-- 'secateurlaw01.IntsGcds': WHATEVER THE INPUT: true; the input reads as it did. -/
def intsGcdsSpec : ChangeSpec := { name := "intsGcds", fn := fun _ => fun
  | [d1, d2] => { results := [.lit (.bool true)], args := [d1, d2] }
  | _ => none }
def intsGcdsRow : OpenClaim := { program := "ytjdmgnghdkmopaa", sum := "dd0abcf62ff0d1de90ecc15c9d46fb04eca1d3561ae1b798eb1c6a884ba69738", func := "secateur/secateurlaw01.IntsGcds", spec := "intsGcds", apart := false }
def IntsGcdsSaid : Prop := intsGcdsRow.holds Try.pinned (OpenSpec.ofChange intsGcdsSpec)

/-- ITS FALSE NEIGHBOUR: 'it returns false'. Refute it at one input. -/
def intsGcdsWrong : ChangeSpec := { name := "intsGcds", fn := fun _ => fun
  | [d1, d2] => { results := [.lit (.bool false)], args := [d1, d2] }
  | _ => none }
def IntsGcdsWrongFalsely : Prop := intsGcdsRow.holds Try.pinned (OpenSpec.ofChange intsGcdsWrong)

/-- 'secateurlaw01.IntsSums': WHATEVER THE INPUT: true; the input reads as it did. -/
def intsSumsSpec : ChangeSpec := { name := "intsSums", fn := fun _ => fun
  | [d1, d2] => { results := [.lit (.bool true)], args := [d1, d2] }
  | _ => none }
def intsSumsRow : OpenClaim := { program := "ytjdmgnghdkmopaa", sum := "dd0abcf62ff0d1de90ecc15c9d46fb04eca1d3561ae1b798eb1c6a884ba69738", func := "secateur/secateurlaw01.IntsSums", spec := "intsSums", apart := false }
def IntsSumsSaid : Prop := intsSumsRow.holds Try.pinned (OpenSpec.ofChange intsSumsSpec)

/-- ITS FALSE NEIGHBOUR: 'it returns false'. Refute it at one input. -/
def intsSumsWrong : ChangeSpec := { name := "intsSums", fn := fun _ => fun
  | [d1, d2] => { results := [.lit (.bool false)], args := [d1, d2] }
  | _ => none }
def IntsSumsWrongFalsely : Prop := intsSumsRow.holds Try.pinned (OpenSpec.ofChange intsSumsWrong)

/-- 'secateurlaw01.IntsSpread': WHATEVER THE INPUT: true; the input reads as it did. -/
def intsSpreadSpec : ChangeSpec := { name := "intsSpread", fn := fun _ => fun
  | [d1, d2, d3] => { results := [.lit (.bool true)], args := [d1, d2, d3] }
  | _ => none }
def intsSpreadRow : OpenClaim := { program := "ytjdmgnghdkmopaa", sum := "dd0abcf62ff0d1de90ecc15c9d46fb04eca1d3561ae1b798eb1c6a884ba69738", func := "secateur/secateurlaw01.IntsSpread", spec := "intsSpread", apart := false }
def IntsSpreadSaid : Prop := intsSpreadRow.holds Try.pinned (OpenSpec.ofChange intsSpreadSpec)

/-- ITS FALSE NEIGHBOUR: 'it returns false'. Refute it at one input. -/
def intsSpreadWrong : ChangeSpec := { name := "intsSpread", fn := fun _ => fun
  | [d1, d2, d3] => { results := [.lit (.bool false)], args := [d1, d2, d3] }
  | _ => none }
def IntsSpreadWrongFalsely : Prop := intsSpreadRow.holds Try.pinned (OpenSpec.ofChange intsSpreadWrong)

/-- 'secateurlaw01.IntsTurns': WHATEVER THE INPUT: true; the input reads as it did. -/
def intsTurnsSpec : ChangeSpec := { name := "intsTurns", fn := fun _ => fun
  | [d1, d2] => { results := [.lit (.bool true)], args := [d1, d2] }
  | _ => none }
def intsTurnsRow : OpenClaim := { program := "ytjdmgnghdkmopaa", sum := "dd0abcf62ff0d1de90ecc15c9d46fb04eca1d3561ae1b798eb1c6a884ba69738", func := "secateur/secateurlaw01.IntsTurns", spec := "intsTurns", apart := false }
def IntsTurnsSaid : Prop := intsTurnsRow.holds Try.pinned (OpenSpec.ofChange intsTurnsSpec)

/-- ITS FALSE NEIGHBOUR: 'it returns false'. Refute it at one input. -/
def intsTurnsWrong : ChangeSpec := { name := "intsTurns", fn := fun _ => fun
  | [d1, d2] => { results := [.lit (.bool false)], args := [d1, d2] }
  | _ => none }
def IntsTurnsWrongFalsely : Prop := intsTurnsRow.holds Try.pinned (OpenSpec.ofChange intsTurnsWrong)

/-- 'secateurlaw01.IntsReckon': WHATEVER THE INPUT: true; the input reads as it did. -/
def intsReckonSpec : ChangeSpec := { name := "intsReckon", fn := fun _ => fun
  | [d1, d2] => { results := [.lit (.bool true)], args := [d1, d2] }
  | _ => none }
def intsReckonRow : OpenClaim := { program := "ytjdmgnghdkmopaa", sum := "dd0abcf62ff0d1de90ecc15c9d46fb04eca1d3561ae1b798eb1c6a884ba69738", func := "secateur/secateurlaw01.IntsReckon", spec := "intsReckon", apart := false }
def IntsReckonSaid : Prop := intsReckonRow.holds Try.pinned (OpenSpec.ofChange intsReckonSpec)

/-- ITS FALSE NEIGHBOUR: 'it returns false'. Refute it at one input. -/
def intsReckonWrong : ChangeSpec := { name := "intsReckon", fn := fun _ => fun
  | [d1, d2] => { results := [.lit (.bool false)], args := [d1, d2] }
  | _ => none }
def IntsReckonWrongFalsely : Prop := intsReckonRow.holds Try.pinned (OpenSpec.ofChange intsReckonWrong)

/-- 'secateurlaw01.IntsBack': WHATEVER THE INPUT: true; the input reads as it did. -/
def intsBackSpec : ChangeSpec := { name := "intsBack", fn := fun _ => fun
  | [d1, d2] => { results := [.lit (.bool true)], args := [d1, d2] }
  | _ => none }
def intsBackRow : OpenClaim := { program := "ytjdmgnghdkmopaa", sum := "dd0abcf62ff0d1de90ecc15c9d46fb04eca1d3561ae1b798eb1c6a884ba69738", func := "secateur/secateurlaw01.IntsBack", spec := "intsBack", apart := false }
def IntsBackSaid : Prop := intsBackRow.holds Try.pinned (OpenSpec.ofChange intsBackSpec)

/-- ITS FALSE NEIGHBOUR: 'it returns false'. Refute it at one input. -/
def intsBackWrong : ChangeSpec := { name := "intsBack", fn := fun _ => fun
  | [d1, d2] => { results := [.lit (.bool false)], args := [d1, d2] }
  | _ => none }
def IntsBackWrongFalsely : Prop := intsBackRow.holds Try.pinned (OpenSpec.ofChange intsBackWrong)

/-- 'secateurlaw01.IntsEnds': WHATEVER THE INPUT: true; the input reads as it did. -/
def intsEndsSpec : ChangeSpec := { name := "intsEnds", fn := fun _ => fun
  | [d] => { results := [.lit (.bool true)], args := [d] }
  | _ => none }
def intsEndsRow : OpenClaim := { program := "ytjdmgnghdkmopaa", sum := "dd0abcf62ff0d1de90ecc15c9d46fb04eca1d3561ae1b798eb1c6a884ba69738", func := "secateur/secateurlaw01.IntsEnds", spec := "intsEnds", apart := false }
def IntsEndsSaid : Prop := intsEndsRow.holds Try.pinned (OpenSpec.ofChange intsEndsSpec)

/-- ITS FALSE NEIGHBOUR: 'it returns false'. Refute it at one input. -/
def intsEndsWrong : ChangeSpec := { name := "intsEnds", fn := fun _ => fun
  | [d] => { results := [.lit (.bool false)], args := [d] }
  | _ => none }
def IntsEndsWrongFalsely : Prop := intsEndsRow.holds Try.pinned (OpenSpec.ofChange intsEndsWrong)

/- THE SECOND FORM. 'bulk': how many values and letters a reading holds, each counted each time it is reached (what is shared counts as often as it is met; a slice's spare places count too). A statement '..UptoSaid' is the law's where the arguments, and the package variables that the reading takes, are together of bulk at most 1048576: NARROWER than '..Said'. Prove '..Said' where nothing that the law and all that it calls make is longer than what came in: it says more and counts as full. Else prove '..UptoSaid'. A law counts once. -/
mutual
def uptoBulk {H : Type} : DataW H → Nat
  | .lit (.string bytes) => bytes.length + 1
  | .lit _ => 1
  | .nil => 1
  | .ptr d => uptoBulk d + 1
  | .slice elems spare => uptoBulkAll elems + uptoBulkAll spare + 1
  | .agg parts => uptoBulkAll parts + 1
  | .iface _ d => uptoBulk d + 1
  | .map entries => uptoBulkEntries entries + 1
  | .held _ => 1
def uptoBulkAll {H : Type} : List (DataW H) → Nat
  | [] => 0
  | d :: r => uptoBulk d + uptoBulkAll r
def uptoBulkEntries {H : Type} : List (Lit × DataW H) → Nat
  | [] => 0
  | x :: r => uptoBulkEntry x + uptoBulkEntries r
def uptoBulkEntry {H : Type} : Lit × DataW H → Nat
  | (.string bytes, d) => bytes.length + uptoBulk d + 1
  | (_, d) => uptoBulk d + 1
 end
def uptoSmall : (H : Type) → List (DataW H) → Bool := fun _ ds => decide (uptoBulkAll ds ≤ 1048576)
def OpenSpec.upto (s : _root_.Go.ChangeSpec) : _root_.Go.OpenSpec := { _root_.Go.OpenSpec.ofChange s with cond := some uptoSmall }

/-- 'secateurlaw01.IntsDots', WHERE WHAT IT READS IS OF BULK AT MOST 1048576: true; the input reads as it did. -/
def intsDotsUptoRow : OpenClaim := { program := "ytjdmgnghdkmopaa", sum := "dd0abcf62ff0d1de90ecc15c9d46fb04eca1d3561ae1b798eb1c6a884ba69738", func := "secateur/secateurlaw01.IntsDots", spec := "intsDots", apart := false, narrowed := true }
def IntsDotsUptoSaid : Prop := intsDotsUptoRow.holds Try.pinned (OpenSpec.upto intsDotsSpec)

/-- 'secateurlaw01.IntsDivides', WHERE WHAT IT READS IS OF BULK AT MOST 1048576: true; the input reads as it did. -/
def intsDividesUptoRow : OpenClaim := { program := "ytjdmgnghdkmopaa", sum := "dd0abcf62ff0d1de90ecc15c9d46fb04eca1d3561ae1b798eb1c6a884ba69738", func := "secateur/secateurlaw01.IntsDivides", spec := "intsDivides", apart := false, narrowed := true }
def IntsDividesUptoSaid : Prop := intsDividesUptoRow.holds Try.pinned (OpenSpec.upto intsDividesSpec)

/-- 'secateurlaw01.IntsRounds', WHERE WHAT IT READS IS OF BULK AT MOST 1048576: true; the input reads as it did. -/
def intsRoundsUptoRow : OpenClaim := { program := "ytjdmgnghdkmopaa", sum := "dd0abcf62ff0d1de90ecc15c9d46fb04eca1d3561ae1b798eb1c6a884ba69738", func := "secateur/secateurlaw01.IntsRounds", spec := "intsRounds", apart := false, narrowed := true }
def IntsRoundsUptoSaid : Prop := intsRoundsUptoRow.holds Try.pinned (OpenSpec.upto intsRoundsSpec)

/-- 'secateurlaw01.IntsGcds', WHERE WHAT IT READS IS OF BULK AT MOST 1048576: true; the input reads as it did. -/
def intsGcdsUptoRow : OpenClaim := { program := "ytjdmgnghdkmopaa", sum := "dd0abcf62ff0d1de90ecc15c9d46fb04eca1d3561ae1b798eb1c6a884ba69738", func := "secateur/secateurlaw01.IntsGcds", spec := "intsGcds", apart := false, narrowed := true }
def IntsGcdsUptoSaid : Prop := intsGcdsUptoRow.holds Try.pinned (OpenSpec.upto intsGcdsSpec)

/-- 'secateurlaw01.IntsSums', WHERE WHAT IT READS IS OF BULK AT MOST 1048576: true; the input reads as it did. -/
def intsSumsUptoRow : OpenClaim := { program := "ytjdmgnghdkmopaa", sum := "dd0abcf62ff0d1de90ecc15c9d46fb04eca1d3561ae1b798eb1c6a884ba69738", func := "secateur/secateurlaw01.IntsSums", spec := "intsSums", apart := false, narrowed := true }
def IntsSumsUptoSaid : Prop := intsSumsUptoRow.holds Try.pinned (OpenSpec.upto intsSumsSpec)

/-- 'secateurlaw01.IntsSpread', WHERE WHAT IT READS IS OF BULK AT MOST 1048576: true; the input reads as it did. -/
def intsSpreadUptoRow : OpenClaim := { program := "ytjdmgnghdkmopaa", sum := "dd0abcf62ff0d1de90ecc15c9d46fb04eca1d3561ae1b798eb1c6a884ba69738", func := "secateur/secateurlaw01.IntsSpread", spec := "intsSpread", apart := false, narrowed := true }
def IntsSpreadUptoSaid : Prop := intsSpreadUptoRow.holds Try.pinned (OpenSpec.upto intsSpreadSpec)

/-- 'secateurlaw01.IntsTurns', WHERE WHAT IT READS IS OF BULK AT MOST 1048576: true; the input reads as it did. -/
def intsTurnsUptoRow : OpenClaim := { program := "ytjdmgnghdkmopaa", sum := "dd0abcf62ff0d1de90ecc15c9d46fb04eca1d3561ae1b798eb1c6a884ba69738", func := "secateur/secateurlaw01.IntsTurns", spec := "intsTurns", apart := false, narrowed := true }
def IntsTurnsUptoSaid : Prop := intsTurnsUptoRow.holds Try.pinned (OpenSpec.upto intsTurnsSpec)

/-- 'secateurlaw01.IntsReckon', WHERE WHAT IT READS IS OF BULK AT MOST 1048576: true; the input reads as it did. -/
def intsReckonUptoRow : OpenClaim := { program := "ytjdmgnghdkmopaa", sum := "dd0abcf62ff0d1de90ecc15c9d46fb04eca1d3561ae1b798eb1c6a884ba69738", func := "secateur/secateurlaw01.IntsReckon", spec := "intsReckon", apart := false, narrowed := true }
def IntsReckonUptoSaid : Prop := intsReckonUptoRow.holds Try.pinned (OpenSpec.upto intsReckonSpec)

/-- 'secateurlaw01.IntsBack', WHERE WHAT IT READS IS OF BULK AT MOST 1048576: true; the input reads as it did. -/
def intsBackUptoRow : OpenClaim := { program := "ytjdmgnghdkmopaa", sum := "dd0abcf62ff0d1de90ecc15c9d46fb04eca1d3561ae1b798eb1c6a884ba69738", func := "secateur/secateurlaw01.IntsBack", spec := "intsBack", apart := false, narrowed := true }
def IntsBackUptoSaid : Prop := intsBackUptoRow.holds Try.pinned (OpenSpec.upto intsBackSpec)

/-- 'secateurlaw01.IntsEnds', WHERE WHAT IT READS IS OF BULK AT MOST 1048576: true; the input reads as it did. -/
def intsEndsUptoRow : OpenClaim := { program := "ytjdmgnghdkmopaa", sum := "dd0abcf62ff0d1de90ecc15c9d46fb04eca1d3561ae1b798eb1c6a884ba69738", func := "secateur/secateurlaw01.IntsEnds", spec := "intsEnds", apart := false, narrowed := true }
def IntsEndsUptoSaid : Prop := intsEndsUptoRow.holds Try.pinned (OpenSpec.upto intsEndsSpec)

end Rows
end Go.Proofs.Ytjdmgnghdkmopaa
