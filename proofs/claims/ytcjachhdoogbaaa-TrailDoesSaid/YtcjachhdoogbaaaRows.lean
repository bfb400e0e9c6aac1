/-
  No cell of these rows narrows 'for every input' (looked for: loops, veiled, ifaces, maps, wideKeys, modest, calm, conditions, laid).
  DERIVED. THE GIVEN ROWS OF THIS SEAT. 7 by the template 'for every input the law returns true; each argument reads behind the call as it read before'; 0 by the template 'total and deterministic' (their statements: YtcjachhdoogbaaaTotals.lean).
  GIVEN WITH THE SEED: the statements are not yours to turn. If you find one false, say at which input.
  Laid BY PROGRAM, IN A SANDBOX (cutbox-rows.mjs): the forced cells as the released guide's own fill.sh prints them over the translation 92a54c0050261eb6… (all of the seat's roots in one cut). By AI agents, Wed Nov 11 2026. No macro, syntax, notation, axiom, sorry.
-/
import Derived.Test.YtcjachhdoogbaaaChecked
import GoSem.Claim
import GoSem.ClaimJoined
import GoSem.ClaimMapViews
import Derived.JoinedTies
import Derived.KernelRfl
namespace Go.Proofs.Ytcjachhdoogbaaa
/- THE CELL 'sum', in the pinned program and in every row, IS THE sha256 OF THE DUMP (.gsa) THAT YtcjachhdoogbaaaProg.lean LOADS. Nothing in Lean hashes anything: it is a label: what it is worth is what the hold of that sum in a sandbox is worth. -/
noncomputable def Try.pinned : Pinned := { name := "ytcjachhdoogbaaa", sum := "92a54c0050261eb6d881a0e9c042cff53c36f3f5b49ea7fce746591404325fe3", checked := Try.checked }
namespace Rows
def none {H : Type} : Left H := { results := [], args := [] }

/-- 'secateurlaw03.TrailSmaller': WHATEVER THE INPUT: true; the input reads as it did. -/
def trailSmallerSpec : ChangeSpec := { name := "trailSmaller", fn := fun _ => fun
  | [d1, d2] => { results := [.lit (.bool true)], args := [d1, d2] }
  | _ => none }
def trailSmallerRow : OpenClaim := { program := "ytcjachhdoogbaaa", sum := "92a54c0050261eb6d881a0e9c042cff53c36f3f5b49ea7fce746591404325fe3", func := "secateur/secateurlaw03.TrailSmaller", spec := "trailSmaller", apart := false }
def TrailSmallerSaid : Prop := trailSmallerRow.holds Try.pinned (OpenSpec.ofChange trailSmallerSpec)

/-- ITS FALSE NEIGHBOUR: 'it returns false'. Refute it at one input. -/
def trailSmallerWrong : ChangeSpec := { name := "trailSmaller", fn := fun _ => fun
  | [d1, d2] => { results := [.lit (.bool false)], args := [d1, d2] }
  | _ => none }
def TrailSmallerWrongFalsely : Prop := trailSmallerRow.holds Try.pinned (OpenSpec.ofChange trailSmallerWrong)

/-- 'secateurlaw03.TrailNews': WHATEVER THE INPUT: true; the input reads as it did. -/
def trailNewsSpec : ChangeSpec := { name := "trailNews", fn := fun _ => fun
  | [d] => { results := [.lit (.bool true)], args := [d] }
  | _ => none }
def trailNewsRow : OpenClaim := { program := "ytcjachhdoogbaaa", sum := "92a54c0050261eb6d881a0e9c042cff53c36f3f5b49ea7fce746591404325fe3", func := "secateur/secateurlaw03.TrailNews", spec := "trailNews", apart := false }
def TrailNewsSaid : Prop := trailNewsRow.holds Try.pinned (OpenSpec.ofChange trailNewsSpec)

/-- ITS FALSE NEIGHBOUR: 'it returns false'. Refute it at one input. -/
def trailNewsWrong : ChangeSpec := { name := "trailNews", fn := fun _ => fun
  | [d] => { results := [.lit (.bool false)], args := [d] }
  | _ => none }
def TrailNewsWrongFalsely : Prop := trailNewsRow.holds Try.pinned (OpenSpec.ofChange trailNewsWrong)

/-- 'secateurlaw03.TrailBack': WHATEVER THE INPUT: true; the input reads as it did. -/
def trailBackSpec : ChangeSpec := { name := "trailBack", fn := fun _ => fun
  | [d1, d2, d3] => { results := [.lit (.bool true)], args := [d1, d2, d3] }
  | _ => none }
def trailBackRow : OpenClaim := { program := "ytcjachhdoogbaaa", sum := "92a54c0050261eb6d881a0e9c042cff53c36f3f5b49ea7fce746591404325fe3", func := "secateur/secateurlaw03.TrailBack", spec := "trailBack", apart := false }
def TrailBackSaid : Prop := trailBackRow.holds Try.pinned (OpenSpec.ofChange trailBackSpec)

/-- ITS FALSE NEIGHBOUR: 'it returns false'. Refute it at one input. -/
def trailBackWrong : ChangeSpec := { name := "trailBack", fn := fun _ => fun
  | [d1, d2, d3] => { results := [.lit (.bool false)], args := [d1, d2, d3] }
  | _ => none }
def TrailBackWrongFalsely : Prop := trailBackRow.holds Try.pinned (OpenSpec.ofChange trailBackWrong)

/-- 'secateurlaw03.TrailLast': WHATEVER THE INPUT: true; the input reads as it did. -/
def trailLastSpec : ChangeSpec := { name := "trailLast", fn := fun _ => fun
  | [d1, d2, d3] => { results := [.lit (.bool true)], args := [d1, d2, d3] }
  | _ => none }
def trailLastRow : OpenClaim := { program := "ytcjachhdoogbaaa", sum := "92a54c0050261eb6d881a0e9c042cff53c36f3f5b49ea7fce746591404325fe3", func := "secateur/secateurlaw03.TrailLast", spec := "trailLast", apart := false }
def TrailLastSaid : Prop := trailLastRow.holds Try.pinned (OpenSpec.ofChange trailLastSpec)

/-- ITS FALSE NEIGHBOUR: 'it returns false'. Refute it at one input. -/
def trailLastWrong : ChangeSpec := { name := "trailLast", fn := fun _ => fun
  | [d1, d2, d3] => { results := [.lit (.bool false)], args := [d1, d2, d3] }
  | _ => none }
def TrailLastWrongFalsely : Prop := trailLastRow.holds Try.pinned (OpenSpec.ofChange trailLastWrong)

/-- 'secateurlaw03.TrailRefuses': WHATEVER THE INPUT: true; the input reads as it did. -/
def trailRefusesSpec : ChangeSpec := { name := "trailRefuses", fn := fun _ => fun
  | [d1, d2] => { results := [.lit (.bool true)], args := [d1, d2] }
  | _ => none }
def trailRefusesRow : OpenClaim := { program := "ytcjachhdoogbaaa", sum := "92a54c0050261eb6d881a0e9c042cff53c36f3f5b49ea7fce746591404325fe3", func := "secateur/secateurlaw03.TrailRefuses", spec := "trailRefuses", apart := false }
def TrailRefusesSaid : Prop := trailRefusesRow.holds Try.pinned (OpenSpec.ofChange trailRefusesSpec)

/-- ITS FALSE NEIGHBOUR: 'it returns false'. Refute it at one input. -/
def trailRefusesWrong : ChangeSpec := { name := "trailRefuses", fn := fun _ => fun
  | [d1, d2] => { results := [.lit (.bool false)], args := [d1, d2] }
  | _ => none }
def TrailRefusesWrongFalsely : Prop := trailRefusesRow.holds Try.pinned (OpenSpec.ofChange trailRefusesWrong)

/-- 'secateurlaw03.TrailDoes': WHATEVER THE INPUT: true; the input reads as it did. -/
def trailDoesSpec : ChangeSpec := { name := "trailDoes", fn := fun _ => fun
  | [d1, d2] => { results := [.lit (.bool true)], args := [d1, d2] }
  | _ => none }
def trailDoesRow : OpenClaim := { program := "ytcjachhdoogbaaa", sum := "92a54c0050261eb6d881a0e9c042cff53c36f3f5b49ea7fce746591404325fe3", func := "secateur/secateurlaw03.TrailDoes", spec := "trailDoes", apart := false }
def TrailDoesSaid : Prop := trailDoesRow.holds Try.pinned (OpenSpec.ofChange trailDoesSpec)

/-- ITS FALSE NEIGHBOUR: 'it returns false'. Refute it at one input. -/
def trailDoesWrong : ChangeSpec := { name := "trailDoes", fn := fun _ => fun
  | [d1, d2] => { results := [.lit (.bool false)], args := [d1, d2] }
  | _ => none }
def TrailDoesWrongFalsely : Prop := trailDoesRow.holds Try.pinned (OpenSpec.ofChange trailDoesWrong)

/-- 'secateurlaw03.TrailTwo': WHATEVER THE INPUT: true; the input reads as it did. -/
def trailTwoSpec : ChangeSpec := { name := "trailTwo", fn := fun _ => fun
  | [d1, d2] => { results := [.lit (.bool true)], args := [d1, d2] }
  | _ => none }
def trailTwoRow : OpenClaim := { program := "ytcjachhdoogbaaa", sum := "92a54c0050261eb6d881a0e9c042cff53c36f3f5b49ea7fce746591404325fe3", func := "secateur/secateurlaw03.TrailTwo", spec := "trailTwo", apart := false }
def TrailTwoSaid : Prop := trailTwoRow.holds Try.pinned (OpenSpec.ofChange trailTwoSpec)

/-- ITS FALSE NEIGHBOUR: 'it returns false'. Refute it at one input. -/
def trailTwoWrong : ChangeSpec := { name := "trailTwo", fn := fun _ => fun
  | [d1, d2] => { results := [.lit (.bool false)], args := [d1, d2] }
  | _ => none }
def TrailTwoWrongFalsely : Prop := trailTwoRow.holds Try.pinned (OpenSpec.ofChange trailTwoWrong)

/- THE SECOND FORM. 'bulk': how many values and letters a reading holds, each counted each time it is reached (what is shared counts as often as it is met; a slice's spare places count too). A statement '..UptoSaid' is the law's where the arguments, and the package variables that the reading takes, are together of bulk at most 1048576: NARROWER than '..Said'. Prove '..Said' where nothing that the law and all that it calls make is longer than what came in: it says more and counts as full. Else prove '..UptoSaid'. A law counts once. -/
mutual
def uptoBulk {H : Type} : DataW H → Nat
  | .lit (.string bytes) => bytes.length + 1
  | .lit _ => 1
  | .nil => 1
  | .ptr d => uptoBulk d + 1
  | .slice elems spare => uptoBulkAll elems + uptoBulkAll spare + 1
  | .agg parts => uptoBulkAll parts + 1
  | .iface _ d => uptoBulk d + 1
  | .map entries => uptoBulkEntries entries + 1
  | .held _ => 1
def uptoBulkAll {H : Type} : List (DataW H) → Nat
  | [] => 0
  | d :: r => uptoBulk d + uptoBulkAll r
def uptoBulkEntries {H : Type} : List (Lit × DataW H) → Nat
  | [] => 0
  | x :: r => uptoBulkEntry x + uptoBulkEntries r
def uptoBulkEntry {H : Type} : Lit × DataW H → Nat
  | (.string bytes, d) => bytes.length + uptoBulk d + 1
  | (_, d) => uptoBulk d + 1
 end
def uptoSmall : (H : Type) → List (DataW H) → Bool := fun _ ds => decide (uptoBulkAll ds ≤ 1048576)
def OpenSpec.upto (s : _root_.Go.ChangeSpec) : _root_.Go.OpenSpec := { _root_.Go.OpenSpec.ofChange s with cond := some uptoSmall }

/-- 'secateurlaw03.TrailSmaller', WHERE WHAT IT READS IS OF BULK AT MOST 1048576: true; the input reads as it did. -/
def trailSmallerUptoRow : OpenClaim := { program := "ytcjachhdoogbaaa", sum := "92a54c0050261eb6d881a0e9c042cff53c36f3f5b49ea7fce746591404325fe3", func := "secateur/secateurlaw03.TrailSmaller", spec := "trailSmaller", apart := false, narrowed := true }
def TrailSmallerUptoSaid : Prop := trailSmallerUptoRow.holds Try.pinned (OpenSpec.upto trailSmallerSpec)

/-- 'secateurlaw03.TrailNews', WHERE WHAT IT READS IS OF BULK AT MOST 1048576: true; the input reads as it did. -/
def trailNewsUptoRow : OpenClaim := { program := "ytcjachhdoogbaaa", sum := "92a54c0050261eb6d881a0e9c042cff53c36f3f5b49ea7fce746591404325fe3", func := "secateur/secateurlaw03.TrailNews", spec := "trailNews", apart := false, narrowed := true }
def TrailNewsUptoSaid : Prop := trailNewsUptoRow.holds Try.pinned (OpenSpec.upto trailNewsSpec)

/-- 'secateurlaw03.TrailBack', WHERE WHAT IT READS IS OF BULK AT MOST 1048576: true; the input reads as it did. -/
def trailBackUptoRow : OpenClaim := { program := "ytcjachhdoogbaaa", sum := "92a54c0050261eb6d881a0e9c042cff53c36f3f5b49ea7fce746591404325fe3", func := "secateur/secateurlaw03.TrailBack", spec := "trailBack", apart := false, narrowed := true }
def TrailBackUptoSaid : Prop := trailBackUptoRow.holds Try.pinned (OpenSpec.upto trailBackSpec)

/-- 'secateurlaw03.TrailLast', WHERE WHAT IT READS IS OF BULK AT MOST 1048576: true; the input reads as it did. -/
def trailLastUptoRow : OpenClaim := { program := "ytcjachhdoogbaaa", sum := "92a54c0050261eb6d881a0e9c042cff53c36f3f5b49ea7fce746591404325fe3", func := "secateur/secateurlaw03.TrailLast", spec := "trailLast", apart := false, narrowed := true }
def TrailLastUptoSaid : Prop := trailLastUptoRow.holds Try.pinned (OpenSpec.upto trailLastSpec)

/-- 'secateurlaw03.TrailRefuses', WHERE WHAT IT READS IS OF BULK AT MOST 1048576: true; the input reads as it did. -/
def trailRefusesUptoRow : OpenClaim := { program := "ytcjachhdoogbaaa", sum := "92a54c0050261eb6d881a0e9c042cff53c36f3f5b49ea7fce746591404325fe3", func := "secateur/secateurlaw03.TrailRefuses", spec := "trailRefuses", apart := false, narrowed := true }
def TrailRefusesUptoSaid : Prop := trailRefusesUptoRow.holds Try.pinned (OpenSpec.upto trailRefusesSpec)

/-- 'secateurlaw03.TrailDoes', WHERE WHAT IT READS IS OF BULK AT MOST 1048576: true; the input reads as it did. -/
def trailDoesUptoRow : OpenClaim := { program := "ytcjachhdoogbaaa", sum := "92a54c0050261eb6d881a0e9c042cff53c36f3f5b49ea7fce746591404325fe3", func := "secateur/secateurlaw03.TrailDoes", spec := "trailDoes", apart := false, narrowed := true }
def TrailDoesUptoSaid : Prop := trailDoesUptoRow.holds Try.pinned (OpenSpec.upto trailDoesSpec)

/-- 'secateurlaw03.TrailTwo', WHERE WHAT IT READS IS OF BULK AT MOST 1048576: true; the input reads as it did. -/
def trailTwoUptoRow : OpenClaim := { program := "ytcjachhdoogbaaa", sum := "92a54c0050261eb6d881a0e9c042cff53c36f3f5b49ea7fce746591404325fe3", func := "secateur/secateurlaw03.TrailTwo", spec := "trailTwo", apart := false, narrowed := true }
def TrailTwoUptoSaid : Prop := trailTwoUptoRow.holds Try.pinned (OpenSpec.upto trailTwoSpec)

end Rows
end Go.Proofs.Ytcjachhdoogbaaa
