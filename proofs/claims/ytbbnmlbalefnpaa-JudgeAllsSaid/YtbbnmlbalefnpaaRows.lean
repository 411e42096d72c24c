/-
  No cell of these rows narrows 'for every input' (looked for: loops, veiled, ifaces, maps, wideKeys, modest, calm, conditions, laid).
  DERIVED. THE GIVEN ROWS OF THIS SEAT. 3 by the template 'for every input the law returns true; each argument reads behind the call as it read before'; 0 by the template 'total and deterministic' (their statements: YtbbnmlbalefnpaaTotals.lean).
  GIVEN WITH THE SEED: the statements are not yours to turn. If you find one false, say at which input.
  Laid BY PROGRAM, IN A SANDBOX (cutbox-rows.mjs): the forced cells as the released guide's own fill.sh prints them over the translation 9afdb96a718e6f8e… (all of the seat's roots in one cut). By AI agents, Wed Nov 11 2026. No macro, syntax, notation, axiom, sorry.
-/
import Derived.Test.YtbbnmlbalefnpaaChecked
import GoSem.Claim
import GoSem.ClaimJoined
import GoSem.ClaimMapViews
import Derived.JoinedTies
import Derived.KernelRfl
namespace Go.Proofs.Ytbbnmlbalefnpaa
/- THE CELL 'sum', in the pinned program and in every row, IS THE sha256 OF THE DUMP (.gsa) THAT YtbbnmlbalefnpaaProg.lean LOADS. Nothing in Lean hashes anything: it is a label: what it is worth is what the hold of that sum in a sandbox is worth. -/
noncomputable def Try.pinned : Pinned := { name := "ytbbnmlbalefnpaa", sum := "9afdb96a718e6f8ede89e6fb191024a94ad230a88a19cf15048f336944bc08e5", checked := Try.checked }
namespace Rows
def none {H : Type} : Left H := { results := [], args := [] }

/-- 'tandemlaw22.JudgeAgrees': WHATEVER THE INPUT: true; the input reads as it did. -/
def judgeAgreesSpec : ChangeSpec := { name := "judgeAgrees", fn := fun _ => fun
  | [d1, d2] => { results := [.lit (.bool true)], args := [d1, d2] }
  | _ => none }
def judgeAgreesRow : OpenClaim := { program := "ytbbnmlbalefnpaa", sum := "9afdb96a718e6f8ede89e6fb191024a94ad230a88a19cf15048f336944bc08e5", func := "tandem/tandemlaw22.JudgeAgrees", spec := "judgeAgrees", apart := false }
def JudgeAgreesSaid : Prop := judgeAgreesRow.holds Try.pinned (OpenSpec.ofChange judgeAgreesSpec)

/-- ITS FALSE NEIGHBOUR: 'it returns false'. Refute it at one input. -/
def judgeAgreesWrong : ChangeSpec := { name := "judgeAgrees", fn := fun _ => fun
  | [d1, d2] => { results := [.lit (.bool false)], args := [d1, d2] }
  | _ => none }
def JudgeAgreesWrongFalsely : Prop := judgeAgreesRow.holds Try.pinned (OpenSpec.ofChange judgeAgreesWrong)

/-- 'tandemlaw22.JudgeAlls': WHATEVER THE INPUT: true; the input reads as it did. -/
def judgeAllsSpec : ChangeSpec := { name := "judgeAlls", fn := fun _ => fun
  | [d] => { results := [.lit (.bool true)], args := [d] }
  | _ => none }
def judgeAllsRow : OpenClaim := { program := "ytbbnmlbalefnpaa", sum := "9afdb96a718e6f8ede89e6fb191024a94ad230a88a19cf15048f336944bc08e5", func := "tandem/tandemlaw22.JudgeAlls", spec := "judgeAlls", apart := false }
def JudgeAllsSaid : Prop := judgeAllsRow.holds Try.pinned (OpenSpec.ofChange judgeAllsSpec)

/-- ITS FALSE NEIGHBOUR: 'it returns false'. Refute it at one input. -/
def judgeAllsWrong : ChangeSpec := { name := "judgeAlls", fn := fun _ => fun
  | [d] => { results := [.lit (.bool false)], args := [d] }
  | _ => none }
def JudgeAllsWrongFalsely : Prop := judgeAllsRow.holds Try.pinned (OpenSpec.ofChange judgeAllsWrong)

/-- 'tandemlaw22.JudgePrefixes': WHATEVER THE INPUT: true; the input reads as it did. -/
def judgePrefixesSpec : ChangeSpec := { name := "judgePrefixes", fn := fun _ => fun
  | [d1, d2, d3, d4, d5] => { results := [.lit (.bool true)], args := [d1, d2, d3, d4, d5] }
  | _ => none }
def judgePrefixesRow : OpenClaim := { program := "ytbbnmlbalefnpaa", sum := "9afdb96a718e6f8ede89e6fb191024a94ad230a88a19cf15048f336944bc08e5", func := "tandem/tandemlaw22.JudgePrefixes", spec := "judgePrefixes", apart := false }
def JudgePrefixesSaid : Prop := judgePrefixesRow.holds Try.pinned (OpenSpec.ofChange judgePrefixesSpec)

/-- ITS FALSE NEIGHBOUR: 'it returns false'. Refute it at one input. -/
def judgePrefixesWrong : ChangeSpec := { name := "judgePrefixes", fn := fun _ => fun
  | [d1, d2, d3, d4, d5] => { results := [.lit (.bool false)], args := [d1, d2, d3, d4, d5] }
  | _ => none }
def JudgePrefixesWrongFalsely : Prop := judgePrefixesRow.holds Try.pinned (OpenSpec.ofChange judgePrefixesWrong)

/- THE SECOND FORM. 'bulk': how many values and letters a reading holds, each counted each time it is reached (what is shared counts as often as it is met; a slice's spare places count too). A statement '..UptoSaid' is the law's where the arguments, and the package variables that the reading takes, are together of bulk at most 1048576: NARROWER than '..Said'. Prove '..Said' where nothing that the law and all that it calls make is longer than what came in: it says more and counts as full. Else prove '..UptoSaid'. A law counts once. -/
mutual
def uptoBulk {H : Type} : DataW H → Nat
  | .lit (.string bytes) => bytes.length + 1
  | .lit _ => 1
  | .nil => 1
  | .ptr d => uptoBulk d + 1
  | .slice elems spare => uptoBulkAll elems + uptoBulkAll spare + 1
  | .agg parts => uptoBulkAll parts + 1
  | .iface _ d => uptoBulk d + 1
  | .map entries => uptoBulkEntries entries + 1
  | .held _ => 1
def uptoBulkAll {H : Type} : List (DataW H) → Nat
  | [] => 0
  | d :: r => uptoBulk d + uptoBulkAll r
def uptoBulkEntries {H : Type} : List (Lit × DataW H) → Nat
  | [] => 0
  | x :: r => uptoBulkEntry x + uptoBulkEntries r
def uptoBulkEntry {H : Type} : Lit × DataW H → Nat
  | (.string bytes, d) => bytes.length + uptoBulk d + 1
  | (_, d) => uptoBulk d + 1
 end
def uptoSmall : (H : Type) → List (DataW H) → Bool := fun _ ds => decide (uptoBulkAll ds ≤ 1048576)
def OpenSpec.upto (s : _root_.Go.ChangeSpec) : _root_.Go.OpenSpec := { _root_.Go.OpenSpec.ofChange s with cond := some uptoSmall }

/-- 'tandemlaw22.JudgeAgrees', WHERE WHAT IT READS IS OF BULK AT MOST 1048576: true; the input reads as it did. -/
def judgeAgreesUptoRow : OpenClaim := { program := "ytbbnmlbalefnpaa", sum := "9afdb96a718e6f8ede89e6fb191024a94ad230a88a19cf15048f336944bc08e5", func := "tandem/tandemlaw22.JudgeAgrees", spec := "judgeAgrees", apart := false, narrowed := true }
def JudgeAgreesUptoSaid : Prop := judgeAgreesUptoRow.holds Try.pinned (OpenSpec.upto judgeAgreesSpec)

/-- 'tandemlaw22.JudgeAlls', WHERE WHAT IT READS IS OF BULK AT MOST 1048576: true; the input reads as it did. -/
def judgeAllsUptoRow : OpenClaim := { program := "ytbbnmlbalefnpaa", sum := "9afdb96a718e6f8ede89e6fb191024a94ad230a88a19cf15048f336944bc08e5", func := "tandem/tandemlaw22.JudgeAlls", spec := "judgeAlls", apart := false, narrowed := true }
def JudgeAllsUptoSaid : Prop := judgeAllsUptoRow.holds Try.pinned (OpenSpec.upto judgeAllsSpec)

/-- 'tandemlaw22.JudgePrefixes', WHERE WHAT IT READS IS OF BULK AT MOST 1048576: true; the input reads as it did. -/
def judgePrefixesUptoRow : OpenClaim := { program := "ytbbnmlbalefnpaa", sum := "9afdb96a718e6f8ede89e6fb191024a94ad230a88a19cf15048f336944bc08e5", func := "tandem/tandemlaw22.JudgePrefixes", spec := "judgePrefixes", apart := false, narrowed := true }
def JudgePrefixesUptoSaid : Prop := judgePrefixesUptoRow.holds Try.pinned (OpenSpec.upto judgePrefixesSpec)

end Rows
end Go.Proofs.Ytbbnmlbalefnpaa
