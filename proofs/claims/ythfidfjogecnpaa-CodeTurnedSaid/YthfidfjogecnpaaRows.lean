/-
  No cell of these rows narrows 'for every input' (looked for: loops, veiled, ifaces, maps, wideKeys, modest, calm, conditions, laid).
  DERIVED. THE GIVEN ROWS OF THIS SEAT. 6 by the template 'for every input the law returns true; each argument reads behind the call as it read before'; 0 by the template 'total and deterministic' (their statements: YthfidfjogecnpaaTotals.lean).
  GIVEN WITH THE SEED: the statements are not yours to turn. If you find one false, say at which input.
  Laid BY PROGRAM, IN A SANDBOX (cutbox-rows.mjs): the forced cells as the released guide's own fill.sh prints them over the translation 504e55e8ea68ae71… (all of the seat's roots in one cut). By AI agents, Wed Nov 11 2026. No macro, syntax, notation, axiom, sorry.
-/
import Derived.Test.YthfidfjogecnpaaChecked
import GoSem.Claim
import GoSem.ClaimJoined
import GoSem.ClaimMapViews
import Derived.JoinedTies
import Derived.KernelRfl
namespace Go.Proofs.Ythfidfjogecnpaa
/- THE CELL 'sum', in the pinned program and in every row, IS THE sha256 OF THE DUMP (.gsa) THAT YthfidfjogecnpaaProg.lean LOADS. Nothing in Lean hashes anything: it is a label: what it is worth is what the hold of that sum in a sandbox is worth. -/
noncomputable def Try.pinned : Pinned := { name := "ythfidfjogecnpaa", sum := "504e55e8ea68ae71c1fbd4e89571b9bbe0a4fb26997a02397c063b057712728f", checked := Try.checked }
namespace Rows
def none {H : Type} : Left H := { results := [], args := [] }

/-- 'podestalaw09.CodeReads': WHATEVER THE INPUT: true; the input reads as it did. -/
def codeReadsSpec : ChangeSpec := { name := "codeReads", fn := fun _ => fun
  | [d] => { results := [.lit (.bool true)], args := [d] }
  | _ => none }
def codeReadsRow : OpenClaim := { program := "ythfidfjogecnpaa", sum := "504e55e8ea68ae71c1fbd4e89571b9bbe0a4fb26997a02397c063b057712728f", func := "podesta/podestalaw09.CodeReads", spec := "codeReads", unfollowed := true, recurses := true, apart := false }
def CodeReadsSaid : Prop := codeReadsRow.holds Try.pinned (OpenSpec.ofChange codeReadsSpec)

/-- ITS FALSE NEIGHBOUR: 'it returns false'. Refute it at one input. -/
def codeReadsWrong : ChangeSpec := { name := "codeReads", fn := fun _ => fun
  | [d] => { results := [.lit (.bool false)], args := [d] }
  | _ => none }
def CodeReadsWrongFalsely : Prop := codeReadsRow.holds Try.pinned (OpenSpec.ofChange codeReadsWrong)

/-- 'podestalaw09.CodeCut': WHATEVER THE INPUT: true; the input reads as it did. -/
def codeCutSpec : ChangeSpec := { name := "codeCut", fn := fun _ => fun
  | [d1, d2, d3] => { results := [.lit (.bool true)], args := [d1, d2, d3] }
  | _ => none }
def codeCutRow : OpenClaim := { program := "ythfidfjogecnpaa", sum := "504e55e8ea68ae71c1fbd4e89571b9bbe0a4fb26997a02397c063b057712728f", func := "podesta/podestalaw09.CodeCut", spec := "codeCut", unfollowed := true, recurses := true, apart := false }
def CodeCutSaid : Prop := codeCutRow.holds Try.pinned (OpenSpec.ofChange codeCutSpec)

/-- ITS FALSE NEIGHBOUR: 'it returns false'. Refute it at one input. -/
def codeCutWrong : ChangeSpec := { name := "codeCut", fn := fun _ => fun
  | [d1, d2, d3] => { results := [.lit (.bool false)], args := [d1, d2, d3] }
  | _ => none }
def CodeCutWrongFalsely : Prop := codeCutRow.holds Try.pinned (OpenSpec.ofChange codeCutWrong)

/-- 'podestalaw09.CodeShort': WHATEVER THE INPUT: true; the input reads as it did. -/
def codeShortSpec : ChangeSpec := { name := "codeShort", fn := fun _ => fun
  | [d1, d2] => { results := [.lit (.bool true)], args := [d1, d2] }
  | _ => none }
def codeShortRow : OpenClaim := { program := "ythfidfjogecnpaa", sum := "504e55e8ea68ae71c1fbd4e89571b9bbe0a4fb26997a02397c063b057712728f", func := "podesta/podestalaw09.CodeShort", spec := "codeShort", unfollowed := true, recurses := true, apart := false }
def CodeShortSaid : Prop := codeShortRow.holds Try.pinned (OpenSpec.ofChange codeShortSpec)

/-- ITS FALSE NEIGHBOUR: 'it returns false'. Refute it at one input. -/
def codeShortWrong : ChangeSpec := { name := "codeShort", fn := fun _ => fun
  | [d1, d2] => { results := [.lit (.bool false)], args := [d1, d2] }
  | _ => none }
def CodeShortWrongFalsely : Prop := codeShortRow.holds Try.pinned (OpenSpec.ofChange codeShortWrong)

/-- 'podestalaw09.CodeTurned': WHATEVER THE INPUT: true; the input reads as it did. -/
def codeTurnedSpec : ChangeSpec := { name := "codeTurned", fn := fun _ => fun
  | [d1, d2, d3] => { results := [.lit (.bool true)], args := [d1, d2, d3] }
  | _ => none }
def codeTurnedRow : OpenClaim := { program := "ythfidfjogecnpaa", sum := "504e55e8ea68ae71c1fbd4e89571b9bbe0a4fb26997a02397c063b057712728f", func := "podesta/podestalaw09.CodeTurned", spec := "codeTurned", unfollowed := true, recurses := true, apart := false }
def CodeTurnedSaid : Prop := codeTurnedRow.holds Try.pinned (OpenSpec.ofChange codeTurnedSpec)

/-- ITS FALSE NEIGHBOUR: 'it returns false'. Refute it at one input. -/
def codeTurnedWrong : ChangeSpec := { name := "codeTurned", fn := fun _ => fun
  | [d1, d2, d3] => { results := [.lit (.bool false)], args := [d1, d2, d3] }
  | _ => none }
def CodeTurnedWrongFalsely : Prop := codeTurnedRow.holds Try.pinned (OpenSpec.ofChange codeTurnedWrong)

/-- 'podestalaw09.CodeBytes': WHATEVER THE INPUT: true; the input reads as it did. -/
def codeBytesSpec : ChangeSpec := { name := "codeBytes", fn := fun _ => fun
  | [d] => { results := [.lit (.bool true)], args := [d] }
  | _ => none }
def codeBytesRow : OpenClaim := { program := "ythfidfjogecnpaa", sum := "504e55e8ea68ae71c1fbd4e89571b9bbe0a4fb26997a02397c063b057712728f", func := "podesta/podestalaw09.CodeBytes", spec := "codeBytes", unfollowed := true, recurses := true, apart := false }
def CodeBytesSaid : Prop := codeBytesRow.holds Try.pinned (OpenSpec.ofChange codeBytesSpec)

/-- ITS FALSE NEIGHBOUR: 'it returns false'. Refute it at one input. -/
def codeBytesWrong : ChangeSpec := { name := "codeBytes", fn := fun _ => fun
  | [d] => { results := [.lit (.bool false)], args := [d] }
  | _ => none }
def CodeBytesWrongFalsely : Prop := codeBytesRow.holds Try.pinned (OpenSpec.ofChange codeBytesWrong)

/-- 'podestalaw09.CodeSame': WHATEVER THE INPUT: true; the input reads as it did. -/
def codeSameSpec : ChangeSpec := { name := "codeSame", fn := fun _ => fun
  | [d1, d2] => { results := [.lit (.bool true)], args := [d1, d2] }
  | _ => none }
def codeSameRow : OpenClaim := { program := "ythfidfjogecnpaa", sum := "504e55e8ea68ae71c1fbd4e89571b9bbe0a4fb26997a02397c063b057712728f", func := "podesta/podestalaw09.CodeSame", spec := "codeSame", unfollowed := true, recurses := true, apart := false }
def CodeSameSaid : Prop := codeSameRow.holds Try.pinned (OpenSpec.ofChange codeSameSpec)

/-- ITS FALSE NEIGHBOUR: 'it returns false'. Refute it at one input. -/
def codeSameWrong : ChangeSpec := { name := "codeSame", fn := fun _ => fun
  | [d1, d2] => { results := [.lit (.bool false)], args := [d1, d2] }
  | _ => none }
def CodeSameWrongFalsely : Prop := codeSameRow.holds Try.pinned (OpenSpec.ofChange codeSameWrong)

/- THE SECOND FORM. 'bulk': how many values and letters a reading holds, each counted each time it is reached (what is shared counts as often as it is met; a slice's spare places count too). A statement '..UptoSaid' is the law's where the arguments, and the package variables that the reading takes, are together of bulk at most 1048576: NARROWER than '..Said'. Prove '..Said' where nothing that the law and all that it calls make is longer than what came in: it says more and counts as full. Else prove '..UptoSaid'. A law counts once. -/
mutual
def uptoBulk {H : Type} : DataW H → Nat
  | .lit (.string bytes) => bytes.length + 1
  | .lit _ => 1
  | .nil => 1
  | .ptr d => uptoBulk d + 1
  | .slice elems spare => uptoBulkAll elems + uptoBulkAll spare + 1
  | .agg parts => uptoBulkAll parts + 1
  | .iface _ d => uptoBulk d + 1
  | .map entries => uptoBulkEntries entries + 1
  | .held _ => 1
def uptoBulkAll {H : Type} : List (DataW H) → Nat
  | [] => 0
  | d :: r => uptoBulk d + uptoBulkAll r
def uptoBulkEntries {H : Type} : List (Lit × DataW H) → Nat
  | [] => 0
  | x :: r => uptoBulkEntry x + uptoBulkEntries r
def uptoBulkEntry {H : Type} : Lit × DataW H → Nat
  | (.string bytes, d) => bytes.length + uptoBulk d + 1
  | (_, d) => uptoBulk d + 1
 end
def uptoSmall : (H : Type) → List (DataW H) → Bool := fun _ ds => decide (uptoBulkAll ds ≤ 1048576)
def OpenSpec.upto (s : _root_.Go.ChangeSpec) : _root_.Go.OpenSpec := { _root_.Go.OpenSpec.ofChange s with cond := some uptoSmall }

/-- 'podestalaw09.CodeReads', WHERE WHAT IT READS IS OF BULK AT MOST 1048576: true; the input reads as it did. -/
def codeReadsUptoRow : OpenClaim := { program := "ythfidfjogecnpaa", sum := "504e55e8ea68ae71c1fbd4e89571b9bbe0a4fb26997a02397c063b057712728f", func := "podesta/podestalaw09.CodeReads", spec := "codeReads", unfollowed := true, recurses := true, apart := false, narrowed := true }
def CodeReadsUptoSaid : Prop := codeReadsUptoRow.holds Try.pinned (OpenSpec.upto codeReadsSpec)

/-- 'podestalaw09.CodeCut', WHERE WHAT IT READS IS OF BULK AT MOST 1048576: true; the input reads as it did. -/
def codeCutUptoRow : OpenClaim := { program := "ythfidfjogecnpaa", sum := "504e55e8ea68ae71c1fbd4e89571b9bbe0a4fb26997a02397c063b057712728f", func := "podesta/podestalaw09.CodeCut", spec := "codeCut", unfollowed := true, recurses := true, apart := false, narrowed := true }
def CodeCutUptoSaid : Prop := codeCutUptoRow.holds Try.pinned (OpenSpec.upto codeCutSpec)

/-- 'podestalaw09.CodeShort', WHERE WHAT IT READS IS OF BULK AT MOST 1048576: true; the input reads as it did. -/
def codeShortUptoRow : OpenClaim := { program := "ythfidfjogecnpaa", sum := "504e55e8ea68ae71c1fbd4e89571b9bbe0a4fb26997a02397c063b057712728f", func := "podesta/podestalaw09.CodeShort", spec := "codeShort", unfollowed := true, recurses := true, apart := false, narrowed := true }
def CodeShortUptoSaid : Prop := codeShortUptoRow.holds Try.pinned (OpenSpec.upto codeShortSpec)

/-- 'podestalaw09.CodeTurned', WHERE WHAT IT READS IS OF BULK AT MOST 1048576: true; the input reads as it did. -/
def codeTurnedUptoRow : OpenClaim := { program := "ythfidfjogecnpaa", sum := "504e55e8ea68ae71c1fbd4e89571b9bbe0a4fb26997a02397c063b057712728f", func := "podesta/podestalaw09.CodeTurned", spec := "codeTurned", unfollowed := true, recurses := true, apart := false, narrowed := true }
def CodeTurnedUptoSaid : Prop := codeTurnedUptoRow.holds Try.pinned (OpenSpec.upto codeTurnedSpec)

/-- 'podestalaw09.CodeBytes', WHERE WHAT IT READS IS OF BULK AT MOST 1048576: true; the input reads as it did. -/
def codeBytesUptoRow : OpenClaim := { program := "ythfidfjogecnpaa", sum := "504e55e8ea68ae71c1fbd4e89571b9bbe0a4fb26997a02397c063b057712728f", func := "podesta/podestalaw09.CodeBytes", spec := "codeBytes", unfollowed := true, recurses := true, apart := false, narrowed := true }
def CodeBytesUptoSaid : Prop := codeBytesUptoRow.holds Try.pinned (OpenSpec.upto codeBytesSpec)

/-- 'podestalaw09.CodeSame', WHERE WHAT IT READS IS OF BULK AT MOST 1048576: true; the input reads as it did. -/
def codeSameUptoRow : OpenClaim := { program := "ythfidfjogecnpaa", sum := "504e55e8ea68ae71c1fbd4e89571b9bbe0a4fb26997a02397c063b057712728f", func := "podesta/podestalaw09.CodeSame", spec := "codeSame", unfollowed := true, recurses := true, apart := false, narrowed := true }
def CodeSameUptoSaid : Prop := codeSameUptoRow.holds Try.pinned (OpenSpec.upto codeSameSpec)

end Rows
end Go.Proofs.Ythfidfjogecnpaa
