/-
  No cell of these rows narrows 'for every input' (looked for: loops, veiled, ifaces, maps, wideKeys, modest, calm, conditions, laid).
  DERIVED. THE GIVEN ROWS OF THIS SEAT. 7 by the template 'for every input the law returns true; each argument reads behind the call as it read before'; 0 by the template 'total and deterministic' (their statements: YtadolbhmdimbkaaTotals.lean).
  GIVEN WITH THE SEED: the statements are not yours to turn. If you find one false, say at which input.
  Laid BY PROGRAM, IN A SANDBOX (cutbox-rows.mjs): the forced cells as the released guide's own fill.sh prints them over the translation a0aa630cfdbb7bc0… (all of the seat's roots in one cut). By AI agents, Wed Nov 11 2026. No macro, syntax, notation, axiom, sorry.
-/
import Derived.Test.YtadolbhmdimbkaaChecked
import GoSem.Claim
import GoSem.ClaimJoined
import GoSem.ClaimMapViews
import Derived.JoinedTies
import Derived.KernelRfl
namespace Go.Proofs.Ytadolbhmdimbkaa
/- THE CELL 'sum', in the pinned program and in every row, IS THE sha256 OF THE DUMP (.gsa) THAT YtadolbhmdimbkaaProg.lean LOADS. Nothing in Lean hashes anything: it is a label: what it is worth is what the hold of that sum in a sandbox is worth. -/
noncomputable def Try.pinned : Pinned := { name := "ytadolbhmdimbkaa", sum := "a0aa630cfdbb7bc039906415f84fb9c162e184bfd66485f9d83a7249b3e37d72", checked := Try.checked }
namespace Rows
def none {H : Type} : Left H := { results := [], args := [] }

/-- 'podestalaw05.RuleFinds': WHATEVER THE INPUT: true; the input reads as it did. -/
def ruleFindsSpec : ChangeSpec := { name := "ruleFinds", fn := fun _ => fun
  | [d1, d2] => { results := [.lit (.bool true)], args := [d1, d2] }
  | _ => none }
def ruleFindsRow : OpenClaim := { program := "ytadolbhmdimbkaa", sum := "a0aa630cfdbb7bc039906415f84fb9c162e184bfd66485f9d83a7249b3e37d72", func := "podesta/podestalaw05.RuleFinds", spec := "ruleFinds", inPlace := ["slices.overlaps[podesta/api.Rule]"], unfollowed := true, recurses := true, apart := false }
def RuleFindsSaid : Prop := ruleFindsRow.holds Try.pinned (OpenSpec.ofChange ruleFindsSpec)

/-- ITS FALSE NEIGHBOUR: 'it returns false'. Refute it at one input. -/
def ruleFindsWrong : ChangeSpec := { name := "ruleFinds", fn := fun _ => fun
  | [d1, d2] => { results := [.lit (.bool false)], args := [d1, d2] }
  | _ => none }
def RuleFindsWrongFalsely : Prop := ruleFindsRow.holds Try.pinned (OpenSpec.ofChange ruleFindsWrong)

/-- 'podestalaw05.RuleOrder': WHATEVER THE INPUT: true; the input reads as it did. -/
def ruleOrderSpec : ChangeSpec := { name := "ruleOrder", fn := fun _ => fun
  | [d1, d2, d3] => { results := [.lit (.bool true)], args := [d1, d2, d3] }
  | _ => none }
def ruleOrderRow : OpenClaim := { program := "ytadolbhmdimbkaa", sum := "a0aa630cfdbb7bc039906415f84fb9c162e184bfd66485f9d83a7249b3e37d72", func := "podesta/podestalaw05.RuleOrder", spec := "ruleOrder", inPlace := ["slices.overlaps[podesta/api.Rule]"], unfollowed := true, recurses := true, apart := false }
def RuleOrderSaid : Prop := ruleOrderRow.holds Try.pinned (OpenSpec.ofChange ruleOrderSpec)

/-- ITS FALSE NEIGHBOUR: 'it returns false'. Refute it at one input. -/
def ruleOrderWrong : ChangeSpec := { name := "ruleOrder", fn := fun _ => fun
  | [d1, d2, d3] => { results := [.lit (.bool false)], args := [d1, d2, d3] }
  | _ => none }
def RuleOrderWrongFalsely : Prop := ruleOrderRow.holds Try.pinned (OpenSpec.ofChange ruleOrderWrong)

/-- 'podestalaw05.RulePairs': WHATEVER THE INPUT: true; the input reads as it did. -/
def rulePairsSpec : ChangeSpec := { name := "rulePairs", fn := fun _ => fun
  | [d1, d2] => { results := [.lit (.bool true)], args := [d1, d2] }
  | _ => none }
def rulePairsRow : OpenClaim := { program := "ytadolbhmdimbkaa", sum := "a0aa630cfdbb7bc039906415f84fb9c162e184bfd66485f9d83a7249b3e37d72", func := "podesta/podestalaw05.RulePairs", spec := "rulePairs", inPlace := ["slices.overlaps[podesta/api.Rule]"], unfollowed := true, recurses := true, apart := false }
def RulePairsSaid : Prop := rulePairsRow.holds Try.pinned (OpenSpec.ofChange rulePairsSpec)

/-- ITS FALSE NEIGHBOUR: 'it returns false'. Refute it at one input. -/
def rulePairsWrong : ChangeSpec := { name := "rulePairs", fn := fun _ => fun
  | [d1, d2] => { results := [.lit (.bool false)], args := [d1, d2] }
  | _ => none }
def RulePairsWrongFalsely : Prop := rulePairsRow.holds Try.pinned (OpenSpec.ofChange rulePairsWrong)

/-- 'podestalaw05.RuleSame': WHATEVER THE INPUT: true; the input reads as it did. -/
def ruleSameSpec : ChangeSpec := { name := "ruleSame", fn := fun _ => fun
  | [d1, d2] => { results := [.lit (.bool true)], args := [d1, d2] }
  | _ => none }
def ruleSameRow : OpenClaim := { program := "ytadolbhmdimbkaa", sum := "a0aa630cfdbb7bc039906415f84fb9c162e184bfd66485f9d83a7249b3e37d72", func := "podesta/podestalaw05.RuleSame", spec := "ruleSame", inPlace := ["slices.overlaps[podesta/api.Rule]"], unfollowed := true, recurses := true, apart := false }
def RuleSameSaid : Prop := ruleSameRow.holds Try.pinned (OpenSpec.ofChange ruleSameSpec)

/-- ITS FALSE NEIGHBOUR: 'it returns false'. Refute it at one input. -/
def ruleSameWrong : ChangeSpec := { name := "ruleSame", fn := fun _ => fun
  | [d1, d2] => { results := [.lit (.bool false)], args := [d1, d2] }
  | _ => none }
def RuleSameWrongFalsely : Prop := ruleSameRow.holds Try.pinned (OpenSpec.ofChange ruleSameWrong)

/-- 'podestalaw05.RuleJoins': WHATEVER THE INPUT: true; the input reads as it did. -/
def ruleJoinsSpec : ChangeSpec := { name := "ruleJoins", fn := fun _ => fun
  | [d1, d2] => { results := [.lit (.bool true)], args := [d1, d2] }
  | _ => none }
def ruleJoinsRow : OpenClaim := { program := "ytadolbhmdimbkaa", sum := "a0aa630cfdbb7bc039906415f84fb9c162e184bfd66485f9d83a7249b3e37d72", func := "podesta/podestalaw05.RuleJoins", spec := "ruleJoins", inPlace := ["slices.overlaps[podesta/api.Rule]"], unfollowed := true, recurses := true, apart := false }
def RuleJoinsSaid : Prop := ruleJoinsRow.holds Try.pinned (OpenSpec.ofChange ruleJoinsSpec)

/-- ITS FALSE NEIGHBOUR: 'it returns false'. Refute it at one input. -/
def ruleJoinsWrong : ChangeSpec := { name := "ruleJoins", fn := fun _ => fun
  | [d1, d2] => { results := [.lit (.bool false)], args := [d1, d2] }
  | _ => none }
def RuleJoinsWrongFalsely : Prop := ruleJoinsRow.holds Try.pinned (OpenSpec.ofChange ruleJoinsWrong)

/-- 'podestalaw05.RuleOwn': WHATEVER THE INPUT: true; the input reads as it did. -/
def ruleOwnSpec : ChangeSpec := { name := "ruleOwn", fn := fun _ => fun
  | [d] => { results := [.lit (.bool true)], args := [d] }
  | _ => none }
def ruleOwnRow : OpenClaim := { program := "ytadolbhmdimbkaa", sum := "a0aa630cfdbb7bc039906415f84fb9c162e184bfd66485f9d83a7249b3e37d72", func := "podesta/podestalaw05.RuleOwn", spec := "ruleOwn", inPlace := ["slices.overlaps[podesta/api.Rule]"], unfollowed := true, recurses := true, apart := false }
def RuleOwnSaid : Prop := ruleOwnRow.holds Try.pinned (OpenSpec.ofChange ruleOwnSpec)

/-- ITS FALSE NEIGHBOUR: 'it returns false'. Refute it at one input. -/
def ruleOwnWrong : ChangeSpec := { name := "ruleOwn", fn := fun _ => fun
  | [d] => { results := [.lit (.bool false)], args := [d] }
  | _ => none }
def RuleOwnWrongFalsely : Prop := ruleOwnRow.holds Try.pinned (OpenSpec.ofChange ruleOwnWrong)

/-- 'podestalaw05.RuleTables': WHATEVER THE INPUT: true; the input reads as it did. -/
def ruleTablesSpec : ChangeSpec := { name := "ruleTables", fn := fun _ => fun
  | [d] => { results := [.lit (.bool true)], args := [d] }
  | _ => none }
def ruleTablesRow : OpenClaim := { program := "ytadolbhmdimbkaa", sum := "a0aa630cfdbb7bc039906415f84fb9c162e184bfd66485f9d83a7249b3e37d72", func := "podesta/podestalaw05.RuleTables", spec := "ruleTables", inPlace := ["slices.overlaps[podesta/api.Rule]"], unfollowed := true, recurses := true, apart := false }
def RuleTablesSaid : Prop := ruleTablesRow.holds Try.pinned (OpenSpec.ofChange ruleTablesSpec)

/-- ITS FALSE NEIGHBOUR: 'it returns false'. Refute it at one input. -/
def ruleTablesWrong : ChangeSpec := { name := "ruleTables", fn := fun _ => fun
  | [d] => { results := [.lit (.bool false)], args := [d] }
  | _ => none }
def RuleTablesWrongFalsely : Prop := ruleTablesRow.holds Try.pinned (OpenSpec.ofChange ruleTablesWrong)

/- THE SECOND FORM. 'bulk': how many values and letters a reading holds, each counted each time it is reached (what is shared counts as often as it is met; a slice's spare places count too). A statement '..UptoSaid' is the law's where the arguments, and the package variables that the reading takes, are together of bulk at most 1048576: NARROWER than '..Said'. Prove '..Said' where nothing that the law and all that it calls make is longer than what came in: it says more and counts as full. Else prove '..UptoSaid'. A law counts once. -/
mutual
def uptoBulk {H : Type} : DataW H → Nat
  | .lit (.string bytes) => bytes.length + 1
  | .lit _ => 1
  | .nil => 1
  | .ptr d => uptoBulk d + 1
  | .slice elems spare => uptoBulkAll elems + uptoBulkAll spare + 1
  | .agg parts => uptoBulkAll parts + 1
  | .iface _ d => uptoBulk d + 1
  | .map entries => uptoBulkEntries entries + 1
  | .held _ => 1
def uptoBulkAll {H : Type} : List (DataW H) → Nat
  | [] => 0
  | d :: r => uptoBulk d + uptoBulkAll r
def uptoBulkEntries {H : Type} : List (Lit × DataW H) → Nat
  | [] => 0
  | x :: r => uptoBulkEntry x + uptoBulkEntries r
def uptoBulkEntry {H : Type} : Lit × DataW H → Nat
  | (.string bytes, d) => bytes.length + uptoBulk d + 1
  | (_, d) => uptoBulk d + 1
 end
def uptoSmall : (H : Type) → List (DataW H) → Bool := fun _ ds => decide (uptoBulkAll ds ≤ 1048576)
def OpenSpec.upto (s : _root_.Go.ChangeSpec) : _root_.Go.OpenSpec := { _root_.Go.OpenSpec.ofChange s with cond := some uptoSmall }

/-- 'podestalaw05.RuleFinds', WHERE WHAT IT READS IS OF BULK AT MOST 1048576: true; the input reads as it did. -/
def ruleFindsUptoRow : OpenClaim := { program := "ytadolbhmdimbkaa", sum := "a0aa630cfdbb7bc039906415f84fb9c162e184bfd66485f9d83a7249b3e37d72", func := "podesta/podestalaw05.RuleFinds", spec := "ruleFinds", inPlace := ["slices.overlaps[podesta/api.Rule]"], unfollowed := true, recurses := true, apart := false, narrowed := true }
def RuleFindsUptoSaid : Prop := ruleFindsUptoRow.holds Try.pinned (OpenSpec.upto ruleFindsSpec)

/-- 'podestalaw05.RuleOrder', WHERE WHAT IT READS IS OF BULK AT MOST 1048576: true; the input reads as it did. -/
def ruleOrderUptoRow : OpenClaim := { program := "ytadolbhmdimbkaa", sum := "a0aa630cfdbb7bc039906415f84fb9c162e184bfd66485f9d83a7249b3e37d72", func := "podesta/podestalaw05.RuleOrder", spec := "ruleOrder", inPlace := ["slices.overlaps[podesta/api.Rule]"], unfollowed := true, recurses := true, apart := false, narrowed := true }
def RuleOrderUptoSaid : Prop := ruleOrderUptoRow.holds Try.pinned (OpenSpec.upto ruleOrderSpec)

/-- 'podestalaw05.RulePairs', WHERE WHAT IT READS IS OF BULK AT MOST 1048576: true; the input reads as it did. -/
def rulePairsUptoRow : OpenClaim := { program := "ytadolbhmdimbkaa", sum := "a0aa630cfdbb7bc039906415f84fb9c162e184bfd66485f9d83a7249b3e37d72", func := "podesta/podestalaw05.RulePairs", spec := "rulePairs", inPlace := ["slices.overlaps[podesta/api.Rule]"], unfollowed := true, recurses := true, apart := false, narrowed := true }
def RulePairsUptoSaid : Prop := rulePairsUptoRow.holds Try.pinned (OpenSpec.upto rulePairsSpec)

/-- 'podestalaw05.RuleSame', WHERE WHAT IT READS IS OF BULK AT MOST 1048576: true; the input reads as it did. -/
def ruleSameUptoRow : OpenClaim := { program := "ytadolbhmdimbkaa", sum := "a0aa630cfdbb7bc039906415f84fb9c162e184bfd66485f9d83a7249b3e37d72", func := "podesta/podestalaw05.RuleSame", spec := "ruleSame", inPlace := ["slices.overlaps[podesta/api.Rule]"], unfollowed := true, recurses := true, apart := false, narrowed := true }
def RuleSameUptoSaid : Prop := ruleSameUptoRow.holds Try.pinned (OpenSpec.upto ruleSameSpec)

/-- 'podestalaw05.RuleJoins', WHERE WHAT IT READS IS OF BULK AT MOST 1048576: true; the input reads as it did. -/
def ruleJoinsUptoRow : OpenClaim := { program := "ytadolbhmdimbkaa", sum := "a0aa630cfdbb7bc039906415f84fb9c162e184bfd66485f9d83a7249b3e37d72", func := "podesta/podestalaw05.RuleJoins", spec := "ruleJoins", inPlace := ["slices.overlaps[podesta/api.Rule]"], unfollowed := true, recurses := true, apart := false, narrowed := true }
def RuleJoinsUptoSaid : Prop := ruleJoinsUptoRow.holds Try.pinned (OpenSpec.upto ruleJoinsSpec)

/-- 'podestalaw05.RuleOwn', WHERE WHAT IT READS IS OF BULK AT MOST 1048576: true; the input reads as it did. -/
def ruleOwnUptoRow : OpenClaim := { program := "ytadolbhmdimbkaa", sum := "a0aa630cfdbb7bc039906415f84fb9c162e184bfd66485f9d83a7249b3e37d72", func := "podesta/podestalaw05.RuleOwn", spec := "ruleOwn", inPlace := ["slices.overlaps[podesta/api.Rule]"], unfollowed := true, recurses := true, apart := false, narrowed := true }
def RuleOwnUptoSaid : Prop := ruleOwnUptoRow.holds Try.pinned (OpenSpec.upto ruleOwnSpec)

/-- 'podestalaw05.RuleTables', WHERE WHAT IT READS IS OF BULK AT MOST 1048576: true; the input reads as it did. -/
def ruleTablesUptoRow : OpenClaim := { program := "ytadolbhmdimbkaa", sum := "a0aa630cfdbb7bc039906415f84fb9c162e184bfd66485f9d83a7249b3e37d72", func := "podesta/podestalaw05.RuleTables", spec := "ruleTables", inPlace := ["slices.overlaps[podesta/api.Rule]"], unfollowed := true, recurses := true, apart := false, narrowed := true }
def RuleTablesUptoSaid : Prop := ruleTablesUptoRow.holds Try.pinned (OpenSpec.upto ruleTablesSpec)

end Rows
end Go.Proofs.Ytadolbhmdimbkaa
