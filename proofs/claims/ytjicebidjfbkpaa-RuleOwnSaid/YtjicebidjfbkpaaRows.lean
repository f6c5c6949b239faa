/-
  No cell of these rows narrows 'for every input' (looked for: loops, veiled, ifaces, maps, wideKeys, modest, calm, conditions, laid).
  DERIVED. THE GIVEN ROWS OF THIS SEAT. 3 by the template 'for every input the law returns true; each argument reads behind the call as it read before'; 0 by the template 'total and deterministic' (their statements: YtjicebidjfbkpaaTotals.lean).
  GIVEN WITH THE SEED: the statements are not yours to turn. If you find one false, say at which input.
  Laid BY PROGRAM, IN A SANDBOX (cutbox-rows.mjs): the forced cells as the released guide's own fill.sh prints them over the translation f4d885a681c5c2c3… (all of the seat's roots in one cut). By AI agents, Wed Nov 11 2026. No macro, syntax, notation, axiom, sorry.
-/
import Derived.Test.YtjicebidjfbkpaaChecked
import GoSem.Claim
import GoSem.ClaimJoined
import GoSem.ClaimMapViews
import Derived.JoinedTies
import Derived.KernelRfl
namespace Go.Proofs.Ytjicebidjfbkpaa
/- THE CELL 'sum', in the pinned program and in every row, IS THE sha256 OF THE DUMP (.gsa) THAT YtjicebidjfbkpaaProg.lean LOADS. Nothing in Lean hashes anything: it is a label: what it is worth is what the hold of that sum in a sandbox is worth. -/
noncomputable def Try.pinned : Pinned := { name := "ytjicebidjfbkpaa", sum := "f4d885a681c5c2c37b293c9a24d8451df6d673bfaeafb7b2a3925e44cbe3dc9a", checked := Try.checked }
namespace Rows
def none {H : Type} : Left H := { results := [], args := [] }

/-- 'podestalaw05.RuleOwn': WHATEVER THE INPUT: true; the input reads as it did. -/
def ruleOwnSpec : ChangeSpec := { name := "ruleOwn", fn := fun _ => fun
  | [d] => { results := [.lit (.bool true)], args := [d] }
  | _ => none }
def ruleOwnRow : OpenClaim := { program := "ytjicebidjfbkpaa", sum := "f4d885a681c5c2c37b293c9a24d8451df6d673bfaeafb7b2a3925e44cbe3dc9a", func := "podesta/podestalaw05.RuleOwn", spec := "ruleOwn", inPlace := ["slices.overlaps[podesta/api.Rule]"], unfollowed := true, recurses := true, apart := false }
def RuleOwnSaid : Prop := ruleOwnRow.holds Try.pinned (OpenSpec.ofChange ruleOwnSpec)

/-- ITS FALSE NEIGHBOUR: 'it returns false'. Refute it at one input. -/
def ruleOwnWrong : ChangeSpec := { name := "ruleOwn", fn := fun _ => fun
  | [d] => { results := [.lit (.bool false)], args := [d] }
  | _ => none }
def RuleOwnWrongFalsely : Prop := ruleOwnRow.holds Try.pinned (OpenSpec.ofChange ruleOwnWrong)

/-- 'podestalaw06.LapseKeeps': WHATEVER THE INPUT: true; the input reads as it did. -/
def lapseKeepsSpec : ChangeSpec := { name := "lapseKeeps", fn := fun _ => fun
  | [d1, d2] => { results := [.lit (.bool true)], args := [d1, d2] }
  | _ => none }
def lapseKeepsRow : OpenClaim := { program := "ytjicebidjfbkpaa", sum := "f4d885a681c5c2c37b293c9a24d8451df6d673bfaeafb7b2a3925e44cbe3dc9a", func := "podesta/podestalaw06.LapseKeeps", spec := "lapseKeeps", apart := false }
def LapseKeepsSaid : Prop := lapseKeepsRow.holds Try.pinned (OpenSpec.ofChange lapseKeepsSpec)

/-- ITS FALSE NEIGHBOUR: 'it returns false'. Refute it at one input. -/
def lapseKeepsWrong : ChangeSpec := { name := "lapseKeeps", fn := fun _ => fun
  | [d1, d2] => { results := [.lit (.bool false)], args := [d1, d2] }
  | _ => none }
def LapseKeepsWrongFalsely : Prop := lapseKeepsRow.holds Try.pinned (OpenSpec.ofChange lapseKeepsWrong)

/-- 'podestalaw07.ModsKeeps': WHATEVER THE INPUT: true; the input reads as it did. -/
def modsKeepsSpec : ChangeSpec := { name := "modsKeeps", fn := fun _ => fun
  | [d1, d2] => { results := [.lit (.bool true)], args := [d1, d2] }
  | _ => none }
def modsKeepsRow : OpenClaim := { program := "ytjicebidjfbkpaa", sum := "f4d885a681c5c2c37b293c9a24d8451df6d673bfaeafb7b2a3925e44cbe3dc9a", func := "podesta/podestalaw07.ModsKeeps", spec := "modsKeeps", inPlace := ["slices.overlaps[podesta/api.Rule]"], unfollowed := true, recurses := true, apart := false }
def ModsKeepsSaid : Prop := modsKeepsRow.holds Try.pinned (OpenSpec.ofChange modsKeepsSpec)

/-- ITS FALSE NEIGHBOUR: 'it returns false'. Refute it at one input. -/
def modsKeepsWrong : ChangeSpec := { name := "modsKeeps", fn := fun _ => fun
  | [d1, d2] => { results := [.lit (.bool false)], args := [d1, d2] }
  | _ => none }
def ModsKeepsWrongFalsely : Prop := modsKeepsRow.holds Try.pinned (OpenSpec.ofChange modsKeepsWrong)

/- THE SECOND FORM. 'bulk': how many values and letters a reading holds, each counted each time it is reached (what is shared counts as often as it is met; a slice's spare places count too). A statement '..UptoSaid' is the law's where the arguments, and the package variables that the reading takes, are together of bulk at most 1048576: NARROWER than '..Said'. Prove '..Said' where nothing that the law and all that it calls make is longer than what came in: it says more and counts as full. Else prove '..UptoSaid'. A law counts once. -/
mutual
def uptoBulk {H : Type} : DataW H → Nat
  | .lit (.string bytes) => bytes.length + 1
  | .lit _ => 1
  | .nil => 1
  | .ptr d => uptoBulk d + 1
  | .slice elems spare => uptoBulkAll elems + uptoBulkAll spare + 1
  | .agg parts => uptoBulkAll parts + 1
  | .iface _ d => uptoBulk d + 1
  | .map entries => uptoBulkEntries entries + 1
  | .held _ => 1
def uptoBulkAll {H : Type} : List (DataW H) → Nat
  | [] => 0
  | d :: r => uptoBulk d + uptoBulkAll r
def uptoBulkEntries {H : Type} : List (Lit × DataW H) → Nat
  | [] => 0
  | x :: r => uptoBulkEntry x + uptoBulkEntries r
def uptoBulkEntry {H : Type} : Lit × DataW H → Nat
  | (.string bytes, d) => bytes.length + uptoBulk d + 1
  | (_, d) => uptoBulk d + 1
 end
def uptoSmall : (H : Type) → List (DataW H) → Bool := fun _ ds => decide (uptoBulkAll ds ≤ 1048576)
def OpenSpec.upto (s : _root_.Go.ChangeSpec) : _root_.Go.OpenSpec := { _root_.Go.OpenSpec.ofChange s with cond := some uptoSmall }

/-- 'podestalaw05.RuleOwn', WHERE WHAT IT READS IS OF BULK AT MOST 1048576: true; the input reads as it did. -/
def ruleOwnUptoRow : OpenClaim := { program := "ytjicebidjfbkpaa", sum := "f4d885a681c5c2c37b293c9a24d8451df6d673bfaeafb7b2a3925e44cbe3dc9a", func := "podesta/podestalaw05.RuleOwn", spec := "ruleOwn", inPlace := ["slices.overlaps[podesta/api.Rule]"], unfollowed := true, recurses := true, apart := false, narrowed := true }
def RuleOwnUptoSaid : Prop := ruleOwnUptoRow.holds Try.pinned (OpenSpec.upto ruleOwnSpec)

/-- 'podestalaw06.LapseKeeps', WHERE WHAT IT READS IS OF BULK AT MOST 1048576: true; the input reads as it did. -/
def lapseKeepsUptoRow : OpenClaim := { program := "ytjicebidjfbkpaa", sum := "f4d885a681c5c2c37b293c9a24d8451df6d673bfaeafb7b2a3925e44cbe3dc9a", func := "podesta/podestalaw06.LapseKeeps", spec := "lapseKeeps", apart := false, narrowed := true }
def LapseKeepsUptoSaid : Prop := lapseKeepsUptoRow.holds Try.pinned (OpenSpec.upto lapseKeepsSpec)

/-- 'podestalaw07.ModsKeeps', WHERE WHAT IT READS IS OF BULK AT MOST 1048576: true; the input reads as it did. -/
def modsKeepsUptoRow : OpenClaim := { program := "ytjicebidjfbkpaa", sum := "f4d885a681c5c2c37b293c9a24d8451df6d673bfaeafb7b2a3925e44cbe3dc9a", func := "podesta/podestalaw07.ModsKeeps", spec := "modsKeeps", inPlace := ["slices.overlaps[podesta/api.Rule]"], unfollowed := true, recurses := true, apart := false, narrowed := true }
def ModsKeepsUptoSaid : Prop := modsKeepsUptoRow.holds Try.pinned (OpenSpec.upto modsKeepsSpec)

end Rows
end Go.Proofs.Ytjicebidjfbkpaa
