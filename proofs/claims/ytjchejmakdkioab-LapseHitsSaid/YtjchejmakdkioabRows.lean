/-
  No cell of these rows narrows 'for every input' (looked for: loops, veiled, ifaces, maps, wideKeys, modest, calm, conditions, laid).
  DERIVED. THE GIVEN ROWS OF THIS SEAT. 8 by the template 'for every input the law returns true; each argument reads behind the call as it read before'; 0 by the template 'total and deterministic' (their statements: YtjchejmakdkioabTotals.lean).
  GIVEN WITH THE SEED: the statements are not yours to turn. If you find one false, say at which input.
  Laid BY PROGRAM, IN A SANDBOX (cutbox-rows.mjs): the forced cells as the released guide's own fill.sh prints them over the translation 85ef38764dc01cfa… (all of the seat's roots in one cut). By AI agents, Wed Nov 11 2026. No macro, syntax, notation, axiom, sorry.
-/
import Derived.Test.YtjchejmakdkioabChecked
import GoSem.Claim
import GoSem.ClaimJoined
import GoSem.ClaimMapViews
import Derived.JoinedTies
import Derived.KernelRfl
namespace Go.Proofs.Ytjchejmakdkioab
/- THE CELL 'sum', in the pinned program and in every row, IS THE sha256 OF THE DUMP (.gsa) THAT YtjchejmakdkioabProg.lean LOADS. Nothing in Lean hashes anything: it is a label: what it is worth is what the hold of that sum in a sandbox is worth. -/
noncomputable def Try.pinned : Pinned := { name := "ytjchejmakdkioab", sum := "85ef38764dc01cfa3df5d8479ebfd56e7f4acc93b850a82e4f2460a6f206ff3b", checked := Try.checked }
namespace Rows
def none {H : Type} : Left H := { results := [], args := [] }

/-- 'podestalaw12.TopoBack': WHATEVER THE INPUT: true; the input reads as it did. -/
def topoBackSpec : ChangeSpec := { name := "topoBack", fn := fun _ => fun
  | [d1, d2] => { results := [.lit (.bool true)], args := [d1, d2] }
  | _ => none }
def topoBackRow : OpenClaim := { program := "ytjchejmakdkioab", sum := "85ef38764dc01cfa3df5d8479ebfd56e7f4acc93b850a82e4f2460a6f206ff3b", func := "podesta/podestalaw12.TopoBack", spec := "topoBack", plainKeys := false, apart := false }
def TopoBackSaid : Prop := topoBackRow.holds Try.pinned (OpenSpec.ofChange topoBackSpec)

/-- ITS FALSE NEIGHBOUR: 'it returns false'. Refute it at one input. -/
def topoBackWrong : ChangeSpec := { name := "topoBack", fn := fun _ => fun
  | [d1, d2] => { results := [.lit (.bool false)], args := [d1, d2] }
  | _ => none }
def TopoBackWrongFalsely : Prop := topoBackRow.holds Try.pinned (OpenSpec.ofChange topoBackWrong)

/-- 'podestalaw12.TopoTwice': WHATEVER THE INPUT: true; the input reads as it did. -/
def topoTwiceSpec : ChangeSpec := { name := "topoTwice", fn := fun _ => fun
  | [d1, d2, d3] => { results := [.lit (.bool true)], args := [d1, d2, d3] }
  | _ => none }
def topoTwiceRow : OpenClaim := { program := "ytjchejmakdkioab", sum := "85ef38764dc01cfa3df5d8479ebfd56e7f4acc93b850a82e4f2460a6f206ff3b", func := "podesta/podestalaw12.TopoTwice", spec := "topoTwice", plainKeys := false, apart := false }
def TopoTwiceSaid : Prop := topoTwiceRow.holds Try.pinned (OpenSpec.ofChange topoTwiceSpec)

/-- ITS FALSE NEIGHBOUR: 'it returns false'. Refute it at one input. -/
def topoTwiceWrong : ChangeSpec := { name := "topoTwice", fn := fun _ => fun
  | [d1, d2, d3] => { results := [.lit (.bool false)], args := [d1, d2, d3] }
  | _ => none }
def TopoTwiceWrongFalsely : Prop := topoTwiceRow.holds Try.pinned (OpenSpec.ofChange topoTwiceWrong)

/-- 'podestalaw06.LapseHits': WHATEVER THE INPUT: true; the input reads as it did. -/
def lapseHitsSpec : ChangeSpec := { name := "lapseHits", fn := fun _ => fun
  | [d1, d2] => { results := [.lit (.bool true)], args := [d1, d2] }
  | _ => none }
def lapseHitsRow : OpenClaim := { program := "ytjchejmakdkioab", sum := "85ef38764dc01cfa3df5d8479ebfd56e7f4acc93b850a82e4f2460a6f206ff3b", func := "podesta/podestalaw06.LapseHits", spec := "lapseHits", plainKeys := false, apart := false }
def LapseHitsSaid : Prop := lapseHitsRow.holds Try.pinned (OpenSpec.ofChange lapseHitsSpec)

/-- ITS FALSE NEIGHBOUR: 'it returns false'. Refute it at one input. -/
def lapseHitsWrong : ChangeSpec := { name := "lapseHits", fn := fun _ => fun
  | [d1, d2] => { results := [.lit (.bool false)], args := [d1, d2] }
  | _ => none }
def LapseHitsWrongFalsely : Prop := lapseHitsRow.holds Try.pinned (OpenSpec.ofChange lapseHitsWrong)

/-- 'podestalaw06.LapseKeeps': WHATEVER THE INPUT: true; the input reads as it did. -/
def lapseKeepsSpec : ChangeSpec := { name := "lapseKeeps", fn := fun _ => fun
  | [d1, d2] => { results := [.lit (.bool true)], args := [d1, d2] }
  | _ => none }
def lapseKeepsRow : OpenClaim := { program := "ytjchejmakdkioab", sum := "85ef38764dc01cfa3df5d8479ebfd56e7f4acc93b850a82e4f2460a6f206ff3b", func := "podesta/podestalaw06.LapseKeeps", spec := "lapseKeeps", plainKeys := false, apart := false }
def LapseKeepsSaid : Prop := lapseKeepsRow.holds Try.pinned (OpenSpec.ofChange lapseKeepsSpec)

/-- ITS FALSE NEIGHBOUR: 'it returns false'. Refute it at one input. -/
def lapseKeepsWrong : ChangeSpec := { name := "lapseKeeps", fn := fun _ => fun
  | [d1, d2] => { results := [.lit (.bool false)], args := [d1, d2] }
  | _ => none }
def LapseKeepsWrongFalsely : Prop := lapseKeepsRow.holds Try.pinned (OpenSpec.ofChange lapseKeepsWrong)

/-- 'podestalaw04.ActRuns': WHATEVER THE INPUT: true; the input reads as it did. -/
def actRunsSpec : ChangeSpec := { name := "actRuns", fn := fun _ => fun
  | [d1, d2] => { results := [.lit (.bool true)], args := [d1, d2] }
  | _ => none }
def actRunsRow : OpenClaim := { program := "ytjchejmakdkioab", sum := "85ef38764dc01cfa3df5d8479ebfd56e7f4acc93b850a82e4f2460a6f206ff3b", func := "podesta/podestalaw04.ActRuns", spec := "actRuns", unfollowed := true, recurses := true, plainKeys := false, apart := false }
def ActRunsSaid : Prop := actRunsRow.holds Try.pinned (OpenSpec.ofChange actRunsSpec)

/-- ITS FALSE NEIGHBOUR: 'it returns false'. Refute it at one input. -/
def actRunsWrong : ChangeSpec := { name := "actRuns", fn := fun _ => fun
  | [d1, d2] => { results := [.lit (.bool false)], args := [d1, d2] }
  | _ => none }
def ActRunsWrongFalsely : Prop := actRunsRow.holds Try.pinned (OpenSpec.ofChange actRunsWrong)

/-- 'podestalaw04.ActJoins': WHATEVER THE INPUT: true; the input reads as it did. -/
def actJoinsSpec : ChangeSpec := { name := "actJoins", fn := fun _ => fun
  | [d1, d2, d3] => { results := [.lit (.bool true)], args := [d1, d2, d3] }
  | _ => none }
def actJoinsRow : OpenClaim := { program := "ytjchejmakdkioab", sum := "85ef38764dc01cfa3df5d8479ebfd56e7f4acc93b850a82e4f2460a6f206ff3b", func := "podesta/podestalaw04.ActJoins", spec := "actJoins", unfollowed := true, recurses := true, plainKeys := false, apart := false }
def ActJoinsSaid : Prop := actJoinsRow.holds Try.pinned (OpenSpec.ofChange actJoinsSpec)

/-- ITS FALSE NEIGHBOUR: 'it returns false'. Refute it at one input. -/
def actJoinsWrong : ChangeSpec := { name := "actJoins", fn := fun _ => fun
  | [d1, d2, d3] => { results := [.lit (.bool false)], args := [d1, d2, d3] }
  | _ => none }
def ActJoinsWrongFalsely : Prop := actJoinsRow.holds Try.pinned (OpenSpec.ofChange actJoinsWrong)

/-- 'podestalaw04.ActPlain': WHATEVER THE INPUT: true; the input reads as it did. -/
def actPlainSpec : ChangeSpec := { name := "actPlain", fn := fun _ => fun
  | [d1, d2, d3] => { results := [.lit (.bool true)], args := [d1, d2, d3] }
  | _ => none }
def actPlainRow : OpenClaim := { program := "ytjchejmakdkioab", sum := "85ef38764dc01cfa3df5d8479ebfd56e7f4acc93b850a82e4f2460a6f206ff3b", func := "podesta/podestalaw04.ActPlain", spec := "actPlain", unfollowed := true, recurses := true, plainKeys := false, apart := false }
def ActPlainSaid : Prop := actPlainRow.holds Try.pinned (OpenSpec.ofChange actPlainSpec)

/-- ITS FALSE NEIGHBOUR: 'it returns false'. Refute it at one input. -/
def actPlainWrong : ChangeSpec := { name := "actPlain", fn := fun _ => fun
  | [d1, d2, d3] => { results := [.lit (.bool false)], args := [d1, d2, d3] }
  | _ => none }
def ActPlainWrongFalsely : Prop := actPlainRow.holds Try.pinned (OpenSpec.ofChange actPlainWrong)

/-- 'podestalaw04.ActSame': WHATEVER THE INPUT: true; the input reads as it did. -/
def actSameSpec : ChangeSpec := { name := "actSame", fn := fun _ => fun
  | [d1, d2, d3] => { results := [.lit (.bool true)], args := [d1, d2, d3] }
  | _ => none }
def actSameRow : OpenClaim := { program := "ytjchejmakdkioab", sum := "85ef38764dc01cfa3df5d8479ebfd56e7f4acc93b850a82e4f2460a6f206ff3b", func := "podesta/podestalaw04.ActSame", spec := "actSame", unfollowed := true, recurses := true, plainKeys := false, apart := false }
def ActSameSaid : Prop := actSameRow.holds Try.pinned (OpenSpec.ofChange actSameSpec)

/-- ITS FALSE NEIGHBOUR: 'it returns false'. Refute it at one input. -/
def actSameWrong : ChangeSpec := { name := "actSame", fn := fun _ => fun
  | [d1, d2, d3] => { results := [.lit (.bool false)], args := [d1, d2, d3] }
  | _ => none }
def ActSameWrongFalsely : Prop := actSameRow.holds Try.pinned (OpenSpec.ofChange actSameWrong)

/- THE SECOND FORM. 'bulk': how many values and letters a reading holds, each counted each time it is reached (what is shared counts as often as it is met; a slice's spare places count too). A statement '..UptoSaid' is the law's where the arguments, and the package variables that the reading takes, are together of bulk at most 1048576: NARROWER than '..Said'. Prove '..Said' where nothing that the law and all that it calls make is longer than what came in: it says more and counts as full. Else prove '..UptoSaid'. A law counts once. -/
mutual
def uptoBulk {H : Type} : DataW H → Nat
  | .lit (.string bytes) => bytes.length + 1
  | .lit _ => 1
  | .nil => 1
  | .ptr d => uptoBulk d + 1
  | .slice elems spare => uptoBulkAll elems + uptoBulkAll spare + 1
  | .agg parts => uptoBulkAll parts + 1
  | .iface _ d => uptoBulk d + 1
  | .map entries => uptoBulkEntries entries + 1
  | .held _ => 1
def uptoBulkAll {H : Type} : List (DataW H) → Nat
  | [] => 0
  | d :: r => uptoBulk d + uptoBulkAll r
def uptoBulkEntries {H : Type} : List (Lit × DataW H) → Nat
  | [] => 0
  | x :: r => uptoBulkEntry x + uptoBulkEntries r
def uptoBulkEntry {H : Type} : Lit × DataW H → Nat
  | (.string bytes, d) => bytes.length + uptoBulk d + 1
  | (_, d) => uptoBulk d + 1
 end
def uptoSmall : (H : Type) → List (DataW H) → Bool := fun _ ds => decide (uptoBulkAll ds ≤ 1048576)
def OpenSpec.upto (s : _root_.Go.ChangeSpec) : _root_.Go.OpenSpec := { _root_.Go.OpenSpec.ofChange s with cond := some uptoSmall }

/-- 'podestalaw12.TopoBack', WHERE WHAT IT READS IS OF BULK AT MOST 1048576: true; the input reads as it did. -/
def topoBackUptoRow : OpenClaim := { program := "ytjchejmakdkioab", sum := "85ef38764dc01cfa3df5d8479ebfd56e7f4acc93b850a82e4f2460a6f206ff3b", func := "podesta/podestalaw12.TopoBack", spec := "topoBack", plainKeys := false, apart := false, narrowed := true }
def TopoBackUptoSaid : Prop := topoBackUptoRow.holds Try.pinned (OpenSpec.upto topoBackSpec)

/-- 'podestalaw12.TopoTwice', WHERE WHAT IT READS IS OF BULK AT MOST 1048576: true; the input reads as it did. -/
def topoTwiceUptoRow : OpenClaim := { program := "ytjchejmakdkioab", sum := "85ef38764dc01cfa3df5d8479ebfd56e7f4acc93b850a82e4f2460a6f206ff3b", func := "podesta/podestalaw12.TopoTwice", spec := "topoTwice", plainKeys := false, apart := false, narrowed := true }
def TopoTwiceUptoSaid : Prop := topoTwiceUptoRow.holds Try.pinned (OpenSpec.upto topoTwiceSpec)

/-- 'podestalaw06.LapseHits', WHERE WHAT IT READS IS OF BULK AT MOST 1048576: true; the input reads as it did. -/
def lapseHitsUptoRow : OpenClaim := { program := "ytjchejmakdkioab", sum := "85ef38764dc01cfa3df5d8479ebfd56e7f4acc93b850a82e4f2460a6f206ff3b", func := "podesta/podestalaw06.LapseHits", spec := "lapseHits", plainKeys := false, apart := false, narrowed := true }
def LapseHitsUptoSaid : Prop := lapseHitsUptoRow.holds Try.pinned (OpenSpec.upto lapseHitsSpec)

/-- 'podestalaw06.LapseKeeps', WHERE WHAT IT READS IS OF BULK AT MOST 1048576: true; the input reads as it did. -/
def lapseKeepsUptoRow : OpenClaim := { program := "ytjchejmakdkioab", sum := "85ef38764dc01cfa3df5d8479ebfd56e7f4acc93b850a82e4f2460a6f206ff3b", func := "podesta/podestalaw06.LapseKeeps", spec := "lapseKeeps", plainKeys := false, apart := false, narrowed := true }
def LapseKeepsUptoSaid : Prop := lapseKeepsUptoRow.holds Try.pinned (OpenSpec.upto lapseKeepsSpec)

/-- 'podestalaw04.ActRuns', WHERE WHAT IT READS IS OF BULK AT MOST 1048576: true; the input reads as it did. -/
def actRunsUptoRow : OpenClaim := { program := "ytjchejmakdkioab", sum := "85ef38764dc01cfa3df5d8479ebfd56e7f4acc93b850a82e4f2460a6f206ff3b", func := "podesta/podestalaw04.ActRuns", spec := "actRuns", unfollowed := true, recurses := true, plainKeys := false, apart := false, narrowed := true }
def ActRunsUptoSaid : Prop := actRunsUptoRow.holds Try.pinned (OpenSpec.upto actRunsSpec)

/-- 'podestalaw04.ActJoins', WHERE WHAT IT READS IS OF BULK AT MOST 1048576: true; the input reads as it did. -/
def actJoinsUptoRow : OpenClaim := { program := "ytjchejmakdkioab", sum := "85ef38764dc01cfa3df5d8479ebfd56e7f4acc93b850a82e4f2460a6f206ff3b", func := "podesta/podestalaw04.ActJoins", spec := "actJoins", unfollowed := true, recurses := true, plainKeys := false, apart := false, narrowed := true }
def ActJoinsUptoSaid : Prop := actJoinsUptoRow.holds Try.pinned (OpenSpec.upto actJoinsSpec)

/-- 'podestalaw04.ActPlain', WHERE WHAT IT READS IS OF BULK AT MOST 1048576: true; the input reads as it did. -/
def actPlainUptoRow : OpenClaim := { program := "ytjchejmakdkioab", sum := "85ef38764dc01cfa3df5d8479ebfd56e7f4acc93b850a82e4f2460a6f206ff3b", func := "podesta/podestalaw04.ActPlain", spec := "actPlain", unfollowed := true, recurses := true, plainKeys := false, apart := false, narrowed := true }
def ActPlainUptoSaid : Prop := actPlainUptoRow.holds Try.pinned (OpenSpec.upto actPlainSpec)

/-- 'podestalaw04.ActSame', WHERE WHAT IT READS IS OF BULK AT MOST 1048576: true; the input reads as it did. -/
def actSameUptoRow : OpenClaim := { program := "ytjchejmakdkioab", sum := "85ef38764dc01cfa3df5d8479ebfd56e7f4acc93b850a82e4f2460a6f206ff3b", func := "podesta/podestalaw04.ActSame", spec := "actSame", unfollowed := true, recurses := true, plainKeys := false, apart := false, narrowed := true }
def ActSameUptoSaid : Prop := actSameUptoRow.holds Try.pinned (OpenSpec.upto actSameSpec)

end Rows
end Go.Proofs.Ytjchejmakdkioab
