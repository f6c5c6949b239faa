/-
  No cell of these rows narrows 'for every input' (looked for: loops, veiled, ifaces, maps, wideKeys, modest, calm, conditions, laid).
  DERIVED. THE GIVEN ROWS OF THIS SEAT. 5 by the template 'for every input the law returns true; each argument reads behind the call as it read before'; 0 by the template 'total and deterministic' (their statements: YtlfiemphadkimaaTotals.lean).
  GIVEN WITH THE SEED: the statements are not yours to turn. If you find one false, say at which input.
  Laid BY PROGRAM, IN A SANDBOX (cutbox-rows.mjs): the forced cells as the released guide's own fill.sh prints them over the translation 79338141504615c7… (all of the seat's roots in one cut). By AI agents, Wed Nov 11 2026. No macro, syntax, notation, axiom, sorry.
-/
import Derived.Test.YtlfiemphadkimaaChecked
import GoSem.Claim
import GoSem.ClaimJoined
import GoSem.ClaimMapViews
import Derived.JoinedTies
import Derived.KernelRfl
namespace Go.Proofs.Ytlfiemphadkimaa
/- THE CELL 'sum', in the pinned program and in every row, IS THE sha256 OF THE DUMP (.gsa) THAT YtlfiemphadkimaaProg.lean LOADS. Nothing in Lean hashes anything: it is a label: what it is worth is what the hold of that sum in a sandbox is worth. -/
noncomputable def Try.pinned : Pinned := { name := "ytlfiemphadkimaa", sum := "79338141504615c7fe65ff529ec90298836aee43998700a3c88a72a933738541", checked := Try.checked }
namespace Rows
def none {H : Type} : Left H := { results := [], args := [] }

/-- 'podestalaw08.UndoChanges': WHATEVER THE INPUT: true; the input reads as it did. -/
def undoChangesSpec : ChangeSpec := { name := "undoChanges", fn := fun _ => fun
  | [d1, d2, d3] => { results := [.lit (.bool true)], args := [d1, d2, d3] }
  | _ => none }
def undoChangesRow : OpenClaim := { program := "ytlfiemphadkimaa", sum := "79338141504615c7fe65ff529ec90298836aee43998700a3c88a72a933738541", func := "podesta/podestalaw08.UndoChanges", spec := "undoChanges", inPlace := ["slices.overlaps[podesta/api.Rule]"], unfollowed := true, recurses := true, apart := false }
def UndoChangesSaid : Prop := undoChangesRow.holds Try.pinned (OpenSpec.ofChange undoChangesSpec)

/-- ITS FALSE NEIGHBOUR: 'it returns false'. Refute it at one input. -/
def undoChangesWrong : ChangeSpec := { name := "undoChanges", fn := fun _ => fun
  | [d1, d2, d3] => { results := [.lit (.bool false)], args := [d1, d2, d3] }
  | _ => none }
def UndoChangesWrongFalsely : Prop := undoChangesRow.holds Try.pinned (OpenSpec.ofChange undoChangesWrong)

/-- 'podestalaw08.UndoDiffs': WHATEVER THE INPUT: true; the input reads as it did. -/
def undoDiffsSpec : ChangeSpec := { name := "undoDiffs", fn := fun _ => fun
  | [d1, d2] => { results := [.lit (.bool true)], args := [d1, d2] }
  | _ => none }
def undoDiffsRow : OpenClaim := { program := "ytlfiemphadkimaa", sum := "79338141504615c7fe65ff529ec90298836aee43998700a3c88a72a933738541", func := "podesta/podestalaw08.UndoDiffs", spec := "undoDiffs", inPlace := ["slices.overlaps[podesta/api.Rule]"], unfollowed := true, recurses := true, apart := false }
def UndoDiffsSaid : Prop := undoDiffsRow.holds Try.pinned (OpenSpec.ofChange undoDiffsSpec)

/-- ITS FALSE NEIGHBOUR: 'it returns false'. Refute it at one input. -/
def undoDiffsWrong : ChangeSpec := { name := "undoDiffs", fn := fun _ => fun
  | [d1, d2] => { results := [.lit (.bool false)], args := [d1, d2] }
  | _ => none }
def UndoDiffsWrongFalsely : Prop := undoDiffsRow.holds Try.pinned (OpenSpec.ofChange undoDiffsWrong)

/-- 'podestalaw08.UndoAny': WHATEVER THE INPUT: true; the input reads as it did. -/
def undoAnySpec : ChangeSpec := { name := "undoAny", fn := fun _ => fun
  | [d1, d2, d3] => { results := [.lit (.bool true)], args := [d1, d2, d3] }
  | _ => none }
def undoAnyRow : OpenClaim := { program := "ytlfiemphadkimaa", sum := "79338141504615c7fe65ff529ec90298836aee43998700a3c88a72a933738541", func := "podesta/podestalaw08.UndoAny", spec := "undoAny", inPlace := ["slices.overlaps[podesta/api.Rule]"], unfollowed := true, recurses := true, apart := false }
def UndoAnySaid : Prop := undoAnyRow.holds Try.pinned (OpenSpec.ofChange undoAnySpec)

/-- ITS FALSE NEIGHBOUR: 'it returns false'. Refute it at one input. -/
def undoAnyWrong : ChangeSpec := { name := "undoAny", fn := fun _ => fun
  | [d1, d2, d3] => { results := [.lit (.bool false)], args := [d1, d2, d3] }
  | _ => none }
def UndoAnyWrongFalsely : Prop := undoAnyRow.holds Try.pinned (OpenSpec.ofChange undoAnyWrong)

/-- 'podestalaw08.UndoStill': WHATEVER THE INPUT: true; the input reads as it did. -/
def undoStillSpec : ChangeSpec := { name := "undoStill", fn := fun _ => fun
  | [d] => { results := [.lit (.bool true)], args := [d] }
  | _ => none }
def undoStillRow : OpenClaim := { program := "ytlfiemphadkimaa", sum := "79338141504615c7fe65ff529ec90298836aee43998700a3c88a72a933738541", func := "podesta/podestalaw08.UndoStill", spec := "undoStill", inPlace := ["slices.overlaps[podesta/api.Rule]"], unfollowed := true, recurses := true, apart := false }
def UndoStillSaid : Prop := undoStillRow.holds Try.pinned (OpenSpec.ofChange undoStillSpec)

/-- ITS FALSE NEIGHBOUR: 'it returns false'. Refute it at one input. -/
def undoStillWrong : ChangeSpec := { name := "undoStill", fn := fun _ => fun
  | [d] => { results := [.lit (.bool false)], args := [d] }
  | _ => none }
def UndoStillWrongFalsely : Prop := undoStillRow.holds Try.pinned (OpenSpec.ofChange undoStillWrong)

/-- 'podestalaw08.UndoTwice': WHATEVER THE INPUT: true; the input reads as it did. -/
def undoTwiceSpec : ChangeSpec := { name := "undoTwice", fn := fun _ => fun
  | [d1, d2] => { results := [.lit (.bool true)], args := [d1, d2] }
  | _ => none }
def undoTwiceRow : OpenClaim := { program := "ytlfiemphadkimaa", sum := "79338141504615c7fe65ff529ec90298836aee43998700a3c88a72a933738541", func := "podesta/podestalaw08.UndoTwice", spec := "undoTwice", inPlace := ["slices.overlaps[podesta/api.Rule]"], unfollowed := true, recurses := true, apart := false }
def UndoTwiceSaid : Prop := undoTwiceRow.holds Try.pinned (OpenSpec.ofChange undoTwiceSpec)

/-- ITS FALSE NEIGHBOUR: 'it returns false'. Refute it at one input. -/
def undoTwiceWrong : ChangeSpec := { name := "undoTwice", fn := fun _ => fun
  | [d1, d2] => { results := [.lit (.bool false)], args := [d1, d2] }
  | _ => none }
def UndoTwiceWrongFalsely : Prop := undoTwiceRow.holds Try.pinned (OpenSpec.ofChange undoTwiceWrong)

/- THE SECOND FORM. 'bulk': how many values and letters a reading holds, each counted each time it is reached (what is shared counts as often as it is met; a slice's spare places count too). A statement '..UptoSaid' is the law's where the arguments, and the package variables that the reading takes, are together of bulk at most 1048576: NARROWER than '..Said'. Prove '..Said' where nothing that the law and all that it calls make is longer than what came in: it says more and counts as full. Else prove '..UptoSaid'. A law counts once. -/
mutual
def uptoBulk {H : Type} : DataW H → Nat
  | .lit (.string bytes) => bytes.length + 1
  | .lit _ => 1
  | .nil => 1
  | .ptr d => uptoBulk d + 1
  | .slice elems spare => uptoBulkAll elems + uptoBulkAll spare + 1
  | .agg parts => uptoBulkAll parts + 1
  | .iface _ d => uptoBulk d + 1
  | .map entries => uptoBulkEntries entries + 1
  | .held _ => 1
def uptoBulkAll {H : Type} : List (DataW H) → Nat
  | [] => 0
  | d :: r => uptoBulk d + uptoBulkAll r
def uptoBulkEntries {H : Type} : List (Lit × DataW H) → Nat
  | [] => 0
  | x :: r => uptoBulkEntry x + uptoBulkEntries r
def uptoBulkEntry {H : Type} : Lit × DataW H → Nat
  | (.string bytes, d) => bytes.length + uptoBulk d + 1
  | (_, d) => uptoBulk d + 1
 end
def uptoSmall : (H : Type) → List (DataW H) → Bool := fun _ ds => decide (uptoBulkAll ds ≤ 1048576)
def OpenSpec.upto (s : _root_.Go.ChangeSpec) : _root_.Go.OpenSpec := { _root_.Go.OpenSpec.ofChange s with cond := some uptoSmall }

/-- 'podestalaw08.UndoChanges', WHERE WHAT IT READS IS OF BULK AT MOST 1048576: true; the input reads as it did. -/
def undoChangesUptoRow : OpenClaim := { program := "ytlfiemphadkimaa", sum := "79338141504615c7fe65ff529ec90298836aee43998700a3c88a72a933738541", func := "podesta/podestalaw08.UndoChanges", spec := "undoChanges", inPlace := ["slices.overlaps[podesta/api.Rule]"], unfollowed := true, recurses := true, apart := false, narrowed := true }
def UndoChangesUptoSaid : Prop := undoChangesUptoRow.holds Try.pinned (OpenSpec.upto undoChangesSpec)

/-- 'podestalaw08.UndoDiffs', WHERE WHAT IT READS IS OF BULK AT MOST 1048576: true; the input reads as it did. -/
def undoDiffsUptoRow : OpenClaim := { program := "ytlfiemphadkimaa", sum := "79338141504615c7fe65ff529ec90298836aee43998700a3c88a72a933738541", func := "podesta/podestalaw08.UndoDiffs", spec := "undoDiffs", inPlace := ["slices.overlaps[podesta/api.Rule]"], unfollowed := true, recurses := true, apart := false, narrowed := true }
def UndoDiffsUptoSaid : Prop := undoDiffsUptoRow.holds Try.pinned (OpenSpec.upto undoDiffsSpec)

/-- 'podestalaw08.UndoAny', WHERE WHAT IT READS IS OF BULK AT MOST 1048576: true; the input reads as it did. -/
def undoAnyUptoRow : OpenClaim := { program := "ytlfiemphadkimaa", sum := "79338141504615c7fe65ff529ec90298836aee43998700a3c88a72a933738541", func := "podesta/podestalaw08.UndoAny", spec := "undoAny", inPlace := ["slices.overlaps[podesta/api.Rule]"], unfollowed := true, recurses := true, apart := false, narrowed := true }
def UndoAnyUptoSaid : Prop := undoAnyUptoRow.holds Try.pinned (OpenSpec.upto undoAnySpec)

/-- 'podestalaw08.UndoStill', WHERE WHAT IT READS IS OF BULK AT MOST 1048576: true; the input reads as it did. -/
def undoStillUptoRow : OpenClaim := { program := "ytlfiemphadkimaa", sum := "79338141504615c7fe65ff529ec90298836aee43998700a3c88a72a933738541", func := "podesta/podestalaw08.UndoStill", spec := "undoStill", inPlace := ["slices.overlaps[podesta/api.Rule]"], unfollowed := true, recurses := true, apart := false, narrowed := true }
def UndoStillUptoSaid : Prop := undoStillUptoRow.holds Try.pinned (OpenSpec.upto undoStillSpec)

/-- 'podestalaw08.UndoTwice', WHERE WHAT IT READS IS OF BULK AT MOST 1048576: true; the input reads as it did. -/
def undoTwiceUptoRow : OpenClaim := { program := "ytlfiemphadkimaa", sum := "79338141504615c7fe65ff529ec90298836aee43998700a3c88a72a933738541", func := "podesta/podestalaw08.UndoTwice", spec := "undoTwice", inPlace := ["slices.overlaps[podesta/api.Rule]"], unfollowed := true, recurses := true, apart := false, narrowed := true }
def UndoTwiceUptoSaid : Prop := undoTwiceUptoRow.holds Try.pinned (OpenSpec.upto undoTwiceSpec)

end Rows
end Go.Proofs.Ytlfiemphadkimaa
