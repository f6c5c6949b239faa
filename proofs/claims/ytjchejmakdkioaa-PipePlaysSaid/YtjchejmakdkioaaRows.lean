/-
  No cell of these rows narrows 'for every input' (looked for: loops, veiled, ifaces, maps, wideKeys, modest, calm, conditions, laid).
  DERIVED. THE GIVEN ROWS OF THIS SEAT. 12 by the template 'for every input the law returns true; each argument reads behind the call as it read before'; 0 by the template 'total and deterministic' (their statements: YtjchejmakdkioaaTotals.lean).
  GIVEN WITH THE SEED: the statements are not yours to turn. If you find one false, say at which input.
  Laid BY PROGRAM, IN A SANDBOX (cutbox-rows.mjs): the forced cells as the released guide's own fill.sh prints them over the translation 9e27d61f1c478d69… (all of the seat's roots in one cut). By AI agents, Wed Nov 11 2026. No macro, syntax, notation, axiom, sorry.
-/
import Derived.Test.YtjchejmakdkioaaChecked
import GoSem.Claim
import GoSem.ClaimJoined
import GoSem.ClaimMapViews
import Derived.JoinedTies
import Derived.KernelRfl
namespace Go.Proofs.Ytjchejmakdkioaa
/- THE CELL 'sum', in the pinned program and in every row, IS THE sha256 OF THE DUMP (.gsa) THAT YtjchejmakdkioaaProg.lean LOADS. Nothing in Lean hashes anything: it is a label: what it is worth is what the hold of that sum in a sandbox is worth. -/
noncomputable def Try.pinned : Pinned := { name := "ytjchejmakdkioaa", sum := "9e27d61f1c478d696704e2da8ff4e5489958fb8cc627b80db6a4b859fae13727", checked := Try.checked }
namespace Rows
def none {H : Type} : Left H := { results := [], args := [] }

/-- 'podestalaw21.BandOf': WHATEVER THE INPUT: true; the input reads as it did. -/
def bandOfSpec : ChangeSpec := { name := "bandOf", fn := fun _ => fun
  | [d1, d2] => { results := [.lit (.bool true)], args := [d1, d2] }
  | _ => none }
def bandOfRow : OpenClaim := { program := "ytjchejmakdkioaa", sum := "9e27d61f1c478d696704e2da8ff4e5489958fb8cc627b80db6a4b859fae13727", func := "podesta/podestalaw21.BandOf", spec := "bandOf", plainKeys := false, apart := false }
def BandOfSaid : Prop := bandOfRow.holds Try.pinned (OpenSpec.ofChange bandOfSpec)

/-- ITS FALSE NEIGHBOUR: 'it returns false'. Refute it at one input. -/
def bandOfWrong : ChangeSpec := { name := "bandOf", fn := fun _ => fun
  | [d1, d2] => { results := [.lit (.bool false)], args := [d1, d2] }
  | _ => none }
def BandOfWrongFalsely : Prop := bandOfRow.holds Try.pinned (OpenSpec.ofChange bandOfWrong)

/-- 'podestalaw21.BandApart': WHATEVER THE INPUT: true; the input reads as it did. -/
def bandApartSpec : ChangeSpec := { name := "bandApart", fn := fun _ => fun
  | [d1, d2, d3] => { results := [.lit (.bool true)], args := [d1, d2, d3] }
  | _ => none }
def bandApartRow : OpenClaim := { program := "ytjchejmakdkioaa", sum := "9e27d61f1c478d696704e2da8ff4e5489958fb8cc627b80db6a4b859fae13727", func := "podesta/podestalaw21.BandApart", spec := "bandApart", plainKeys := false, apart := false }
def BandApartSaid : Prop := bandApartRow.holds Try.pinned (OpenSpec.ofChange bandApartSpec)

/-- ITS FALSE NEIGHBOUR: 'it returns false'. Refute it at one input. -/
def bandApartWrong : ChangeSpec := { name := "bandApart", fn := fun _ => fun
  | [d1, d2, d3] => { results := [.lit (.bool false)], args := [d1, d2, d3] }
  | _ => none }
def BandApartWrongFalsely : Prop := bandApartRow.holds Try.pinned (OpenSpec.ofChange bandApartWrong)

/-- 'podestalaw21.BandIn': WHATEVER THE INPUT: true; the input reads as it did. -/
def bandInSpec : ChangeSpec := { name := "bandIn", fn := fun _ => fun
  | [d1, d2] => { results := [.lit (.bool true)], args := [d1, d2] }
  | _ => none }
def bandInRow : OpenClaim := { program := "ytjchejmakdkioaa", sum := "9e27d61f1c478d696704e2da8ff4e5489958fb8cc627b80db6a4b859fae13727", func := "podesta/podestalaw21.BandIn", spec := "bandIn", plainKeys := false, apart := false }
def BandInSaid : Prop := bandInRow.holds Try.pinned (OpenSpec.ofChange bandInSpec)

/-- ITS FALSE NEIGHBOUR: 'it returns false'. Refute it at one input. -/
def bandInWrong : ChangeSpec := { name := "bandIn", fn := fun _ => fun
  | [d1, d2] => { results := [.lit (.bool false)], args := [d1, d2] }
  | _ => none }
def BandInWrongFalsely : Prop := bandInRow.holds Try.pinned (OpenSpec.ofChange bandInWrong)

/-- 'podestalaw11.PipeTurn': WHATEVER THE INPUT: true; the input reads as it did. -/
def pipeTurnSpec : ChangeSpec := { name := "pipeTurn", fn := fun _ => fun
  | [d] => { results := [.lit (.bool true)], args := [d] }
  | _ => none }
def pipeTurnRow : OpenClaim := { program := "ytjchejmakdkioaa", sum := "9e27d61f1c478d696704e2da8ff4e5489958fb8cc627b80db6a4b859fae13727", func := "podesta/podestalaw11.PipeTurn", spec := "pipeTurn", plainKeys := false, apart := false }
def PipeTurnSaid : Prop := pipeTurnRow.holds Try.pinned (OpenSpec.ofChange pipeTurnSpec)

/-- ITS FALSE NEIGHBOUR: 'it returns false'. Refute it at one input. -/
def pipeTurnWrong : ChangeSpec := { name := "pipeTurn", fn := fun _ => fun
  | [d] => { results := [.lit (.bool false)], args := [d] }
  | _ => none }
def PipeTurnWrongFalsely : Prop := pipeTurnRow.holds Try.pinned (OpenSpec.ofChange pipeTurnWrong)

/-- 'podestalaw21.BandFits': WHATEVER THE INPUT: true; the input reads as it did. -/
def bandFitsSpec : ChangeSpec := { name := "bandFits", fn := fun _ => fun
  | [d1, d2] => { results := [.lit (.bool true)], args := [d1, d2] }
  | _ => none }
def bandFitsRow : OpenClaim := { program := "ytjchejmakdkioaa", sum := "9e27d61f1c478d696704e2da8ff4e5489958fb8cc627b80db6a4b859fae13727", func := "podesta/podestalaw21.BandFits", spec := "bandFits", unfollowed := true, recurses := true, plainKeys := false, apart := false }
def BandFitsSaid : Prop := bandFitsRow.holds Try.pinned (OpenSpec.ofChange bandFitsSpec)

/-- ITS FALSE NEIGHBOUR: 'it returns false'. Refute it at one input. -/
def bandFitsWrong : ChangeSpec := { name := "bandFits", fn := fun _ => fun
  | [d1, d2] => { results := [.lit (.bool false)], args := [d1, d2] }
  | _ => none }
def BandFitsWrongFalsely : Prop := bandFitsRow.holds Try.pinned (OpenSpec.ofChange bandFitsWrong)

/-- 'podestalaw11.PipePlays': WHATEVER THE INPUT: true; the input reads as it did. -/
def pipePlaysSpec : ChangeSpec := { name := "pipePlays", fn := fun _ => fun
  | [d1, d2] => { results := [.lit (.bool true)], args := [d1, d2] }
  | _ => none }
def pipePlaysRow : OpenClaim := { program := "ytjchejmakdkioaa", sum := "9e27d61f1c478d696704e2da8ff4e5489958fb8cc627b80db6a4b859fae13727", func := "podesta/podestalaw11.PipePlays", spec := "pipePlays", plainKeys := false, apart := false }
def PipePlaysSaid : Prop := pipePlaysRow.holds Try.pinned (OpenSpec.ofChange pipePlaysSpec)

/-- ITS FALSE NEIGHBOUR: 'it returns false'. Refute it at one input. -/
def pipePlaysWrong : ChangeSpec := { name := "pipePlays", fn := fun _ => fun
  | [d1, d2] => { results := [.lit (.bool false)], args := [d1, d2] }
  | _ => none }
def PipePlaysWrongFalsely : Prop := pipePlaysRow.holds Try.pinned (OpenSpec.ofChange pipePlaysWrong)

/-- 'podestalaw11.PipeTexts': WHATEVER THE INPUT: true; the input reads as it did. -/
def pipeTextsSpec : ChangeSpec := { name := "pipeTexts", fn := fun _ => fun
  | [d] => { results := [.lit (.bool true)], args := [d] }
  | _ => none }
def pipeTextsRow : OpenClaim := { program := "ytjchejmakdkioaa", sum := "9e27d61f1c478d696704e2da8ff4e5489958fb8cc627b80db6a4b859fae13727", func := "podesta/podestalaw11.PipeTexts", spec := "pipeTexts", plainKeys := false, apart := false }
def PipeTextsSaid : Prop := pipeTextsRow.holds Try.pinned (OpenSpec.ofChange pipeTextsSpec)

/-- ITS FALSE NEIGHBOUR: 'it returns false'. Refute it at one input. -/
def pipeTextsWrong : ChangeSpec := { name := "pipeTexts", fn := fun _ => fun
  | [d] => { results := [.lit (.bool false)], args := [d] }
  | _ => none }
def PipeTextsWrongFalsely : Prop := pipeTextsRow.holds Try.pinned (OpenSpec.ofChange pipeTextsWrong)

/-- 'podestalaw11.PipeNone': WHATEVER THE INPUT: true; the input reads as it did. -/
def pipeNoneSpec : ChangeSpec := { name := "pipeNone", fn := fun _ => fun
  | [d] => { results := [.lit (.bool true)], args := [d] }
  | _ => none }
def pipeNoneRow : OpenClaim := { program := "ytjchejmakdkioaa", sum := "9e27d61f1c478d696704e2da8ff4e5489958fb8cc627b80db6a4b859fae13727", func := "podesta/podestalaw11.PipeNone", spec := "pipeNone", plainKeys := false, apart := false }
def PipeNoneSaid : Prop := pipeNoneRow.holds Try.pinned (OpenSpec.ofChange pipeNoneSpec)

/-- ITS FALSE NEIGHBOUR: 'it returns false'. Refute it at one input. -/
def pipeNoneWrong : ChangeSpec := { name := "pipeNone", fn := fun _ => fun
  | [d] => { results := [.lit (.bool false)], args := [d] }
  | _ => none }
def PipeNoneWrongFalsely : Prop := pipeNoneRow.holds Try.pinned (OpenSpec.ofChange pipeNoneWrong)

/-- 'podestalaw06.LapseTicks': WHATEVER THE INPUT: true; the input reads as it did. -/
def lapseTicksSpec : ChangeSpec := { name := "lapseTicks", fn := fun _ => fun
  | [d1, d2] => { results := [.lit (.bool true)], args := [d1, d2] }
  | _ => none }
def lapseTicksRow : OpenClaim := { program := "ytjchejmakdkioaa", sum := "9e27d61f1c478d696704e2da8ff4e5489958fb8cc627b80db6a4b859fae13727", func := "podesta/podestalaw06.LapseTicks", spec := "lapseTicks", plainKeys := false, apart := false }
def LapseTicksSaid : Prop := lapseTicksRow.holds Try.pinned (OpenSpec.ofChange lapseTicksSpec)

/-- ITS FALSE NEIGHBOUR: 'it returns false'. Refute it at one input. -/
def lapseTicksWrong : ChangeSpec := { name := "lapseTicks", fn := fun _ => fun
  | [d1, d2] => { results := [.lit (.bool false)], args := [d1, d2] }
  | _ => none }
def LapseTicksWrongFalsely : Prop := lapseTicksRow.holds Try.pinned (OpenSpec.ofChange lapseTicksWrong)

/-- 'podestalaw06.LapseParts': WHATEVER THE INPUT: true; the input reads as it did. -/
def lapsePartsSpec : ChangeSpec := { name := "lapseParts", fn := fun _ => fun
  | [d1, d2, d3] => { results := [.lit (.bool true)], args := [d1, d2, d3] }
  | _ => none }
def lapsePartsRow : OpenClaim := { program := "ytjchejmakdkioaa", sum := "9e27d61f1c478d696704e2da8ff4e5489958fb8cc627b80db6a4b859fae13727", func := "podesta/podestalaw06.LapseParts", spec := "lapseParts", plainKeys := false, apart := false }
def LapsePartsSaid : Prop := lapsePartsRow.holds Try.pinned (OpenSpec.ofChange lapsePartsSpec)

/-- ITS FALSE NEIGHBOUR: 'it returns false'. Refute it at one input. -/
def lapsePartsWrong : ChangeSpec := { name := "lapseParts", fn := fun _ => fun
  | [d1, d2, d3] => { results := [.lit (.bool false)], args := [d1, d2, d3] }
  | _ => none }
def LapsePartsWrongFalsely : Prop := lapsePartsRow.holds Try.pinned (OpenSpec.ofChange lapsePartsWrong)

/-- 'podestalaw06.LapseStill': WHATEVER THE INPUT: true; the input reads as it did. -/
def lapseStillSpec : ChangeSpec := { name := "lapseStill", fn := fun _ => fun
  | [d1, d2] => { results := [.lit (.bool true)], args := [d1, d2] }
  | _ => none }
def lapseStillRow : OpenClaim := { program := "ytjchejmakdkioaa", sum := "9e27d61f1c478d696704e2da8ff4e5489958fb8cc627b80db6a4b859fae13727", func := "podesta/podestalaw06.LapseStill", spec := "lapseStill", plainKeys := false, apart := false }
def LapseStillSaid : Prop := lapseStillRow.holds Try.pinned (OpenSpec.ofChange lapseStillSpec)

/-- ITS FALSE NEIGHBOUR: 'it returns false'. Refute it at one input. -/
def lapseStillWrong : ChangeSpec := { name := "lapseStill", fn := fun _ => fun
  | [d1, d2] => { results := [.lit (.bool false)], args := [d1, d2] }
  | _ => none }
def LapseStillWrongFalsely : Prop := lapseStillRow.holds Try.pinned (OpenSpec.ofChange lapseStillWrong)

/-- 'podestalaw12.TopoSound': WHATEVER THE INPUT: true; the input reads as it did. -/
def topoSoundSpec : ChangeSpec := { name := "topoSound", fn := fun _ => fun
  | [d1, d2] => { results := [.lit (.bool true)], args := [d1, d2] }
  | _ => none }
def topoSoundRow : OpenClaim := { program := "ytjchejmakdkioaa", sum := "9e27d61f1c478d696704e2da8ff4e5489958fb8cc627b80db6a4b859fae13727", func := "podesta/podestalaw12.TopoSound", spec := "topoSound", plainKeys := false, apart := false }
def TopoSoundSaid : Prop := topoSoundRow.holds Try.pinned (OpenSpec.ofChange topoSoundSpec)

/-- ITS FALSE NEIGHBOUR: 'it returns false'. Refute it at one input. -/
def topoSoundWrong : ChangeSpec := { name := "topoSound", fn := fun _ => fun
  | [d1, d2] => { results := [.lit (.bool false)], args := [d1, d2] }
  | _ => none }
def TopoSoundWrongFalsely : Prop := topoSoundRow.holds Try.pinned (OpenSpec.ofChange topoSoundWrong)

/- THE SECOND FORM. 'bulk': how many values and letters a reading holds, each counted each time it is reached (what is shared counts as often as it is met; a slice's spare places count too). A statement '..UptoSaid' is the law's where the arguments, and the package variables that the reading takes, are together of bulk at most 1048576: NARROWER than '..Said'. Prove '..Said' where nothing that the law and all that it calls make is longer than what came in: it says more and counts as full. Else prove '..UptoSaid'. A law counts once. -/
mutual
def uptoBulk {H : Type} : DataW H → Nat
  | .lit (.string bytes) => bytes.length + 1
  | .lit _ => 1
  | .nil => 1
  | .ptr d => uptoBulk d + 1
  | .slice elems spare => uptoBulkAll elems + uptoBulkAll spare + 1
  | .agg parts => uptoBulkAll parts + 1
  | .iface _ d => uptoBulk d + 1
  | .map entries => uptoBulkEntries entries + 1
  | .held _ => 1
def uptoBulkAll {H : Type} : List (DataW H) → Nat
  | [] => 0
  | d :: r => uptoBulk d + uptoBulkAll r
def uptoBulkEntries {H : Type} : List (Lit × DataW H) → Nat
  | [] => 0
  | x :: r => uptoBulkEntry x + uptoBulkEntries r
def uptoBulkEntry {H : Type} : Lit × DataW H → Nat
  | (.string bytes, d) => bytes.length + uptoBulk d + 1
  | (_, d) => uptoBulk d + 1
 end
def uptoSmall : (H : Type) → List (DataW H) → Bool := fun _ ds => decide (uptoBulkAll ds ≤ 1048576)
def OpenSpec.upto (s : _root_.Go.ChangeSpec) : _root_.Go.OpenSpec := { _root_.Go.OpenSpec.ofChange s with cond := some uptoSmall }

/-- 'podestalaw21.BandOf', WHERE WHAT IT READS IS OF BULK AT MOST 1048576: true; the input reads as it did. -/
def bandOfUptoRow : OpenClaim := { program := "ytjchejmakdkioaa", sum := "9e27d61f1c478d696704e2da8ff4e5489958fb8cc627b80db6a4b859fae13727", func := "podesta/podestalaw21.BandOf", spec := "bandOf", plainKeys := false, apart := false, narrowed := true }
def BandOfUptoSaid : Prop := bandOfUptoRow.holds Try.pinned (OpenSpec.upto bandOfSpec)

/-- 'podestalaw21.BandApart', WHERE WHAT IT READS IS OF BULK AT MOST 1048576: true; the input reads as it did. -/
def bandApartUptoRow : OpenClaim := { program := "ytjchejmakdkioaa", sum := "9e27d61f1c478d696704e2da8ff4e5489958fb8cc627b80db6a4b859fae13727", func := "podesta/podestalaw21.BandApart", spec := "bandApart", plainKeys := false, apart := false, narrowed := true }
def BandApartUptoSaid : Prop := bandApartUptoRow.holds Try.pinned (OpenSpec.upto bandApartSpec)

/-- 'podestalaw21.BandIn', WHERE WHAT IT READS IS OF BULK AT MOST 1048576: true; the input reads as it did. -/
def bandInUptoRow : OpenClaim := { program := "ytjchejmakdkioaa", sum := "9e27d61f1c478d696704e2da8ff4e5489958fb8cc627b80db6a4b859fae13727", func := "podesta/podestalaw21.BandIn", spec := "bandIn", plainKeys := false, apart := false, narrowed := true }
def BandInUptoSaid : Prop := bandInUptoRow.holds Try.pinned (OpenSpec.upto bandInSpec)

/-- 'podestalaw11.PipeTurn', WHERE WHAT IT READS IS OF BULK AT MOST 1048576: true; the input reads as it did. -/
def pipeTurnUptoRow : OpenClaim := { program := "ytjchejmakdkioaa", sum := "9e27d61f1c478d696704e2da8ff4e5489958fb8cc627b80db6a4b859fae13727", func := "podesta/podestalaw11.PipeTurn", spec := "pipeTurn", plainKeys := false, apart := false, narrowed := true }
def PipeTurnUptoSaid : Prop := pipeTurnUptoRow.holds Try.pinned (OpenSpec.upto pipeTurnSpec)

/-- 'podestalaw21.BandFits', WHERE WHAT IT READS IS OF BULK AT MOST 1048576: true; the input reads as it did. -/
def bandFitsUptoRow : OpenClaim := { program := "ytjchejmakdkioaa", sum := "9e27d61f1c478d696704e2da8ff4e5489958fb8cc627b80db6a4b859fae13727", func := "podesta/podestalaw21.BandFits", spec := "bandFits", unfollowed := true, recurses := true, plainKeys := false, apart := false, narrowed := true }
def BandFitsUptoSaid : Prop := bandFitsUptoRow.holds Try.pinned (OpenSpec.upto bandFitsSpec)

/-- 'podestalaw11.PipePlays', WHERE WHAT IT READS IS OF BULK AT MOST 1048576: true; the input reads as it did. -/
def pipePlaysUptoRow : OpenClaim := { program := "ytjchejmakdkioaa", sum := "9e27d61f1c478d696704e2da8ff4e5489958fb8cc627b80db6a4b859fae13727", func := "podesta/podestalaw11.PipePlays", spec := "pipePlays", plainKeys := false, apart := false, narrowed := true }
def PipePlaysUptoSaid : Prop := pipePlaysUptoRow.holds Try.pinned (OpenSpec.upto pipePlaysSpec)

/-- 'podestalaw11.PipeTexts', WHERE WHAT IT READS IS OF BULK AT MOST 1048576: true; the input reads as it did. -/
def pipeTextsUptoRow : OpenClaim := { program := "ytjchejmakdkioaa", sum := "9e27d61f1c478d696704e2da8ff4e5489958fb8cc627b80db6a4b859fae13727", func := "podesta/podestalaw11.PipeTexts", spec := "pipeTexts", plainKeys := false, apart := false, narrowed := true }
def PipeTextsUptoSaid : Prop := pipeTextsUptoRow.holds Try.pinned (OpenSpec.upto pipeTextsSpec)

/-- 'podestalaw11.PipeNone', WHERE WHAT IT READS IS OF BULK AT MOST 1048576: true; the input reads as it did. -/
def pipeNoneUptoRow : OpenClaim := { program := "ytjchejmakdkioaa", sum := "9e27d61f1c478d696704e2da8ff4e5489958fb8cc627b80db6a4b859fae13727", func := "podesta/podestalaw11.PipeNone", spec := "pipeNone", plainKeys := false, apart := false, narrowed := true }
def PipeNoneUptoSaid : Prop := pipeNoneUptoRow.holds Try.pinned (OpenSpec.upto pipeNoneSpec)

/-- 'podestalaw06.LapseTicks', WHERE WHAT IT READS IS OF BULK AT MOST 1048576: true; the input reads as it did. -/
def lapseTicksUptoRow : OpenClaim := { program := "ytjchejmakdkioaa", sum := "9e27d61f1c478d696704e2da8ff4e5489958fb8cc627b80db6a4b859fae13727", func := "podesta/podestalaw06.LapseTicks", spec := "lapseTicks", plainKeys := false, apart := false, narrowed := true }
def LapseTicksUptoSaid : Prop := lapseTicksUptoRow.holds Try.pinned (OpenSpec.upto lapseTicksSpec)

/-- 'podestalaw06.LapseParts', WHERE WHAT IT READS IS OF BULK AT MOST 1048576: true; the input reads as it did. -/
def lapsePartsUptoRow : OpenClaim := { program := "ytjchejmakdkioaa", sum := "9e27d61f1c478d696704e2da8ff4e5489958fb8cc627b80db6a4b859fae13727", func := "podesta/podestalaw06.LapseParts", spec := "lapseParts", plainKeys := false, apart := false, narrowed := true }
def LapsePartsUptoSaid : Prop := lapsePartsUptoRow.holds Try.pinned (OpenSpec.upto lapsePartsSpec)

/-- 'podestalaw06.LapseStill', WHERE WHAT IT READS IS OF BULK AT MOST 1048576: true; the input reads as it did. -/
def lapseStillUptoRow : OpenClaim := { program := "ytjchejmakdkioaa", sum := "9e27d61f1c478d696704e2da8ff4e5489958fb8cc627b80db6a4b859fae13727", func := "podesta/podestalaw06.LapseStill", spec := "lapseStill", plainKeys := false, apart := false, narrowed := true }
def LapseStillUptoSaid : Prop := lapseStillUptoRow.holds Try.pinned (OpenSpec.upto lapseStillSpec)

/-- 'podestalaw12.TopoSound', WHERE WHAT IT READS IS OF BULK AT MOST 1048576: true; the input reads as it did. -/
def topoSoundUptoRow : OpenClaim := { program := "ytjchejmakdkioaa", sum := "9e27d61f1c478d696704e2da8ff4e5489958fb8cc627b80db6a4b859fae13727", func := "podesta/podestalaw12.TopoSound", spec := "topoSound", plainKeys := false, apart := false, narrowed := true }
def TopoSoundUptoSaid : Prop := topoSoundUptoRow.holds Try.pinned (OpenSpec.upto topoSoundSpec)

end Rows
end Go.Proofs.Ytjchejmakdkioaa
