/-
  No cell of these rows narrows 'for every input' (looked for: loops, veiled, ifaces, maps, wideKeys, modest, calm, conditions, laid).
  DERIVED. THE GIVEN ROWS OF THIS SEAT. 8 by the template 'for every input the law returns true; each argument reads behind the call as it read before'; 0 by the template 'total and deterministic' (their statements: YtockmihfoppkpaaTotals.lean).
  GIVEN WITH THE SEED: the statements are not yours to turn. If you find one false, say at which input.
  Laid BY PROGRAM, IN A SANDBOX (cutbox-rows.mjs): the forced cells as the released guide's own fill.sh prints them over the translation 8941746b3c482f31… (all of the seat's roots in one cut). By AI agents, Wed Nov 11 2026. No macro, syntax, notation, axiom, sorry.
-/
import Derived.Test.YtockmihfoppkpaaChecked
import GoSem.Claim
import GoSem.ClaimJoined
import GoSem.ClaimMapViews
import Derived.JoinedTies
import Derived.KernelRfl
namespace Go.Proofs.Ytockmihfoppkpaa
/- THE CELL 'sum', in the pinned program and in every row, IS THE sha256 OF THE DUMP (.gsa) THAT YtockmihfoppkpaaProg.lean LOADS. Nothing in Lean hashes anything: it is a label: what it is worth is what the hold of that sum in a sandbox is worth. -/
noncomputable def Try.pinned : Pinned := { name := "ytockmihfoppkpaa", sum := "8941746b3c482f3147d5e669f2c84a28c734d904f71a8a7d4629d8da1e39f6a5", checked := Try.checked }
namespace Rows
def none {H : Type} : Left H := { results := [], args := [] }

/-- 'podestalaw07.ModsApply': WHATEVER THE INPUT: true; the input reads as it did. -/
def modsApplySpec : ChangeSpec := { name := "modsApply", fn := fun _ => fun
  | [d1, d2, d3] => { results := [.lit (.bool true)], args := [d1, d2, d3] }
  | _ => none }
def modsApplyRow : OpenClaim := { program := "ytockmihfoppkpaa", sum := "8941746b3c482f3147d5e669f2c84a28c734d904f71a8a7d4629d8da1e39f6a5", func := "podesta/podestalaw07.ModsApply", spec := "modsApply", inPlace := ["slices.overlaps[podesta/api.Rule]"], unfollowed := true, recurses := true, apart := false }
def ModsApplySaid : Prop := modsApplyRow.holds Try.pinned (OpenSpec.ofChange modsApplySpec)

/-- ITS FALSE NEIGHBOUR: 'it returns false'. Refute it at one input. -/
def modsApplyWrong : ChangeSpec := { name := "modsApply", fn := fun _ => fun
  | [d1, d2, d3] => { results := [.lit (.bool false)], args := [d1, d2, d3] }
  | _ => none }
def ModsApplyWrongFalsely : Prop := modsApplyRow.holds Try.pinned (OpenSpec.ofChange modsApplyWrong)

/-- 'podestalaw07.ModsOthers': WHATEVER THE INPUT: true; the input reads as it did. -/
def modsOthersSpec : ChangeSpec := { name := "modsOthers", fn := fun _ => fun
  | [d1, d2] => { results := [.lit (.bool true)], args := [d1, d2] }
  | _ => none }
def modsOthersRow : OpenClaim := { program := "ytockmihfoppkpaa", sum := "8941746b3c482f3147d5e669f2c84a28c734d904f71a8a7d4629d8da1e39f6a5", func := "podesta/podestalaw07.ModsOthers", spec := "modsOthers", inPlace := ["slices.overlaps[podesta/api.Rule]"], unfollowed := true, recurses := true, apart := false }
def ModsOthersSaid : Prop := modsOthersRow.holds Try.pinned (OpenSpec.ofChange modsOthersSpec)

/-- ITS FALSE NEIGHBOUR: 'it returns false'. Refute it at one input. -/
def modsOthersWrong : ChangeSpec := { name := "modsOthers", fn := fun _ => fun
  | [d1, d2] => { results := [.lit (.bool false)], args := [d1, d2] }
  | _ => none }
def ModsOthersWrongFalsely : Prop := modsOthersRow.holds Try.pinned (OpenSpec.ofChange modsOthersWrong)

/-- 'podestalaw07.ModsTwice': WHATEVER THE INPUT: true; the input reads as it did. -/
def modsTwiceSpec : ChangeSpec := { name := "modsTwice", fn := fun _ => fun
  | [d1, d2, d3] => { results := [.lit (.bool true)], args := [d1, d2, d3] }
  | _ => none }
def modsTwiceRow : OpenClaim := { program := "ytockmihfoppkpaa", sum := "8941746b3c482f3147d5e669f2c84a28c734d904f71a8a7d4629d8da1e39f6a5", func := "podesta/podestalaw07.ModsTwice", spec := "modsTwice", inPlace := ["slices.overlaps[podesta/api.Rule]"], unfollowed := true, recurses := true, apart := false }
def ModsTwiceSaid : Prop := modsTwiceRow.holds Try.pinned (OpenSpec.ofChange modsTwiceSpec)

/-- ITS FALSE NEIGHBOUR: 'it returns false'. Refute it at one input. -/
def modsTwiceWrong : ChangeSpec := { name := "modsTwice", fn := fun _ => fun
  | [d1, d2, d3] => { results := [.lit (.bool false)], args := [d1, d2, d3] }
  | _ => none }
def ModsTwiceWrongFalsely : Prop := modsTwiceRow.holds Try.pinned (OpenSpec.ofChange modsTwiceWrong)

/-- 'podestalaw07.ModsApart': WHATEVER THE INPUT: true; the input reads as it did. -/
def modsApartSpec : ChangeSpec := { name := "modsApart", fn := fun _ => fun
  | [d1, d2, d3] => { results := [.lit (.bool true)], args := [d1, d2, d3] }
  | _ => none }
def modsApartRow : OpenClaim := { program := "ytockmihfoppkpaa", sum := "8941746b3c482f3147d5e669f2c84a28c734d904f71a8a7d4629d8da1e39f6a5", func := "podesta/podestalaw07.ModsApart", spec := "modsApart", inPlace := ["slices.overlaps[podesta/api.Rule]"], unfollowed := true, recurses := true, apart := false }
def ModsApartSaid : Prop := modsApartRow.holds Try.pinned (OpenSpec.ofChange modsApartSpec)

/-- ITS FALSE NEIGHBOUR: 'it returns false'. Refute it at one input. -/
def modsApartWrong : ChangeSpec := { name := "modsApart", fn := fun _ => fun
  | [d1, d2, d3] => { results := [.lit (.bool false)], args := [d1, d2, d3] }
  | _ => none }
def ModsApartWrongFalsely : Prop := modsApartRow.holds Try.pinned (OpenSpec.ofChange modsApartWrong)

/-- 'podestalaw07.ModsRoom': WHATEVER THE INPUT: true; the input reads as it did. -/
def modsRoomSpec : ChangeSpec := { name := "modsRoom", fn := fun _ => fun
  | [d1, d2, d3] => { results := [.lit (.bool true)], args := [d1, d2, d3] }
  | _ => none }
def modsRoomRow : OpenClaim := { program := "ytockmihfoppkpaa", sum := "8941746b3c482f3147d5e669f2c84a28c734d904f71a8a7d4629d8da1e39f6a5", func := "podesta/podestalaw07.ModsRoom", spec := "modsRoom", inPlace := ["slices.overlaps[podesta/api.Rule]"], unfollowed := true, recurses := true, apart := false }
def ModsRoomSaid : Prop := modsRoomRow.holds Try.pinned (OpenSpec.ofChange modsRoomSpec)

/-- ITS FALSE NEIGHBOUR: 'it returns false'. Refute it at one input. -/
def modsRoomWrong : ChangeSpec := { name := "modsRoom", fn := fun _ => fun
  | [d1, d2, d3] => { results := [.lit (.bool false)], args := [d1, d2, d3] }
  | _ => none }
def ModsRoomWrongFalsely : Prop := modsRoomRow.holds Try.pinned (OpenSpec.ofChange modsRoomWrong)

/-- 'podestalaw07.ModsKeeps': WHATEVER THE INPUT: true; the input reads as it did. -/
def modsKeepsSpec : ChangeSpec := { name := "modsKeeps", fn := fun _ => fun
  | [d1, d2] => { results := [.lit (.bool true)], args := [d1, d2] }
  | _ => none }
def modsKeepsRow : OpenClaim := { program := "ytockmihfoppkpaa", sum := "8941746b3c482f3147d5e669f2c84a28c734d904f71a8a7d4629d8da1e39f6a5", func := "podesta/podestalaw07.ModsKeeps", spec := "modsKeeps", inPlace := ["slices.overlaps[podesta/api.Rule]"], unfollowed := true, recurses := true, apart := false }
def ModsKeepsSaid : Prop := modsKeepsRow.holds Try.pinned (OpenSpec.ofChange modsKeepsSpec)

/-- ITS FALSE NEIGHBOUR: 'it returns false'. Refute it at one input. -/
def modsKeepsWrong : ChangeSpec := { name := "modsKeeps", fn := fun _ => fun
  | [d1, d2] => { results := [.lit (.bool false)], args := [d1, d2] }
  | _ => none }
def ModsKeepsWrongFalsely : Prop := modsKeepsRow.holds Try.pinned (OpenSpec.ofChange modsKeepsWrong)

/-- 'podestalaw07.ModsGone': WHATEVER THE INPUT: true; the input reads as it did. -/
def modsGoneSpec : ChangeSpec := { name := "modsGone", fn := fun _ => fun
  | [d1, d2] => { results := [.lit (.bool true)], args := [d1, d2] }
  | _ => none }
def modsGoneRow : OpenClaim := { program := "ytockmihfoppkpaa", sum := "8941746b3c482f3147d5e669f2c84a28c734d904f71a8a7d4629d8da1e39f6a5", func := "podesta/podestalaw07.ModsGone", spec := "modsGone", inPlace := ["slices.overlaps[podesta/api.Rule]"], unfollowed := true, recurses := true, apart := false }
def ModsGoneSaid : Prop := modsGoneRow.holds Try.pinned (OpenSpec.ofChange modsGoneSpec)

/-- ITS FALSE NEIGHBOUR: 'it returns false'. Refute it at one input. -/
def modsGoneWrong : ChangeSpec := { name := "modsGone", fn := fun _ => fun
  | [d1, d2] => { results := [.lit (.bool false)], args := [d1, d2] }
  | _ => none }
def ModsGoneWrongFalsely : Prop := modsGoneRow.holds Try.pinned (OpenSpec.ofChange modsGoneWrong)

/-- 'podestalaw07.ModsSame': WHATEVER THE INPUT: true; the input reads as it did. -/
def modsSameSpec : ChangeSpec := { name := "modsSame", fn := fun _ => fun
  | [d1, d2, d3] => { results := [.lit (.bool true)], args := [d1, d2, d3] }
  | _ => none }
def modsSameRow : OpenClaim := { program := "ytockmihfoppkpaa", sum := "8941746b3c482f3147d5e669f2c84a28c734d904f71a8a7d4629d8da1e39f6a5", func := "podesta/podestalaw07.ModsSame", spec := "modsSame", inPlace := ["slices.overlaps[podesta/api.Rule]"], unfollowed := true, recurses := true, apart := false }
def ModsSameSaid : Prop := modsSameRow.holds Try.pinned (OpenSpec.ofChange modsSameSpec)

/-- ITS FALSE NEIGHBOUR: 'it returns false'. Refute it at one input. -/
def modsSameWrong : ChangeSpec := { name := "modsSame", fn := fun _ => fun
  | [d1, d2, d3] => { results := [.lit (.bool false)], args := [d1, d2, d3] }
  | _ => none }
def ModsSameWrongFalsely : Prop := modsSameRow.holds Try.pinned (OpenSpec.ofChange modsSameWrong)

/- THE SECOND FORM. 'bulk': how many values and letters a reading holds, each counted each time it is reached (what is shared counts as often as it is met; a slice's spare places count too). A statement '..UptoSaid' is the law's where the arguments, and the package variables that the reading takes, are together of bulk at most 1048576: NARROWER than '..Said'. Prove '..Said' where nothing that the law and all that it calls make is longer than what came in: it says more and counts as full. Else prove '..UptoSaid'. A law counts once. -/
mutual
def uptoBulk {H : Type} : DataW H → Nat
  | .lit (.string bytes) => bytes.length + 1
  | .lit _ => 1
  | .nil => 1
  | .ptr d => uptoBulk d + 1
  | .slice elems spare => uptoBulkAll elems + uptoBulkAll spare + 1
  | .agg parts => uptoBulkAll parts + 1
  | .iface _ d => uptoBulk d + 1
  | .map entries => uptoBulkEntries entries + 1
  | .held _ => 1
def uptoBulkAll {H : Type} : List (DataW H) → Nat
  | [] => 0
  | d :: r => uptoBulk d + uptoBulkAll r
def uptoBulkEntries {H : Type} : List (Lit × DataW H) → Nat
  | [] => 0
  | x :: r => uptoBulkEntry x + uptoBulkEntries r
def uptoBulkEntry {H : Type} : Lit × DataW H → Nat
  | (.string bytes, d) => bytes.length + uptoBulk d + 1
  | (_, d) => uptoBulk d + 1
 end
def uptoSmall : (H : Type) → List (DataW H) → Bool := fun _ ds => decide (uptoBulkAll ds ≤ 1048576)
def OpenSpec.upto (s : _root_.Go.ChangeSpec) : _root_.Go.OpenSpec := { _root_.Go.OpenSpec.ofChange s with cond := some uptoSmall }

/-- 'podestalaw07.ModsApply', WHERE WHAT IT READS IS OF BULK AT MOST 1048576: true; the input reads as it did. -/
def modsApplyUptoRow : OpenClaim := { program := "ytockmihfoppkpaa", sum := "8941746b3c482f3147d5e669f2c84a28c734d904f71a8a7d4629d8da1e39f6a5", func := "podesta/podestalaw07.ModsApply", spec := "modsApply", inPlace := ["slices.overlaps[podesta/api.Rule]"], unfollowed := true, recurses := true, apart := false, narrowed := true }
def ModsApplyUptoSaid : Prop := modsApplyUptoRow.holds Try.pinned (OpenSpec.upto modsApplySpec)

/-- 'podestalaw07.ModsOthers', WHERE WHAT IT READS IS OF BULK AT MOST 1048576: true; the input reads as it did. -/
def modsOthersUptoRow : OpenClaim := { program := "ytockmihfoppkpaa", sum := "8941746b3c482f3147d5e669f2c84a28c734d904f71a8a7d4629d8da1e39f6a5", func := "podesta/podestalaw07.ModsOthers", spec := "modsOthers", inPlace := ["slices.overlaps[podesta/api.Rule]"], unfollowed := true, recurses := true, apart := false, narrowed := true }
def ModsOthersUptoSaid : Prop := modsOthersUptoRow.holds Try.pinned (OpenSpec.upto modsOthersSpec)

/-- 'podestalaw07.ModsTwice', WHERE WHAT IT READS IS OF BULK AT MOST 1048576: true; the input reads as it did. -/
def modsTwiceUptoRow : OpenClaim := { program := "ytockmihfoppkpaa", sum := "8941746b3c482f3147d5e669f2c84a28c734d904f71a8a7d4629d8da1e39f6a5", func := "podesta/podestalaw07.ModsTwice", spec := "modsTwice", inPlace := ["slices.overlaps[podesta/api.Rule]"], unfollowed := true, recurses := true, apart := false, narrowed := true }
def ModsTwiceUptoSaid : Prop := modsTwiceUptoRow.holds Try.pinned (OpenSpec.upto modsTwiceSpec)

/-- 'podestalaw07.ModsApart', WHERE WHAT IT READS IS OF BULK AT MOST 1048576: true; the input reads as it did. -/
def modsApartUptoRow : OpenClaim := { program := "ytockmihfoppkpaa", sum := "8941746b3c482f3147d5e669f2c84a28c734d904f71a8a7d4629d8da1e39f6a5", func := "podesta/podestalaw07.ModsApart", spec := "modsApart", inPlace := ["slices.overlaps[podesta/api.Rule]"], unfollowed := true, recurses := true, apart := false, narrowed := true }
def ModsApartUptoSaid : Prop := modsApartUptoRow.holds Try.pinned (OpenSpec.upto modsApartSpec)

/-- 'podestalaw07.ModsRoom', WHERE WHAT IT READS IS OF BULK AT MOST 1048576: true; the input reads as it did. -/
def modsRoomUptoRow : OpenClaim := { program := "ytockmihfoppkpaa", sum := "8941746b3c482f3147d5e669f2c84a28c734d904f71a8a7d4629d8da1e39f6a5", func := "podesta/podestalaw07.ModsRoom", spec := "modsRoom", inPlace := ["slices.overlaps[podesta/api.Rule]"], unfollowed := true, recurses := true, apart := false, narrowed := true }
def ModsRoomUptoSaid : Prop := modsRoomUptoRow.holds Try.pinned (OpenSpec.upto modsRoomSpec)

/-- 'podestalaw07.ModsKeeps', WHERE WHAT IT READS IS OF BULK AT MOST 1048576: true; the input reads as it did. -/
def modsKeepsUptoRow : OpenClaim := { program := "ytockmihfoppkpaa", sum := "8941746b3c482f3147d5e669f2c84a28c734d904f71a8a7d4629d8da1e39f6a5", func := "podesta/podestalaw07.ModsKeeps", spec := "modsKeeps", inPlace := ["slices.overlaps[podesta/api.Rule]"], unfollowed := true, recurses := true, apart := false, narrowed := true }
def ModsKeepsUptoSaid : Prop := modsKeepsUptoRow.holds Try.pinned (OpenSpec.upto modsKeepsSpec)

/-- 'podestalaw07.ModsGone', WHERE WHAT IT READS IS OF BULK AT MOST 1048576: true; the input reads as it did. -/
def modsGoneUptoRow : OpenClaim := { program := "ytockmihfoppkpaa", sum := "8941746b3c482f3147d5e669f2c84a28c734d904f71a8a7d4629d8da1e39f6a5", func := "podesta/podestalaw07.ModsGone", spec := "modsGone", inPlace := ["slices.overlaps[podesta/api.Rule]"], unfollowed := true, recurses := true, apart := false, narrowed := true }
def ModsGoneUptoSaid : Prop := modsGoneUptoRow.holds Try.pinned (OpenSpec.upto modsGoneSpec)

/-- 'podestalaw07.ModsSame', WHERE WHAT IT READS IS OF BULK AT MOST 1048576: true; the input reads as it did. -/
def modsSameUptoRow : OpenClaim := { program := "ytockmihfoppkpaa", sum := "8941746b3c482f3147d5e669f2c84a28c734d904f71a8a7d4629d8da1e39f6a5", func := "podesta/podestalaw07.ModsSame", spec := "modsSame", inPlace := ["slices.overlaps[podesta/api.Rule]"], unfollowed := true, recurses := true, apart := false, narrowed := true }
def ModsSameUptoSaid : Prop := modsSameUptoRow.holds Try.pinned (OpenSpec.upto modsSameSpec)

end Rows
end Go.Proofs.Ytockmihfoppkpaa
