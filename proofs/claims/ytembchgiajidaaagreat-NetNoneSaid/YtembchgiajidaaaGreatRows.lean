/-
  No cell of these rows narrows 'for every input' (looked for: loops, veiled, ifaces, maps, wideKeys, modest, calm, conditions, laid).
  DERIVED. THE GIVEN ROWS OF THIS SEAT. 5 by the template 'for every input the law returns true; each argument reads behind the call as it read before'; 0 by the template 'total and deterministic' (their statements: YtembchgiajidaaaGreatTotals.lean).
  GIVEN WITH THE SEED: the statements are not yours to turn. If you find one false, say at which input.
  Laid BY PROGRAM, IN A SANDBOX (cutbox-rows.mjs): the forced cells as the released guide's own fill.sh prints them over the translation 16ce988bd351040a… (all of the seat's roots in one cut). By AI agents, Wed Nov 11 2026. No macro, syntax, notation, axiom, sorry.
-/
import Derived.Test.YtembchgiajidaaaGreatChecked
import GoSem.Claim
import GoSem.ClaimJoined
import GoSem.ClaimMapViews
import Derived.JoinedTies
import Derived.KernelRfl
namespace Go.Proofs.YtembchgiajidaaaGreat
/- THE CELL 'sum', in the pinned program and in every row, IS THE sha256 OF THE DUMP (.gsa) THAT YtembchgiajidaaaGreatProg.lean LOADS. Nothing in Lean hashes anything: it is a label: what it is worth is what the hold of that sum in a sandbox is worth. -/
noncomputable def Tryz.pinned : Pinned := { name := "ytembchgiajidaaagreat", sum := "16ce988bd351040a4463702fc2a7d20ce6955bb11c9f0e3c7dc9be9699a647bd", checked := Tryz.checked }
namespace Rows
def none {H : Type} : Left H := { results := [], args := [] }

/-- 'podestalaw14.NetOrder': WHATEVER THE INPUT: true; the input reads as it did. -/
def netOrderSpec : ChangeSpec := { name := "netOrder", fn := fun _ => fun
  | [d] => { results := [.lit (.bool true)], args := [d] }
  | _ => none }
def netOrderRow : OpenClaim := { program := "ytembchgiajidaaagreat", sum := "16ce988bd351040a4463702fc2a7d20ce6955bb11c9f0e3c7dc9be9699a647bd", func := "podesta/podestalaw14.NetOrder", spec := "netOrder", inPlace := ["slices.overlaps[podesta/api.Rule]"], unfollowed := true, recurses := true, plainKeys := false, apart := false }
def NetOrderSaid : Prop := netOrderRow.holds Tryz.pinned (OpenSpec.ofChange netOrderSpec)

/-- ITS FALSE NEIGHBOUR: 'it returns false'. Refute it at one input. -/
def netOrderWrong : ChangeSpec := { name := "netOrder", fn := fun _ => fun
  | [d] => { results := [.lit (.bool false)], args := [d] }
  | _ => none }
def NetOrderWrongFalsely : Prop := netOrderRow.holds Tryz.pinned (OpenSpec.ofChange netOrderWrong)

/-- 'podestalaw14.NetGarbage': WHATEVER THE INPUT: true; the input reads as it did. -/
def netGarbageSpec : ChangeSpec := { name := "netGarbage", fn := fun _ => fun
  | [d] => { results := [.lit (.bool true)], args := [d] }
  | _ => none }
def netGarbageRow : OpenClaim := { program := "ytembchgiajidaaagreat", sum := "16ce988bd351040a4463702fc2a7d20ce6955bb11c9f0e3c7dc9be9699a647bd", func := "podesta/podestalaw14.NetGarbage", spec := "netGarbage", inPlace := ["slices.overlaps[podesta/api.Rule]"], unfollowed := true, recurses := true, plainKeys := false, apart := false }
def NetGarbageSaid : Prop := netGarbageRow.holds Tryz.pinned (OpenSpec.ofChange netGarbageSpec)

/-- ITS FALSE NEIGHBOUR: 'it returns false'. Refute it at one input. -/
def netGarbageWrong : ChangeSpec := { name := "netGarbage", fn := fun _ => fun
  | [d] => { results := [.lit (.bool false)], args := [d] }
  | _ => none }
def NetGarbageWrongFalsely : Prop := netGarbageRow.holds Tryz.pinned (OpenSpec.ofChange netGarbageWrong)

/-- 'podestalaw14.NetLine': WHATEVER THE INPUT: true; the input reads as it did. -/
def netLineSpec : ChangeSpec := { name := "netLine", fn := fun _ => fun
  | [d1, d2] => { results := [.lit (.bool true)], args := [d1, d2] }
  | _ => none }
def netLineRow : OpenClaim := { program := "ytembchgiajidaaagreat", sum := "16ce988bd351040a4463702fc2a7d20ce6955bb11c9f0e3c7dc9be9699a647bd", func := "podesta/podestalaw14.NetLine", spec := "netLine", inPlace := ["slices.overlaps[podesta/api.Rule]"], unfollowed := true, recurses := true, plainKeys := false, apart := false }
def NetLineSaid : Prop := netLineRow.holds Tryz.pinned (OpenSpec.ofChange netLineSpec)

/-- ITS FALSE NEIGHBOUR: 'it returns false'. Refute it at one input. -/
def netLineWrong : ChangeSpec := { name := "netLine", fn := fun _ => fun
  | [d1, d2] => { results := [.lit (.bool false)], args := [d1, d2] }
  | _ => none }
def NetLineWrongFalsely : Prop := netLineRow.holds Tryz.pinned (OpenSpec.ofChange netLineWrong)

/-- 'podestalaw14.NetPackets': WHATEVER THE INPUT: true; the input reads as it did. -/
def netPacketsSpec : ChangeSpec := { name := "netPackets", fn := fun _ => fun
  | [d1, d2, d3, d4] => { results := [.lit (.bool true)], args := [d1, d2, d3, d4] }
  | _ => none }
def netPacketsRow : OpenClaim := { program := "ytembchgiajidaaagreat", sum := "16ce988bd351040a4463702fc2a7d20ce6955bb11c9f0e3c7dc9be9699a647bd", func := "podesta/podestalaw14.NetPackets", spec := "netPackets", inPlace := ["slices.overlaps[podesta/api.Rule]"], unfollowed := true, recurses := true, plainKeys := false, apart := false }
def NetPacketsSaid : Prop := netPacketsRow.holds Tryz.pinned (OpenSpec.ofChange netPacketsSpec)

/-- ITS FALSE NEIGHBOUR: 'it returns false'. Refute it at one input. -/
def netPacketsWrong : ChangeSpec := { name := "netPackets", fn := fun _ => fun
  | [d1, d2, d3, d4] => { results := [.lit (.bool false)], args := [d1, d2, d3, d4] }
  | _ => none }
def NetPacketsWrongFalsely : Prop := netPacketsRow.holds Tryz.pinned (OpenSpec.ofChange netPacketsWrong)

/-- 'podestalaw14.NetNone': WHATEVER THE INPUT: true; the input reads as it did. -/
def netNoneSpec : ChangeSpec := { name := "netNone", fn := fun _ => fun
  | [d1, d2, d3] => { results := [.lit (.bool true)], args := [d1, d2, d3] }
  | _ => none }
def netNoneRow : OpenClaim := { program := "ytembchgiajidaaagreat", sum := "16ce988bd351040a4463702fc2a7d20ce6955bb11c9f0e3c7dc9be9699a647bd", func := "podesta/podestalaw14.NetNone", spec := "netNone", inPlace := ["slices.overlaps[podesta/api.Rule]"], unfollowed := true, recurses := true, plainKeys := false, apart := false }
def NetNoneSaid : Prop := netNoneRow.holds Tryz.pinned (OpenSpec.ofChange netNoneSpec)

/-- ITS FALSE NEIGHBOUR: 'it returns false'. Refute it at one input. -/
def netNoneWrong : ChangeSpec := { name := "netNone", fn := fun _ => fun
  | [d1, d2, d3] => { results := [.lit (.bool false)], args := [d1, d2, d3] }
  | _ => none }
def NetNoneWrongFalsely : Prop := netNoneRow.holds Tryz.pinned (OpenSpec.ofChange netNoneWrong)

/- THE SECOND FORM. 'bulk': how many values and letters a reading holds, each counted each time it is reached (what is shared counts as often as it is met; a slice's spare places count too). A statement '..UptoSaid' is the law's where the arguments, and the package variables that the reading takes, are together of bulk at most 1048576: NARROWER than '..Said'. Prove '..Said' where nothing that the law and all that it calls make is longer than what came in: it says more and counts as full. Else prove '..UptoSaid'. A law counts once. -/
mutual
def uptoBulk {H : Type} : DataW H → Nat
  | .lit (.string bytes) => bytes.length + 1
  | .lit _ => 1
  | .nil => 1
  | .ptr d => uptoBulk d + 1
  | .slice elems spare => uptoBulkAll elems + uptoBulkAll spare + 1
  | .agg parts => uptoBulkAll parts + 1
  | .iface _ d => uptoBulk d + 1
  | .map entries => uptoBulkEntries entries + 1
  | .held _ => 1
def uptoBulkAll {H : Type} : List (DataW H) → Nat
  | [] => 0
  | d :: r => uptoBulk d + uptoBulkAll r
def uptoBulkEntries {H : Type} : List (Lit × DataW H) → Nat
  | [] => 0
  | x :: r => uptoBulkEntry x + uptoBulkEntries r
def uptoBulkEntry {H : Type} : Lit × DataW H → Nat
  | (.string bytes, d) => bytes.length + uptoBulk d + 1
  | (_, d) => uptoBulk d + 1
 end
def uptoSmall : (H : Type) → List (DataW H) → Bool := fun _ ds => decide (uptoBulkAll ds ≤ 1048576)
def OpenSpec.upto (s : _root_.Go.ChangeSpec) : _root_.Go.OpenSpec := { _root_.Go.OpenSpec.ofChange s with cond := some uptoSmall }

/-- 'podestalaw14.NetOrder', WHERE WHAT IT READS IS OF BULK AT MOST 1048576: true; the input reads as it did. -/
def netOrderUptoRow : OpenClaim := { program := "ytembchgiajidaaagreat", sum := "16ce988bd351040a4463702fc2a7d20ce6955bb11c9f0e3c7dc9be9699a647bd", func := "podesta/podestalaw14.NetOrder", spec := "netOrder", inPlace := ["slices.overlaps[podesta/api.Rule]"], unfollowed := true, recurses := true, plainKeys := false, apart := false, narrowed := true }
def NetOrderUptoSaid : Prop := netOrderUptoRow.holds Tryz.pinned (OpenSpec.upto netOrderSpec)

/-- 'podestalaw14.NetGarbage', WHERE WHAT IT READS IS OF BULK AT MOST 1048576: true; the input reads as it did. -/
def netGarbageUptoRow : OpenClaim := { program := "ytembchgiajidaaagreat", sum := "16ce988bd351040a4463702fc2a7d20ce6955bb11c9f0e3c7dc9be9699a647bd", func := "podesta/podestalaw14.NetGarbage", spec := "netGarbage", inPlace := ["slices.overlaps[podesta/api.Rule]"], unfollowed := true, recurses := true, plainKeys := false, apart := false, narrowed := true }
def NetGarbageUptoSaid : Prop := netGarbageUptoRow.holds Tryz.pinned (OpenSpec.upto netGarbageSpec)

/-- 'podestalaw14.NetLine', WHERE WHAT IT READS IS OF BULK AT MOST 1048576: true; the input reads as it did. -/
def netLineUptoRow : OpenClaim := { program := "ytembchgiajidaaagreat", sum := "16ce988bd351040a4463702fc2a7d20ce6955bb11c9f0e3c7dc9be9699a647bd", func := "podesta/podestalaw14.NetLine", spec := "netLine", inPlace := ["slices.overlaps[podesta/api.Rule]"], unfollowed := true, recurses := true, plainKeys := false, apart := false, narrowed := true }
def NetLineUptoSaid : Prop := netLineUptoRow.holds Tryz.pinned (OpenSpec.upto netLineSpec)

/-- 'podestalaw14.NetPackets', WHERE WHAT IT READS IS OF BULK AT MOST 1048576: true; the input reads as it did. -/
def netPacketsUptoRow : OpenClaim := { program := "ytembchgiajidaaagreat", sum := "16ce988bd351040a4463702fc2a7d20ce6955bb11c9f0e3c7dc9be9699a647bd", func := "podesta/podestalaw14.NetPackets", spec := "netPackets", inPlace := ["slices.overlaps[podesta/api.Rule]"], unfollowed := true, recurses := true, plainKeys := false, apart := false, narrowed := true }
def NetPacketsUptoSaid : Prop := netPacketsUptoRow.holds Tryz.pinned (OpenSpec.upto netPacketsSpec)

/-- 'podestalaw14.NetNone', WHERE WHAT IT READS IS OF BULK AT MOST 1048576: true; the input reads as it did. -/
def netNoneUptoRow : OpenClaim := { program := "ytembchgiajidaaagreat", sum := "16ce988bd351040a4463702fc2a7d20ce6955bb11c9f0e3c7dc9be9699a647bd", func := "podesta/podestalaw14.NetNone", spec := "netNone", inPlace := ["slices.overlaps[podesta/api.Rule]"], unfollowed := true, recurses := true, plainKeys := false, apart := false, narrowed := true }
def NetNoneUptoSaid : Prop := netNoneUptoRow.holds Tryz.pinned (OpenSpec.upto netNoneSpec)

end Rows
end Go.Proofs.YtembchgiajidaaaGreat
