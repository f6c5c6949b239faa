import Derived.Test.YtjchejmakdkioaaProg
import Derived.Test.YtjchejmakdkioaaM1BandFits
set_option linter.unusedVariables false
set_option linter.unusedSimpArgs false
set_option maxRecDepth 100000
set_option maxHeartbeats 4000000
namespace Go.Proofs.Ytjchejmakdkioaa
open Go.Sh
def tab : Go.Sh.Tab := [
  (1, ⟨.other, 1, 8, [.sc .nilFunc]⟩),
  (2, ⟨.int .i64, 1, 8, [.sc (.int .i64 0)]⟩),
  (3, ⟨.int .i64, 1, 8, [.sc (.int .i64 0)]⟩),
  (4, ⟨.bool, 1, 1, [.sc (.bool false)]⟩),
  (5, ⟨.int .u8, 1, 1, [.sc (.int .u8 0)]⟩),
  (9, ⟨.str, 1, 16, [.sc (.string ⟨#[]⟩)]⟩),
  (12, ⟨.int .u64, 1, 8, [.sc (.int .u64 0)]⟩),
  (13, ⟨.struct [(0, 9), (1, 12)], 2, 24, [.sc (.string ⟨#[]⟩), .sc (.int .u64 0)]⟩),
  (21, ⟨.int .i32, 1, 4, [.sc (.int .i32 0)]⟩),
  (22, ⟨.struct [(0, 3), (1, 3)], 2, 16, [.sc (.int .i64 0), .sc (.int .i64 0)]⟩),
  (23, ⟨.struct [(0, 3), (1, 3)], 2, 16, [.sc (.int .i64 0), .sc (.int .i64 0)]⟩),
  (25, ⟨.other, 1, 8, [.sc .nilFunc]⟩),
  (26, ⟨.other, 1, 8, [.sc .nilFunc]⟩),
  (27, ⟨.other, 1, 8, [.sc .nilFunc]⟩),
  (28, ⟨.other, 1, 8, [.sc .nilFunc]⟩),
  (29, ⟨.other, 1, 8, [.sc .nilFunc]⟩),
  (30, ⟨.other, 1, 8, [.sc .nilFunc]⟩),
  (31, ⟨.slice 3, 1, 24, [.sl 0 [] true]⟩),
  (32, ⟨.ptr 83, 1, 8, [.sc (.pointer none)]⟩),
  (33, ⟨.other, 1, 8, [.sc .nilFunc]⟩),
  (34, ⟨.other, 1, 8, [.sc .nilFunc]⟩),
  (35, ⟨.other, 1, 8, [.sc .nilFunc]⟩),
  (37, ⟨.other, 1, 8, [.sc .nilFunc]⟩),
  (38, ⟨.other, 1, 8, [.sc .nilFunc]⟩),
  (39, ⟨.slice 88, 1, 24, [.sl 0 [] true]⟩),
  (40, ⟨.other, 1, 8, [.sc .nilFunc]⟩),
  (41, ⟨.other, 1, 8, [.sc .nilFunc]⟩),
  (42, ⟨.other, 1, 8, [.sc .nilFunc]⟩),
  (43, ⟨.other, 1, 8, [.sc .nilFunc]⟩),
  (44, ⟨.slice 9, 1, 24, [.sl 0 [] true]⟩),
  (45, ⟨.ptr 93, 1, 8, [.sc (.pointer none)]⟩),
  (46, ⟨.other, 1, 8, [.sc .nilFunc]⟩),
  (47, ⟨.other, 1, 8, [.sc .nilFunc]⟩),
  (48, ⟨.other, 1, 8, [.sc .nilFunc]⟩),
  (50, ⟨.other, 1, 8, [.sc .nilFunc]⟩),
  (51, ⟨.other, 1, 8, [.sc .nilFunc]⟩),
  (52, ⟨.slice 66, 1, 24, [.sl 0 [] true]⟩),
  (54, ⟨.other, 1, 8, [.sc .nilFunc]⟩),
  (55, ⟨.other, 1, 8, [.sc .nilFunc]⟩),
  (56, ⟨.other, 1, 8, [.sc .nilFunc]⟩),
  (57, ⟨.int .u16, 1, 2, [.sc (.int .u16 0)]⟩),
  (58, ⟨.other, 1, 8, [.sc .nilFunc]⟩),
  (59, ⟨.int .u64, 1, 8, [.sc (.int .u64 0)]⟩),
  (60, ⟨.arr 12 59, 12, 96, [.arr .u64 12 [0, 0, 0, 0, 0, 0, 0, 0, 0, 0, 0, 0]]⟩),
  (61, ⟨.arr 12 59, 12, 96, [.arr .u64 12 [0, 0, 0, 0, 0, 0, 0, 0, 0, 0, 0, 0]]⟩),
  (62, ⟨.struct [(0, 61), (12, 61)], 24, 192, [.arr .u64 12 [0, 0, 0, 0, 0, 0, 0, 0, 0, 0, 0, 0], .arr .u64 12 [0, 0, 0, 0, 0, 0, 0, 0, 0, 0, 0, 0]]⟩),
  (63, ⟨.struct [(0, 61), (12, 61)], 24, 192, [.arr .u64 12 [0, 0, 0, 0, 0, 0, 0, 0, 0, 0, 0, 0], .arr .u64 12 [0, 0, 0, 0, 0, 0, 0, 0, 0, 0, 0, 0]]⟩),
  (64, ⟨.slice 110, 1, 24, [.sl 0 [] true]⟩),
  (65, ⟨.struct [(0, 63), (24, 3), (25, 64), (26, 3), (27, 3), (28, 3), (29, 3), (30, 3), (31, 3)], 32, 272, [.arr .u64 12 [0, 0, 0, 0, 0, 0, 0, 0, 0, 0, 0, 0], .arr .u64 12 [0, 0, 0, 0, 0, 0, 0, 0, 0, 0, 0, 0], .sc (.int .i64 0), .sl 0 [] true, .sc (.int .i64 0), .sc (.int .i64 0), .sc (.int .i64 0), .sc (.int .i64 0), .sc (.int .i64 0), .sc (.int .i64 0)]⟩),
  (66, ⟨.struct [(0, 63), (24, 3), (25, 64), (26, 3), (27, 3), (28, 3), (29, 3), (30, 3), (31, 3)], 32, 272, [.arr .u64 12 [0, 0, 0, 0, 0, 0, 0, 0, 0, 0, 0, 0], .arr .u64 12 [0, 0, 0, 0, 0, 0, 0, 0, 0, 0, 0, 0], .sc (.int .i64 0), .sl 0 [] true, .sc (.int .i64 0), .sc (.int .i64 0), .sc (.int .i64 0), .sc (.int .i64 0), .sc (.int .i64 0), .sc (.int .i64 0)]⟩),
  (67, ⟨.other, 1, 8, [.sc .nilFunc]⟩),
  (68, ⟨.other, 1, 8, [.sc .nilFunc]⟩),
  (69, ⟨.slice 99, 1, 24, [.sl 0 [] true]⟩),
  (70, ⟨.struct [(0, 3), (1, 3), (2, 3), (3, 69)], 4, 48, [.sc (.int .i64 0), .sc (.int .i64 0), .sc (.int .i64 0), .sl 0 [] true]⟩),
  (71, ⟨.struct [(0, 3), (1, 3), (2, 3), (3, 69)], 4, 48, [.sc (.int .i64 0), .sc (.int .i64 0), .sc (.int .i64 0), .sl 0 [] true]⟩),
  (72, ⟨.struct [(0, 3), (1, 3)], 2, 16, [.sc (.int .i64 0), .sc (.int .i64 0)]⟩),
  (73, ⟨.struct [(0, 3), (1, 3)], 2, 16, [.sc (.int .i64 0), .sc (.int .i64 0)]⟩),
  (75, ⟨.other, 1, 8, [.sc .nilFunc]⟩),
  (76, ⟨.int .i64, 1, 8, [.sc (.int .i64 0)]⟩),
  (77, ⟨.other, 1, 8, [.sc .nilFunc]⟩),
  (78, ⟨.slice 73, 1, 24, [.sl 0 [] true]⟩),
  (79, ⟨.other, 1, 8, [.sc .nilFunc]⟩),
  (80, ⟨.other, 1, 8, [.sc .nilFunc]⟩),
  (81, ⟨.other, 1, 8, [.sc (.chan none)]⟩),
  (82, ⟨.struct [(0, 81)], 1, 8, [.sc (.chan none)]⟩),
  (83, ⟨.struct [(0, 81)], 1, 8, [.sc (.chan none)]⟩),
  (84, ⟨.other, 1, 8, [.sc .nilFunc]⟩),
  (85, ⟨.struct [(0, 3), (1, 63), (25, 3), (26, 64), (27, 3), (28, 3), (29, 3), (30, 4)], 31, 264, [.sc (.int .i64 0), .arr .u64 12 [0, 0, 0, 0, 0, 0, 0, 0, 0, 0, 0, 0], .arr .u64 12 [0, 0, 0, 0, 0, 0, 0, 0, 0, 0, 0, 0], .sc (.int .i64 0), .sl 0 [] true, .sc (.int .i64 0), .sc (.int .i64 0), .sc (.int .i64 0), .sc (.bool false)]⟩),
  (86, ⟨.struct [(0, 3), (1, 63), (25, 3), (26, 64), (27, 3), (28, 3), (29, 3), (30, 4)], 31, 264, [.sc (.int .i64 0), .arr .u64 12 [0, 0, 0, 0, 0, 0, 0, 0, 0, 0, 0, 0], .arr .u64 12 [0, 0, 0, 0, 0, 0, 0, 0, 0, 0, 0, 0], .sc (.int .i64 0), .sl 0 [] true, .sc (.int .i64 0), .sc (.int .i64 0), .sc (.int .i64 0), .sc (.bool false)]⟩),
  (87, ⟨.struct [(0, 3), (1, 86)], 32, 272, [.sc (.int .i64 0), .sc (.int .i64 0), .arr .u64 12 [0, 0, 0, 0, 0, 0, 0, 0, 0, 0, 0, 0], .arr .u64 12 [0, 0, 0, 0, 0, 0, 0, 0, 0, 0, 0, 0], .sc (.int .i64 0), .sl 0 [] true, .sc (.int .i64 0), .sc (.int .i64 0), .sc (.int .i64 0), .sc (.bool false)]⟩),
  (88, ⟨.struct [(0, 3), (1, 86)], 32, 272, [.sc (.int .i64 0), .sc (.int .i64 0), .arr .u64 12 [0, 0, 0, 0, 0, 0, 0, 0, 0, 0, 0, 0], .arr .u64 12 [0, 0, 0, 0, 0, 0, 0, 0, 0, 0, 0, 0], .sc (.int .i64 0), .sl 0 [] true, .sc (.int .i64 0), .sc (.int .i64 0), .sc (.int .i64 0), .sc (.bool false)]⟩),
  (89, ⟨.other, 1, 8, [.sc .nilFunc]⟩),
  (90, ⟨.other, 1, 8, [.sc .nilFunc]⟩),
  (91, ⟨.other, 1, 8, [.sc (.chan none)]⟩),
  (92, ⟨.struct [(0, 91)], 1, 8, [.sc (.chan none)]⟩),
  (93, ⟨.struct [(0, 91)], 1, 8, [.sc (.chan none)]⟩),
  (94, ⟨.other, 1, 8, [.sc .nilFunc]⟩),
  (95, ⟨.other, 1, 8, [.sc .nilFunc]⟩),
  (96, ⟨.other, 1, 8, [.sc .nilFunc]⟩),
  (97, ⟨.other, 1, 8, [.sc .nilFunc]⟩),
  (98, ⟨.struct [(0, 73), (2, 73)], 4, 32, [.sc (.int .i64 0), .sc (.int .i64 0), .sc (.int .i64 0), .sc (.int .i64 0)]⟩),
  (99, ⟨.struct [(0, 73), (2, 73)], 4, 32, [.sc (.int .i64 0), .sc (.int .i64 0), .sc (.int .i64 0), .sc (.int .i64 0)]⟩),
  (100, ⟨.other, 1, 8, [.sc .nilFunc]⟩),
  (101, ⟨.other, 1, 8, [.sc (.map none)]⟩),
  (102, ⟨.other, 1, 8, [.sc .nilFunc]⟩),
  (103, ⟨.other, 1, 8, [.sc .nilFunc]⟩),
  (104, ⟨.other, 1, 8, [.sc .nilFunc]⟩),
  (105, ⟨.other, 1, 8, [.sc .nilFunc]⟩),
  (106, ⟨.other, 1, 8, [.sc .nilFunc]⟩),
  (107, ⟨.other, 1, 8, [.sc .nilFunc]⟩),
  (108, ⟨.other, 1, 8, [.sc .nilFunc]⟩),
  (109, ⟨.struct [(0, 3), (1, 3), (2, 3), (3, 59)], 4, 32, [.sc (.int .i64 0), .sc (.int .i64 0), .sc (.int .i64 0), .sc (.int .u64 0)]⟩),
  (110, ⟨.struct [(0, 3), (1, 3), (2, 3), (3, 59)], 4, 32, [.sc (.int .i64 0), .sc (.int .i64 0), .sc (.int .i64 0), .sc (.int .u64 0)]⟩),
  (111, ⟨.other, 1, 8, [.sc .nilFunc]⟩),
  (112, ⟨.other, 1, 8, [.sc .nilFunc]⟩),
  (113, ⟨.other, 1, 8, [.sc .nilFunc]⟩),
  (114, ⟨.slice 5, 1, 24, [.sl 0 [] true]⟩),
  (115, ⟨.other, 1, 8, [.sc .nilFunc]⟩),
  (116, ⟨.slice 4, 1, 24, [.sl 0 [] true]⟩),
  (117, ⟨.other, 1, 8, [.sc .nilFunc]⟩),
  (118, ⟨.int .u64, 1, 8, [.sc (.int .u64 0)]⟩),
  (119, ⟨.other, 1, 8, [.sc .nilFunc]⟩),
  (125, ⟨.int .u32, 1, 4, [.sc (.int .u32 0)]⟩),
  (128, ⟨.other, 1, 8, [.sc .nilFunc]⟩),
  (129, ⟨.ptr 5, 1, 8, [.sc (.pointer none)]⟩)]

theorem tab_ok : tab.ok Try.prog := Tab.ok_of (by kernel_rfl)
theorem mixed : Try.prog.follows .mixedOrders = true := by kernel_rfl
end Go.Proofs.Ytjchejmakdkioaa

set_option linter.unusedVariables false
set_option linter.unusedSimpArgs false
set_option maxRecDepth 100000
set_option maxHeartbeats 4000000
namespace Go.Proofs.Ytjchejmakdkioaa
open Go.Sh
theorem wrap_eq {n : Int} (h1 : -9223372036854775808 ≤ n) (h2 : n ≤ 9223372036854775807) : IntKind.i64.wrap n = n := by
  rw [IntKind.wrap_i64]; omega
theorem wrap_succ {i : Nat} (h : i < 9223372036854775807) : IntKind.i64.wrap ((i : Int) + 1) = ((i + 1 : Nat) : Int) := by
  rw [wrap_eq (by omega) (by omega)]; rfl
theorem ixO_lt {α : Type} {xs : List α} {i : Nat} (h : i < xs.length) : ixO xs (i : Int) = some xs[i] := by
  unfold ixO
  rw [if_pos (by omega), Int.toNat_natCast, List.getElem?_eq_getElem h]
theorem fitO_eq {α : Type} {n b : Nat} {r : Option α} (h : n * b ≤ 140737488355328) : fitO n b r = r := by
  unfold fitO; rw [if_pos h]
theorem reqO_eq {α : Type} {b : Bool} {r : Option α} (h : b = true) : reqO b r = r := by
  subst h; rfl
theorem zero_nat : (0 : Int) = ((0 : Nat) : Int) := rfl
def idxF {α : Type} (f : α → Bool) (l : List α) : Int := match l.findIdx? f with | some i => (i : Int) | none => -1
theorem idxF_any {α : Type} (f : α → Bool) (l : List α) : decide (idxF f l ≥ 0) = l.any f := by
  unfold idxF
  cases h : l.findIdx? f with
  | none =>
    have : l.any f = false := by
      rw [Bool.eq_false_iff]
      intro ha
      obtain ⟨x, hx, hf⟩ := List.any_eq_true.1 ha
      have := List.findIdx?_eq_none_iff.1 h x hx
      rw [hf] at this
      cases this
    rw [this]
    rfl
  | some i =>
    have : l.any f = true := by
      obtain ⟨hlt, hp, _⟩ := List.findIdx?_eq_some_iff_getElem.1 h
      exact List.any_eq_true.2 ⟨l[i], List.getElem_mem hlt, hp⟩
    rw [this]
    simp
theorem findIdx_drop {α : Type} (f : α → Bool) {l : List α} {i : Nat} (h : i < l.length) : (l.drop i).findIdx? f = if f l[i] then some 0 else ((l.drop (i + 1)).findIdx? f).map (· + 1) := by
  rw [List.drop_eq_getElem_cons h, List.findIdx?_cons]

structure Act where
  Kind : Int
  Port : Int
  Field : Int
  Value : Int
  deriving DecidableEq, Inhabited
def Act.av (r : Act) : AV := .agg [.sc (.int .i64 r.Kind), .sc (.int .i64 r.Port), .sc (.int .i64 r.Field), .sc (.int .u64 r.Value)]
structure Cube where
  Value : List Int
  Care : List Int
  deriving DecidableEq, Inhabited
def Cube.av (r : Cube) : AV := .agg [.arr .u64 12 r.Value, .arr .u64 12 r.Care]
structure Mod where
  Kind : Int
  Match : Cube
  Prio : Int
  Acts : List Act
  Idle : Int
  Hard : Int
  Owner : Int
  Check : Bool
  deriving DecidableEq, Inhabited
def Mod.av (r : Mod) : AV := .agg [.sc (.int .i64 r.Kind), .arr .u64 12 r.Match.Value, .arr .u64 12 r.Match.Care, .sc (.int .i64 r.Prio), .sl 110 (List.map Act.av r.Acts) false, .sc (.int .i64 r.Idle), .sc (.int .i64 r.Hard), .sc (.int .i64 r.Owner), .sc (.bool r.Check)]
structure Change where
  Unit : Int
  Mod : Mod
  deriving DecidableEq, Inhabited
def Change.av (r : Change) : AV := .agg [.sc (.int .i64 r.Unit), .sc (.int .i64 r.Mod.Kind), .arr .u64 12 r.Mod.Match.Value, .arr .u64 12 r.Mod.Match.Care, .sc (.int .i64 r.Mod.Prio), .sl 110 (List.map Act.av r.Mod.Acts) false, .sc (.int .i64 r.Mod.Idle), .sc (.int .i64 r.Mod.Hard), .sc (.int .i64 r.Mod.Owner), .sc (.bool r.Mod.Check)]
structure Band where
  Low : Int
  High : Int
  deriving DecidableEq, Inhabited
def Band.av (r : Band) : AV := .agg [.sc (.int .i64 r.Low), .sc (.int .i64 r.High)]

end Go.Proofs.Ytjchejmakdkioaa

set_option linter.unusedVariables false
set_option linter.unusedSimpArgs false
set_option maxRecDepth 100000
set_option maxHeartbeats 4000000
namespace Go.Proofs.Ytjchejmakdkioaa
open Go.Sh
set_option maxRecDepth 100000
open Go.ChangeShapes Go.WideShapes Go.ChangeAt Go.RowKit
def Act.wf (x : Act) : Prop := intW .i64 x.Kind ∧ intW .i64 x.Port ∧ intW .i64 x.Field ∧ intW .u64 x.Value
theorem Act.shaped {gs : List AV} (h : Shaped tab 110 gs) : ∃ x : Act, gs = [.sc (.int .i64 x.Kind), .sc (.int .i64 x.Port), .sc (.int .i64 x.Field), .sc (.int .u64 x.Value)] ∧ x.wf := by
  obtain ⟨gss, rfl, hl, hf⟩ := Shaped.struct_inv (fl := [(0, 3), (1, 3), (2, 3), (3, 59)]) (by kernel_rfl) h
  match gss, hl, hf with
  | [g0, g1, g2, g3], _, hf =>
    obtain ⟨x0, rfl, w0⟩ := Shaped.int_inv (k := .i64) (by kernel_rfl) (hf 0 _ _ rfl rfl)
    obtain ⟨x1, rfl, w1⟩ := Shaped.int_inv (k := .i64) (by kernel_rfl) (hf 1 _ _ rfl rfl)
    obtain ⟨x2, rfl, w2⟩ := Shaped.int_inv (k := .i64) (by kernel_rfl) (hf 2 _ _ rfl rfl)
    obtain ⟨x3, rfl, w3⟩ := Shaped.int_inv (k := .u64) (by kernel_rfl) (hf 3 _ _ rfl rfl)
    exact ⟨⟨x0, x1, x2, x3⟩, rfl, ⟨w0, w1, w2, w3⟩⟩
def Cube.wf (x : Cube) : Prop := arrW .u64 12 x.Value ∧ arrW .u64 12 x.Care
theorem Cube.shaped {gs : List AV} (h : Shaped tab 63 gs) : ∃ x : Cube, gs = [.arr .u64 12 x.Value, .arr .u64 12 x.Care] ∧ x.wf := by
  obtain ⟨gss, rfl, hl, hf⟩ := Shaped.struct_inv (fl := [(0, 61), (12, 61)]) (by kernel_rfl) h
  match gss, hl, hf with
  | [g0, g1], _, hf =>
    obtain ⟨x0, rfl, w0⟩ := Shaped.arr_inv (n := 12) (e := 59) (k := .u64) (by kernel_rfl) (by kernel_rfl) (hf 0 _ _ rfl rfl)
    obtain ⟨x1, rfl, w1⟩ := Shaped.arr_inv (n := 12) (e := 59) (k := .u64) (by kernel_rfl) (by kernel_rfl) (hf 1 _ _ rfl rfl)
    exact ⟨⟨x0, x1⟩, rfl, ⟨w0, w1⟩⟩
def Mod.wf (x : Mod) : Prop := intW .i64 x.Kind ∧ Cube.wf x.Match ∧ intW .i64 x.Prio ∧ (∀ y ∈ x.Acts, Act.wf y) ∧ intW .i64 x.Idle ∧ intW .i64 x.Hard ∧ intW .i64 x.Owner ∧ True
theorem Mod.shaped {gs : List AV} (h : Shaped tab 86 gs) : ∃ x : Mod, gs = [.sc (.int .i64 x.Kind), .arr .u64 12 x.Match.Value, .arr .u64 12 x.Match.Care, .sc (.int .i64 x.Prio), .sl 110 (List.map Act.av x.Acts) false, .sc (.int .i64 x.Idle), .sc (.int .i64 x.Hard), .sc (.int .i64 x.Owner), .sc (.bool x.Check)] ∧ x.wf := by
  obtain ⟨gss, rfl, hl, hf⟩ := Shaped.struct_inv (fl := [(0, 3), (1, 63), (25, 3), (26, 64), (27, 3), (28, 3), (29, 3), (30, 4)]) (by kernel_rfl) h
  match gss, hl, hf with
  | [g0, g1, g2, g3, g4, g5, g6, g7], _, hf =>
    obtain ⟨x0, rfl, w0⟩ := Shaped.int_inv (k := .i64) (by kernel_rfl) (hf 0 _ _ rfl rfl)
    obtain ⟨x1, rfl, w1⟩ := Cube.shaped (hf 1 _ _ rfl rfl)
    obtain ⟨x2, rfl, w2⟩ := Shaped.int_inv (k := .i64) (by kernel_rfl) (hf 2 _ _ rfl rfl)
    obtain ⟨q3, rfl, hq3⟩ := Shaped.slice_inv (e := 110) (by kernel_rfl) (hf 3 _ _ rfl rfl)
    obtain ⟨x3, hx3, w3⟩ := rows_typedW (G := tab) (e := 110) (av := Act.av) (wf := fun y => Act.wf y) q3 (fun g hg => by obtain ⟨x, rfl, w⟩ := Act.shaped (hq3 g hg); exact ⟨x, (by kernel_rfl), w⟩)
    obtain ⟨x4, rfl, w4⟩ := Shaped.int_inv (k := .i64) (by kernel_rfl) (hf 4 _ _ rfl rfl)
    obtain ⟨x5, rfl, w5⟩ := Shaped.int_inv (k := .i64) (by kernel_rfl) (hf 5 _ _ rfl rfl)
    obtain ⟨x6, rfl, w6⟩ := Shaped.int_inv (k := .i64) (by kernel_rfl) (hf 6 _ _ rfl rfl)
    obtain ⟨x7, rfl⟩ := Shaped.bool_inv (by kernel_rfl) (hf 7 _ _ rfl rfl)
    rw [hx3]; exact ⟨⟨x0, x1, x2, x3, x4, x5, x6, x7⟩, rfl, ⟨w0, w1, w2, w3, w4, w5, w6, trivial⟩⟩
def Change.wf (x : Change) : Prop := intW .i64 x.Unit ∧ Mod.wf x.Mod
theorem Change.shaped {gs : List AV} (h : Shaped tab 88 gs) : ∃ x : Change, gs = [.sc (.int .i64 x.Unit), .sc (.int .i64 x.Mod.Kind), .arr .u64 12 x.Mod.Match.Value, .arr .u64 12 x.Mod.Match.Care, .sc (.int .i64 x.Mod.Prio), .sl 110 (List.map Act.av x.Mod.Acts) false, .sc (.int .i64 x.Mod.Idle), .sc (.int .i64 x.Mod.Hard), .sc (.int .i64 x.Mod.Owner), .sc (.bool x.Mod.Check)] ∧ x.wf := by
  obtain ⟨gss, rfl, hl, hf⟩ := Shaped.struct_inv (fl := [(0, 3), (1, 86)]) (by kernel_rfl) h
  match gss, hl, hf with
  | [g0, g1], _, hf =>
    obtain ⟨x0, rfl, w0⟩ := Shaped.int_inv (k := .i64) (by kernel_rfl) (hf 0 _ _ rfl rfl)
    obtain ⟨x1, rfl, w1⟩ := Mod.shaped (hf 1 _ _ rfl rfl)
    exact ⟨⟨x0, x1⟩, rfl, ⟨w0, w1⟩⟩

end Go.Proofs.Ytjchejmakdkioaa

set_option linter.unusedVariables false
set_option linter.unusedSimpArgs false
set_option maxRecDepth 100000
set_option maxHeartbeats 4000000
namespace Go.Proofs.Ytjchejmakdkioaa
open Go.Sh
/-! ### slices.IndexFunc: function 56 -/
noncomputable def slices_IndexFunc__api_Change_F : Go.Sh.Fn := ⟨56, bodyOf Try.f56, 19⟩
def slices_IndexFunc__api_Change_k0 : List Kd := [.pure, .pure, .pure, .pure, .read, .pure]
def slices_IndexFunc__api_Change_l0s (f : Change → Bool) : List Change → Nat → Sum (Unit) (Int)
  | [], t8 =>
    (.inl ())
  | x :: rest, t8 =>
    (bif (f x) then
      (.inr ((t8 : Nat) : Int))
    else
      slices_IndexFunc__api_Change_l0s f rest (t8 + 1) )
theorem slices_IndexFunc__api_Change_l0_walk (s : List Change) (F_f : FuncId) (C_f : List AV) (f : Change → Bool) (P_f : plainL C_f = true) (O_f : C_f.all oneA = true) (H_f : ∀ (y0 : Change), ACalls Try.prog tab.S F_f ([Change.av y0] ++ C_f) [] (.sc (.bool (f y0))) []) (f_s : Bool) (r : Int) (c0 : Ctx) (hc0 : c0.m.length = 0) (res : Sum (Unit) (Int)) (J : ∀ w : Unit, res = .inl w → AR Try.prog tab slices_IndexFunc__api_Change_F c0 (Rp tab.S c0 (.sc (.int .i64 r)) []) [.code [1, 1]] [] []) (Jr : ∀ w, res = .inr w → w = r) :
    ∀ (rest : List Change) (t8 : Nat) (hd : s.drop t8 = rest) (H : slices_IndexFunc__api_Change_l0s f rest t8 = res), AR Try.prog tab slices_IndexFunc__api_Change_F c0 (Rp tab.S c0 (.sc (.int .i64 r)) []) [.code [1, 0, 1, 0, 0], .loop [1, 0, 1, 0], .blk 0, .code [1, 1]] [(0, .sl 88 (List.map Change.av s) f_s), (1, .fn F_f C_f), (7, .sc (.int .i64 (((List.map Change.av s).length : Nat) : Int))), (8, .sc (.int .i64 ((t8 : Nat) : Int)))] [] := by
  have hG := tab_ok
  have hm := mixed
  intro rest
  induction rest with
  | nil =>
    intro t8 hd  H
    rw [slices_IndexFunc__api_Change_l0s] at H
    refine AR.facts 0 rfl fun hf => ?_
    have hlen : s.length ≤ 9223372036854775807 := by have hq := len_ok hf.2.1; rw [List.length_map] at hq; exact hq
    have hge : s.length ≤ t8 := List.drop_eq_nil_iff.1 hd
    have hc : (decide (((t8 : Nat) : Int) < (((List.map Change.av s).length : Nat) : Int))) = false := by rw [List.length_map]; exact decide_eq_false (by omega)
    refine AR.seg hG hm 3 [0, 1, 7, 8, 9] (k' := [.code [1, 0, 1, 0, 0, 1, 0], .code [1, 0, 1, 0, 0, 1, 1], .loop [1, 0, 1, 0], .blk 0, .code [1, 1]]) (t' := [(0, .sl 88 (List.map Change.av s) f_s), (1, .fn F_f C_f), (7, .sc (.int .i64 (((List.map Change.av s).length : Nat) : Int))), (8, .sc (.int .i64 ((t8 : Nat) : Int))), (9, .sc (.bool (decide (((t8 : Nat) : Int) < (((List.map Change.av s).length : Nat) : Int)))))]) (h' := []) (by kernel_rfl) ?_
    refine AR.cond (.tmp 9) (decide (((t8 : Nat) : Int) < (((List.map Change.av s).length : Nat) : Int))) (by kernel_rfl) (by kernel_rfl) (fun hb => ?ht7) (fun hb => ?hf7)
    case ht7 => exact absurd (hb.symm.trans hc) (by decide)
    case hf7 =>
      refine AR.seg hG hm 1 [] (k' := [.code [1, 1]]) (t' := []) (h' := []) (by kernel_rfl) ?_
      refine AR.keep [] (t' := []) (by kernel_rfl) ?_
      exact J () H.symm
  | cons x rest ih =>
    intro t8 hd  H
    rw [slices_IndexFunc__api_Change_l0s] at H
    refine AR.facts 0 rfl fun hf => ?_
    have hlen : s.length ≤ 9223372036854775807 := by have hq := len_ok hf.2.1; rw [List.length_map] at hq; exact hq
    obtain ⟨hlt, hv_t8, hd2⟩ := drop_cons hd
    have hc : (decide (((t8 : Nat) : Int) < (((List.map Change.av s).length : Nat) : Int))) = true := by rw [List.length_map]; exact decide_eq_true (by omega)
    have hw : IntKind.i64.wrap (((t8 : Nat) : Int) + 1) = ((t8 + 1 : Nat) : Int) := wrapI_succ (by omega)
    refine AR.seg hG hm 3 [0, 1, 7, 8, 9] (k' := [.code [1, 0, 1, 0, 0, 1, 0], .code [1, 0, 1, 0, 0, 1, 1], .loop [1, 0, 1, 0], .blk 0, .code [1, 1]]) (t' := [(0, .sl 88 (List.map Change.av s) f_s), (1, .fn F_f C_f), (7, .sc (.int .i64 (((List.map Change.av s).length : Nat) : Int))), (8, .sc (.int .i64 ((t8 : Nat) : Int))), (9, .sc (.bool (decide (((t8 : Nat) : Int) < (((List.map Change.av s).length : Nat) : Int)))))]) (h' := []) (by kernel_rfl) ?_
    refine AR.cond (.tmp 9) (decide (((t8 : Nat) : Int) < (((List.map Change.av s).length : Nat) : Int))) (by kernel_rfl) (by kernel_rfl) (fun hb => ?ht8) (fun hb => ?hf8)
    case ht8 =>
      refine AR.seg hG hm 6 [0, 1, 5, 7, 8] (k' := [.code [1, 0, 1, 0, 0, 1, 1, 0, 0, 1, 0], .code [1, 0, 1, 0, 0, 1, 1, 0, 0, 1, 1], .blk 1, .code [1, 0, 1, 0, 0, 1, 1, 1], .loop [1, 0, 1, 0], .blk 0, .code [1, 1]]) (t' := [(0, .sl 88 (List.map Change.av s) f_s), (1, .fn F_f C_f), (5, .sc (.int .i64 ((t8 : Nat) : Int))), (7, .sc (.int .i64 (((List.map Change.av s).length : Nat) : Int))), (8, .sc (.int .i64 ((t8 : Nat) : Int)))]) (h' := []) (by kernel_rfl) ?_
      refine AR.reg hm slices_IndexFunc__api_Change_k0 (by kernel_rfl) ?_
      refine DK.seg hG 3 [0, 1, 5, 7, 8, 11, 12, 13] (t' := [(0, .sl 88 (List.map Change.av s) f_s), (1, .fn F_f C_f), (5, .sc (.int .i64 ((t8 : Nat) : Int))), (7, .sc (.int .i64 (((List.map Change.av s).length : Nat) : Int))), (8, .sc (.int .i64 ((t8 : Nat) : Int))), (11, .fn F_f C_f), (12, .sl 88 (List.map Change.av s) f_s), (13, .sc (.int .i64 ((t8 : Nat) : Int)))]) (h' := []) (by kernel_rfl) rfl ?_
      refine DK.op' [0, 1, 5, 7, 8, 11, 14] (t' := [(0, .sl 88 (List.map Change.av s) f_s), (1, .fn F_f C_f), (5, .sc (.int .i64 ((t8 : Nat) : Int))), (7, .sc (.int .i64 (((List.map Change.av s).length : Nat) : Int))), (8, .sc (.int .i64 ((t8 : Nat) : Int))), (11, .fn F_f C_f), (14, .ep [.sc (.int .i64 x.Unit), .sc (.int .i64 x.Mod.Kind), .arr .u64 12 x.Mod.Match.Value, .arr .u64 12 x.Mod.Match.Care, .sc (.int .i64 x.Mod.Prio), .sl 110 (List.map Act.av x.Mod.Acts) false, .sc (.int .i64 x.Mod.Idle), .sc (.int .i64 x.Mod.Hard), .sc (.int .i64 x.Mod.Owner), .sc (.bool x.Mod.Check)] 0 none)]) (h' := []) (LSpec.index' (r := Change.av x) (fs := [.sc (.int .i64 x.Unit), .sc (.int .i64 x.Mod.Kind), .arr .u64 12 x.Mod.Match.Value, .arr .u64 12 x.Mod.Match.Care, .sc (.int .i64 x.Mod.Prio), .sl 110 (List.map Act.av x.Mod.Acts) false, .sc (.int .i64 x.Mod.Idle), .sc (.int .i64 x.Mod.Hard), .sc (.int .i64 x.Mod.Owner), .sc (.bool x.Mod.Check)]) hG (rows := List.map Change.av s) (j := ((t8 : Nat) : Int)) (by kernel_rfl) (ixO_map hv_t8 _) (by kernel_rfl)) (by kernel_rfl) rfl (by kernel_rfl) rfl ?_
      refine DK.seg hG 1 [0, 1, 5, 7, 8, 11, 15] (t' := [(0, .sl 88 (List.map Change.av s) f_s), (1, .fn F_f C_f), (5, .sc (.int .i64 ((t8 : Nat) : Int))), (7, .sc (.int .i64 (((List.map Change.av s).length : Nat) : Int))), (8, .sc (.int .i64 ((t8 : Nat) : Int))), (11, .fn F_f C_f), (15, Change.av x)]) (h' := []) (by kernel_rfl) rfl ?_
      refine DK.op' [0, 1, 5, 7, 8, 16] (t' := [(0, .sl 88 (List.map Change.av s) f_s), (1, .fn F_f C_f), (5, .sc (.int .i64 ((t8 : Nat) : Int))), (7, .sc (.int .i64 (((List.map Change.av s).length : Nat) : Int))), (8, .sc (.int .i64 ((t8 : Nat) : Int))), (16, .sc (.bool (f x)))]) (h' := []) (LSpec.callFP' (H_f x) (by kernel_rfl) P_f O_f) (by kernel_rfl) rfl (by kernel_rfl) rfl ?_
      refine DK.done (by kernel_rfl) (by kernel_rfl) ?_
      refine AR.cond (.tmp 16) (f x) (by kernel_rfl) (by kernel_rfl) (fun hb => ?ht9) (fun hb => ?hf9)
      case ht9 =>
        replace H := cond_t hb H
        refine AR.seg hG hm 2 [4] (k' := [.code [1, 0, 1, 0, 0, 1, 1, 0, 0, 1, 1, 0, 1], .blk 1, .code [1, 0, 1, 0, 0, 1, 1, 1], .loop [1, 0, 1, 0], .blk 0, .code [1, 1]]) (t' := [(4, .sc (.int .i64 ((t8 : Nat) : Int)))]) (h' := []) (by kernel_rfl) ?_
        subst H
        obtain rfl := Jr _ rfl
        exact AR.ret0 (fn := Try.f56) hG Try.func56 (by kernel_rfl) hc0 (r0 := .sc (.int .i64 ((t8 : Nat) : Int))) (by kernel_rfl) (WkV.refl _)
      case hf9 =>
        replace H := cond_f hb H
        refine AR.seg hG hm 3 [0, 1, 7, 8] (k' := [.loop [1, 0, 1, 0], .blk 0, .code [1, 1]]) (t' := [(0, .sl 88 (List.map Change.av s) f_s), (1, .fn F_f C_f), (7, .sc (.int .i64 (((List.map Change.av s).length : Nat) : Int))), (8, .sc (.int .i64 (IntKind.i64.wrap (((t8 : Nat) : Int) + 1))))]) (h' := []) (by kernel_rfl) ?_
        refine AR.keep [0, 1, 7, 8] (t' := [(0, .sl 88 (List.map Change.av s) f_s), (1, .fn F_f C_f), (7, .sc (.int .i64 (((List.map Change.av s).length : Nat) : Int))), (8, .sc (.int .i64 (IntKind.i64.wrap (((t8 : Nat) : Int) + 1))))]) (by kernel_rfl) ?_
        refine AR.loop_round ?_
        rw [hw]
        exact ih (t8 + 1) hd2 H
    case hf8 => exact absurd (hc.symm.trans hb) (by decide)

def slices_IndexFunc__api_Change (s : List Change) (f : Change → Bool) : Int :=
  sumG (fun q => q) (slices_IndexFunc__api_Change_l0s f s 0) fun v =>
  (-1)
theorem slices_IndexFunc__api_Change_walk (s : List Change) (F_f : FuncId) (C_f : List AV) (f : Change → Bool) (P_f : plainL C_f = true) (O_f : C_f.all oneA = true) (H_f : ∀ (y0 : Change), ACalls Try.prog tab.S F_f ([Change.av y0] ++ C_f) [] (.sc (.bool (f y0))) []) (f_s : Bool) (r : Int) (H : slices_IndexFunc__api_Change s f = r) :
    ACalls Try.prog tab.S 56 [.sl 88 (List.map Change.av s) f_s, .fn F_f C_f] [] (.sc (.int .i64 r)) [] := by
  have hG := tab_ok
  have hm := mixed
  refine ACalls.of_AR (G := tab) slices_IndexFunc__api_Change_F (fn := Try.f56) Try.func56 (by kernel_rfl) (by kernel_rfl) (by kernel_rfl) (Nat.le_of_ble_eq_true (by kernel_rfl)) ?_
  intro c0 hc0
  replace hc0 : c0.m.length = 0 := hc0
  rw [slices_IndexFunc__api_Change] at H
  refine AR.seg hG hm 6 [0, 1, 7, 8] (k' := [.code [1, 0, 1, 0], .blk 0, .code [1, 1]]) (t' := [(0, .sl 88 (List.map Change.av s) f_s), (1, .fn F_f C_f), (7, .sc (.int .i64 (((List.map Change.av s).length : Nat) : Int))), (8, .sc (.int .i64 0))]) (h' := []) (by kernel_rfl) ?_
  rcases sumG_eq H with ⟨v, hv, H⟩ | ⟨r1, hv, hr1⟩
  case inr =>
    refine AR.into (by kernel_rfl) ?_
    replace hr1 : r1 = r := hr1
    subst hr1
    exact slices_IndexFunc__api_Change_l0_walk s F_f C_f f P_f O_f H_f f_s _ c0 hc0 (.inr _) (fun _ e => by cases e) (fun _ e => (Sum.inr.inj e).symm) s 0 rfl hv
  refine AR.into (by kernel_rfl) ?_
  refine slices_IndexFunc__api_Change_l0_walk s F_f C_f f P_f O_f H_f f_s r c0 hc0 (.inl v) (fun w e => ?_) (fun _ e => by cases e) s 0 rfl hv
  have e := Sum.inl.inj e
  subst e
  refine AR.seg hG hm 2 [4] (k' := [.code [1, 1, 1]]) (t' := [(4, .sc (.int .i64 (-1)))]) (h' := []) (by kernel_rfl) ?_
  subst H
  exact AR.ret0 (fn := Try.f56) hG Try.func56 (by kernel_rfl) hc0 (r0 := .sc (.int .i64 (-1))) (by kernel_rfl) (WkV.refl _)
theorem slices_IndexFunc__api_Change_calls (s : List Change) (F_f : FuncId) (C_f : List AV) (f : Change → Bool) (P_f : plainL C_f = true) (O_f : C_f.all oneA = true) (H_f : ∀ (y0 : Change), ACalls Try.prog tab.S F_f ([Change.av y0] ++ C_f) [] (.sc (.bool (f y0))) []) (f_s : Bool) : ACalls Try.prog tab.S 56 [.sl 88 (List.map Change.av s) f_s, .fn F_f C_f] [] (.sc (.int .i64 (slices_IndexFunc__api_Change s f))) [] := slices_IndexFunc__api_Change_walk s F_f C_f f P_f O_f H_f f_s _ rfl

theorem slices_IndexFunc__api_Change_l0s_eq (f : Change → Bool) : ∀ (l : List Change) (i : Nat), slices_IndexFunc__api_Change_l0s f l i = match l.findIdx? f with | some k => .inr ((i + k : Nat) : Int) | none => .inl ()
  | [], i => rfl
  | x :: l, i => by
      rw [slices_IndexFunc__api_Change_l0s, List.findIdx?_cons, slices_IndexFunc__api_Change_l0s_eq f l (i + 1)]
      cases f x
      · simp only [cond_false, Bool.false_eq_true, if_false]
        cases l.findIdx? f with
        | none => rfl
        | some k => simp only [Option.map_some]; rw [show i + 1 + k = i + (k + 1) by omega]
      · rfl
theorem slices_IndexFunc__api_Change_idx (s : List Change) (f : Change → Bool) : slices_IndexFunc__api_Change s f = idxF f s := by
  rw [slices_IndexFunc__api_Change, slices_IndexFunc__api_Change_l0s_eq]
  unfold idxF sumG
  cases s.findIdx? f with
  | none => rfl
  | some k => simp only [Nat.zero_add]

/-! ### slices.ContainsFunc: function 44 -/
noncomputable def slices_ContainsFunc__api_Change_F : Go.Sh.Fn := ⟨44, bodyOf Try.f44, 9⟩
def slices_ContainsFunc__api_Change_k0 : List Kd := [.pure, .pure, .read, .pure, .pure]
def slices_ContainsFunc__api_Change (s : List Change) (f : Change → Bool) : Bool :=
  (decide ((slices_IndexFunc__api_Change s f) ≥ 0))
theorem slices_ContainsFunc__api_Change_walk (s : List Change) (F_f : FuncId) (C_f : List AV) (f : Change → Bool) (P_f : plainL C_f = true) (O_f : C_f.all oneA = true) (H_f : ∀ (y0 : Change), ACalls Try.prog tab.S F_f ([Change.av y0] ++ C_f) [] (.sc (.bool (f y0))) []) (f_s : Bool) (r : Bool) (H : slices_ContainsFunc__api_Change s f = r) :
    ACalls Try.prog tab.S 44 [.sl 88 (List.map Change.av s) f_s, .fn F_f C_f] [] (.sc (.bool r)) [] := by
  have hG := tab_ok
  have hm := mixed
  refine ACalls.of_AR (G := tab) slices_ContainsFunc__api_Change_F (fn := Try.f44) Try.func44 (by kernel_rfl) (by kernel_rfl) (by kernel_rfl) (Nat.le_of_ble_eq_true (by kernel_rfl)) ?_
  intro c0 hc0
  replace hc0 : c0.m.length = 0 := hc0
  rw [slices_ContainsFunc__api_Change] at H
  refine AR.seg hG hm 3 [0, 1] (k' := [.code [1, 0], .code [1, 1]]) (t' := [(0, .sl 88 (List.map Change.av s) f_s), (1, .fn F_f C_f)]) (h' := []) (by kernel_rfl) ?_
  refine AR.reg hm slices_ContainsFunc__api_Change_k0 (by kernel_rfl) ?_
  refine DK.seg hG 2 [5, 6] (t' := [(5, .sl 88 (List.map Change.av s) f_s), (6, .fn F_f C_f)]) (h' := []) (by kernel_rfl) rfl ?_
  refine DK.op' [7] (t' := [(7, .sc (.int .i64 (slices_IndexFunc__api_Change s f)))]) (h' := []) (LSpec.callF' (caps := []) (slices_IndexFunc__api_Change_calls s F_f C_f f P_f O_f H_f f_s) (by kernel_rfl) (.same rfl (.fn (caps := C_f) (lendC_plain C_f P_f) .nil)) (by kernel_rfl) rfl rfl) (by kernel_rfl) rfl (by kernel_rfl) rfl ?_
  refine DK.seg hG 2 [4] (t' := [(4, .sc (.bool (decide ((slices_IndexFunc__api_Change s f) ≥ 0))))]) (h' := []) (by kernel_rfl) rfl ?_
  refine DK.done (by kernel_rfl) (by kernel_rfl) ?_
  subst H
  exact AR.ret0 (fn := Try.f44) hG Try.func44 (by kernel_rfl) hc0 (r0 := .sc (.bool (decide ((slices_IndexFunc__api_Change s f) ≥ 0)))) (by kernel_rfl) (WkV.refl _)
theorem slices_ContainsFunc__api_Change_calls (s : List Change) (F_f : FuncId) (C_f : List AV) (f : Change → Bool) (P_f : plainL C_f = true) (O_f : C_f.all oneA = true) (H_f : ∀ (y0 : Change), ACalls Try.prog tab.S F_f ([Change.av y0] ++ C_f) [] (.sc (.bool (f y0))) []) (f_s : Bool) : ACalls Try.prog tab.S 44 [.sl 88 (List.map Change.av s) f_s, .fn F_f C_f] [] (.sc (.bool (slices_ContainsFunc__api_Change s f))) [] := slices_ContainsFunc__api_Change_walk s F_f C_f f P_f O_f H_f f_s _ rfl

theorem slices_ContainsFunc__api_Change_any (s : List Change) (f : Change → Bool) : slices_ContainsFunc__api_Change s f = s.any f := by
  rw [slices_ContainsFunc__api_Change, slices_IndexFunc__api_Change_idx, idxF_any]

/-! ### band.Of: function 15 -/
noncomputable def band_Of_F : Go.Sh.Fn := ⟨15, bodyOf Try.f15, 18⟩
def band_Of_k0 : List Kd := [.pure, .pure, .pure, .pure, .pure, .pure]
def band_Of (app : Int) : Band × Bool :=
  (bif ((decide (app < 1)) || (decide (app > 8))) then
    (({ Low := 0, High := 0 } : Band), false)
  else
    (({ Low := (IntKind.i64.wrap (app * 1000)), High := (IntKind.i64.wrap ((IntKind.i64.wrap ((IntKind.i64.wrap (app + 1)) * 1000)) - 1)) } : Band), true))
theorem band_Of_walk (app : Int) (r : Band × Bool) (H : band_Of app = r) :
    ACalls Try.prog tab.S 15 [.sc (.int .i64 app)] [] (.tup [Band.av r.1, .sc (.bool r.2)]) [] := by
  have hG := tab_ok
  have hm := mixed
  refine ACalls.of_AR (G := tab) band_Of_F (fn := Try.f15) Try.func15 (by kernel_rfl) (by kernel_rfl) (by kernel_rfl) (Nat.le_of_ble_eq_true (by kernel_rfl)) ?_
  intro c0 hc0
  replace hc0 : c0.m.length = 0 := hc0
  rw [band_Of] at H
  refine AR.seg hG hm 4 [0, 2] (k' := [.code [1, 0, 0], .code [1, 0, 1], .code [1, 1]]) (t' := [(0, .sc (.int .i64 app)), (2, .ptr 0 0 none)]) (h' := [.box 23 [.sc (.int .i64 0), .sc (.int .i64 0)]]) (by kernel_rfl) ?_
  refine AR.reg hm band_Of_k0 (by kernel_rfl) ?_
  refine DK.seg hG 3 [0, 2, 6] (t' := [(0, .sc (.int .i64 app)), (2, .ptr 0 0 none), (6, .sc (.bool (decide (app < 1))))]) (h' := [.box 23 [.sc (.int .i64 0), .sc (.int .i64 0)]]) (by kernel_rfl) rfl ?_
  refine DK.mux 6 (decide (app < 1)) (j := 6) (h' := [.box 23 [.sc (.int .i64 0), .sc (.int .i64 0)]]) (by kernel_rfl) (fun z => [(0, .sc (.int .i64 app)), (2, .ptr 0 0 none), (9, .sc (.bool (z || (decide (app > 8)))))]) ?J1 (fun hb J => ?ht1) (fun hb J => ?hf1)
  case ht1 =>
    exact DK.seg hG 3 [0, 2, 9] (by kernel_rfl) rfl J
  case hf1 =>
    exact DK.seg hG 3 [0, 2, 9] (by kernel_rfl) rfl J
  refine DK.done (by kernel_rfl) (by kernel_rfl) ?_
  refine AR.cond (.tmp 9) ((decide (app < 1)) || (decide (app > 8))) (by kernel_rfl) (by kernel_rfl) (fun hb => ?ht2) (fun hb => ?hf2)
  case ht2 =>
    replace H := cond_t hb H
    refine AR.seg hG hm 2 [2, 3] (k' := [.code [1, 0, 1, 0, 1], .code [1, 1]]) (t' := [(2, .ptr 0 0 none), (3, .sc (.bool false))]) (h' := [.box 23 [.sc (.int .i64 0), .sc (.int .i64 0)]]) (by kernel_rfl) ?_
    subst H
    exact AR.ret0 (fn := Try.f15) hG Try.func15 (by kernel_rfl) hc0 (r0 := .tup [.agg [.sc (.int .i64 0), .sc (.int .i64 0)], .sc (.bool false)]) (by kernel_rfl) (WkV.refl _)
  case hf2 =>
    replace H := cond_f hb H
    refine AR.seg hG hm 3 [2, 3] (k' := [.code [1, 1, 1]]) (t' := [(2, .ptr 0 0 none), (3, .sc (.bool true))]) (h' := [.box 23 [.sc (.int .i64 (IntKind.i64.wrap (app * 1000))), .sc (.int .i64 (IntKind.i64.wrap ((IntKind.i64.wrap ((IntKind.i64.wrap (app + 1)) * 1000)) - 1)))]]) (by kernel_rfl) ?_
    subst H
    exact AR.ret0 (fn := Try.f15) hG Try.func15 (by kernel_rfl) hc0 (r0 := .tup [.agg [.sc (.int .i64 (IntKind.i64.wrap (app * 1000))), .sc (.int .i64 (IntKind.i64.wrap ((IntKind.i64.wrap ((IntKind.i64.wrap (app + 1)) * 1000)) - 1)))], .sc (.bool true)]) (by kernel_rfl) (WkV.refl _)
theorem band_Of_calls (app : Int) : ACalls Try.prog tab.S 15 [.sc (.int .i64 app)] [] (.tup [Band.av ((band_Of app).1), .sc (.bool ((band_Of app).2))]) [] := band_Of_walk app _ rfl

/-! ### band.In: function 18 -/
noncomputable def band_In_F : Go.Sh.Fn := ⟨18, bodyOf Try.f18, 15⟩
def band_In_k0 : List Kd := [.pure, .pure, .read, .pure, .pure, .pure, .pure, .read, .pure, .pure, .pure]
def band_In (b : Band) (prio : Int) : Bool :=
  ((decide (prio ≥ b.Low)) && (decide (prio ≤ b.High)))
theorem band_In_walk (b : Band) (prio : Int) (r : Bool) (H : band_In b prio = r) :
    ACalls Try.prog tab.S 18 [Band.av b, .sc (.int .i64 prio)] [] (.sc (.bool r)) [] := by
  have hG := tab_ok
  have hm := mixed
  refine ACalls.of_AR (G := tab) band_In_F (fn := Try.f18) Try.func18 (by kernel_rfl) (by kernel_rfl) (by kernel_rfl) (Nat.le_of_ble_eq_true (by kernel_rfl)) ?_
  intro c0 hc0
  replace hc0 : c0.m.length = 0 := hc0
  rw [band_In] at H
  refine AR.seg hG hm 3 [1, 2] (k' := [.code [1, 0], .code [1, 1]]) (t' := [(1, .sc (.int .i64 prio)), (2, .ptr 0 0 none)]) (h' := [.box 23 [.sc (.int .i64 b.Low), .sc (.int .i64 b.High)]]) (by kernel_rfl) ?_
  refine AR.reg hm band_In_k0 (by kernel_rfl) ?_
  refine DK.seg hG 5 [1, 2, 9] (t' := [(1, .sc (.int .i64 prio)), (2, .ptr 0 0 none), (9, .sc (.bool (decide (prio ≥ b.Low))))]) (h' := [.box 23 [.sc (.int .i64 b.Low), .sc (.int .i64 b.High)]]) (by kernel_rfl) rfl ?_
  refine DK.mux 9 (decide (prio ≥ b.Low)) (j := 10) (h' := [.box 23 [.sc (.int .i64 b.Low), .sc (.int .i64 b.High)]]) (by kernel_rfl) (fun z => [(14, .sc (.bool (z && (decide (prio ≤ b.High)))))]) ?J1 (fun hb J => ?ht1) (fun hb J => ?hf1)
  case ht1 =>
    exact DK.seg hG 5 [14] (by kernel_rfl) rfl J
  case hf1 =>
    exact DK.seg hG 5 [14] (by kernel_rfl) rfl J
  refine DK.seg hG 1 [4] (t' := [(4, .sc (.bool ((decide (prio ≥ b.Low)) && (decide (prio ≤ b.High)))))]) (h' := [.box 23 [.sc (.int .i64 b.Low), .sc (.int .i64 b.High)]]) (by kernel_rfl) rfl ?_
  refine DK.done (by kernel_rfl) (by kernel_rfl) ?_
  subst H
  exact AR.ret0 (fn := Try.f18) hG Try.func18 (by kernel_rfl) hc0 (r0 := .sc (.bool ((decide (prio ≥ b.Low)) && (decide (prio ≤ b.High))))) (by kernel_rfl) (WkV.refl _)
theorem band_In_calls (b : Band) (prio : Int) : ACalls Try.prog tab.S 18 [Band.av b, .sc (.int .i64 prio)] [] (.sc (.bool (band_In b prio))) [] := band_In_walk b prio _ rfl

/-! ### band.fits: function 46 -/
noncomputable def band_fits_F : Go.Sh.Fn := ⟨46, bodyOf Try.f46, 29⟩
def band_fits_k1 : List Kd := [.pure, .read, .pure, .pure, .pure, .pure, .pure, .read, .pure, .read, .pure, .pure, .pure, .pure]
def band_fits_k0 : List Kd := [.pure, .read, .pure, .pure, .pure, .read, .pure, .pure, .pure]
def band_fits (app : Int) (b : Band) (m1 : Mod) : Bool :=
  ((m1.Owner == app) && (((m1.Kind == 2) || (m1.Kind == 3)) || (band_In b m1.Prio)))
theorem band_fits_walk (app : Int) (b : Band) (m1 : Mod) (r : Bool) (H : band_fits app b m1 = r) :
    ACalls Try.prog tab.S 46 [.sc (.int .i64 app), Band.av b, Mod.av m1] [] (.sc (.bool r)) [] := by
  have hG := tab_ok
  have hm := mixed
  refine ACalls.of_AR (G := tab) band_fits_F (fn := Try.f46) Try.func46 (by kernel_rfl) (by kernel_rfl) (by kernel_rfl) (Nat.le_of_ble_eq_true (by kernel_rfl)) ?_
  intro c0 hc0
  replace hc0 : c0.m.length = 0 := hc0
  rw [band_fits] at H
  refine AR.seg hG hm 3 [0, 4, 5] (k' := [.code [1, 0], .code [1, 1]]) (t' := [(0, .sc (.int .i64 app)), (4, .ptr 0 0 none), (5, .ptr 1 0 none)]) (h' := [.box 23 [.sc (.int .i64 b.Low), .sc (.int .i64 b.High)], .box 86 [.sc (.int .i64 m1.Kind), .arr .u64 12 m1.Match.Value, .arr .u64 12 m1.Match.Care, .sc (.int .i64 m1.Prio), .sl 110 (List.map Act.av m1.Acts) false, .sc (.int .i64 m1.Idle), .sc (.int .i64 m1.Hard), .sc (.int .i64 m1.Owner), .sc (.bool m1.Check)]]) (by kernel_rfl) ?_
  refine AR.reg hm band_fits_k0 (by kernel_rfl) ?_
  refine DK.seg hG 4 [0, 4, 5, 11] (t' := [(0, .sc (.int .i64 app)), (4, .ptr 0 0 none), (5, .ptr 1 0 none), (11, .sc (.bool (m1.Kind == 2)))]) (h' := [.box 23 [.sc (.int .i64 b.Low), .sc (.int .i64 b.High)], .box 86 [.sc (.int .i64 m1.Kind), .arr .u64 12 m1.Match.Value, .arr .u64 12 m1.Match.Care, .sc (.int .i64 m1.Prio), .sl 110 (List.map Act.av m1.Acts) false, .sc (.int .i64 m1.Idle), .sc (.int .i64 m1.Hard), .sc (.int .i64 m1.Owner), .sc (.bool m1.Check)]]) (by kernel_rfl) rfl ?_
  refine DK.mux 11 (m1.Kind == 2) (j := 8) (h' := [.box 23 [.sc (.int .i64 b.Low), .sc (.int .i64 b.High)], .box 86 [.sc (.int .i64 m1.Kind), .arr .u64 12 m1.Match.Value, .arr .u64 12 m1.Match.Care, .sc (.int .i64 m1.Prio), .sl 110 (List.map Act.av m1.Acts) false, .sc (.int .i64 m1.Idle), .sc (.int .i64 m1.Hard), .sc (.int .i64 m1.Owner), .sc (.bool m1.Check)]]) (by kernel_rfl) (fun z => [(0, .sc (.int .i64 app)), (4, .ptr 0 0 none), (5, .ptr 1 0 none), (15, .sc (.bool (z || (m1.Kind == 3))))]) ?J1 (fun hb J => ?ht1) (fun hb J => ?hf1)
  case ht1 =>
    exact DK.seg hG 4 [0, 4, 5, 15] (by kernel_rfl) rfl J
  case hf1 =>
    exact DK.seg hG 4 [0, 4, 5, 15] (by kernel_rfl) rfl J
  refine DK.seg hG 1 [0, 4, 5, 7] (t' := [(0, .sc (.int .i64 app)), (4, .ptr 0 0 none), (5, .ptr 1 0 none), (7, .sc (.bool ((m1.Kind == 2) || (m1.Kind == 3))))]) (h' := [.box 23 [.sc (.int .i64 b.Low), .sc (.int .i64 b.High)], .box 86 [.sc (.int .i64 m1.Kind), .arr .u64 12 m1.Match.Value, .arr .u64 12 m1.Match.Care, .sc (.int .i64 m1.Prio), .sl 110 (List.map Act.av m1.Acts) false, .sc (.int .i64 m1.Idle), .sc (.int .i64 m1.Hard), .sc (.int .i64 m1.Owner), .sc (.bool m1.Check)]]) (by kernel_rfl) rfl ?_
  refine DK.done (by kernel_rfl) (by kernel_rfl) ?_
  refine AR.seg hG hm 1 [0, 4, 5, 7] (k' := [.code [1, 1, 0], .code [1, 1, 1]]) (t' := [(0, .sc (.int .i64 app)), (4, .ptr 0 0 none), (5, .ptr 1 0 none), (7, .sc (.bool ((m1.Kind == 2) || (m1.Kind == 3))))]) (h' := [.box 23 [.sc (.int .i64 b.Low), .sc (.int .i64 b.High)], .box 86 [.sc (.int .i64 m1.Kind), .arr .u64 12 m1.Match.Value, .arr .u64 12 m1.Match.Care, .sc (.int .i64 m1.Prio), .sl 110 (List.map Act.av m1.Acts) false, .sc (.int .i64 m1.Idle), .sc (.int .i64 m1.Hard), .sc (.int .i64 m1.Owner), .sc (.bool m1.Check)]]) (by kernel_rfl) ?_
  refine AR.reg hm band_fits_k1 (by kernel_rfl) ?_
  refine DK.seg hG 5 [4, 5, 7, 20] (t' := [(4, .ptr 0 0 none), (5, .ptr 1 0 none), (7, .sc (.bool ((m1.Kind == 2) || (m1.Kind == 3)))), (20, .sc (.bool (m1.Owner == app)))]) (h' := [.box 23 [.sc (.int .i64 b.Low), .sc (.int .i64 b.High)], .box 86 [.sc (.int .i64 m1.Kind), .arr .u64 12 m1.Match.Value, .arr .u64 12 m1.Match.Care, .sc (.int .i64 m1.Prio), .sl 110 (List.map Act.av m1.Acts) false, .sc (.int .i64 m1.Idle), .sc (.int .i64 m1.Hard), .sc (.int .i64 m1.Owner), .sc (.bool m1.Check)]]) (by kernel_rfl) rfl ?_
  refine DK.mux 20 (m1.Owner == app) (j := 13) (h' := [.box 23 [.sc (.int .i64 b.Low), .sc (.int .i64 b.High)], .box 86 [.sc (.int .i64 m1.Kind), .arr .u64 12 m1.Match.Value, .arr .u64 12 m1.Match.Care, .sc (.int .i64 m1.Prio), .sl 110 (List.map Act.av m1.Acts) false, .sc (.int .i64 m1.Idle), .sc (.int .i64 m1.Hard), .sc (.int .i64 m1.Owner), .sc (.bool m1.Check)]]) (by kernel_rfl) (fun z => [(28, .sc (.bool (z && (((m1.Kind == 2) || (m1.Kind == 3)) || (band_In b m1.Prio)))))]) ?J3 (fun hb J => ?ht3) (fun hb J => ?hf3)
  case ht3 =>
    refine DK.seg hG 2 [4, 5, 20, 22] (t' := [(4, .ptr 0 0 none), (5, .ptr 1 0 none), (20, .sc (.bool true)), (22, .sc (.bool ((m1.Kind == 2) || (m1.Kind == 3))))]) (h' := [.box 23 [.sc (.int .i64 b.Low), .sc (.int .i64 b.High)], .box 86 [.sc (.int .i64 m1.Kind), .arr .u64 12 m1.Match.Value, .arr .u64 12 m1.Match.Care, .sc (.int .i64 m1.Prio), .sl 110 (List.map Act.av m1.Acts) false, .sc (.int .i64 m1.Idle), .sc (.int .i64 m1.Hard), .sc (.int .i64 m1.Owner), .sc (.bool m1.Check)]]) (by kernel_rfl) rfl ?_
    refine DK.mux 22 ((m1.Kind == 2) || (m1.Kind == 3)) (j := 12) (h' := [.box 23 [.sc (.int .i64 b.Low), .sc (.int .i64 b.High)], .box 86 [.sc (.int .i64 m1.Kind), .arr .u64 12 m1.Match.Value, .arr .u64 12 m1.Match.Care, .sc (.int .i64 m1.Prio), .sl 110 (List.map Act.av m1.Acts) false, .sc (.int .i64 m1.Idle), .sc (.int .i64 m1.Hard), .sc (.int .i64 m1.Owner), .sc (.bool m1.Check)]]) (by kernel_rfl) (fun z => [(20, .sc (.bool true)), (27, .sc (.bool (z || (band_In b m1.Prio))))]) ?J4 (fun hb J => ?ht4) (fun hb J => ?hf4)
    case ht4 =>
      exact DK.seg hG 5 [20, 27] (by kernel_rfl) rfl J
    case hf4 =>
      refine DK.seg hG 3 [20, 22, 23, 25] (t' := [(20, .sc (.bool true)), (22, .sc (.bool false)), (23, Band.av b), (25, .sc (.int .i64 m1.Prio))]) (h' := [.box 23 [.sc (.int .i64 b.Low), .sc (.int .i64 b.High)], .box 86 [.sc (.int .i64 m1.Kind), .arr .u64 12 m1.Match.Value, .arr .u64 12 m1.Match.Care, .sc (.int .i64 m1.Prio), .sl 110 (List.map Act.av m1.Acts) false, .sc (.int .i64 m1.Idle), .sc (.int .i64 m1.Hard), .sc (.int .i64 m1.Owner), .sc (.bool m1.Check)]]) (by kernel_rfl) rfl ?_
      refine DK.op' [20, 22, 26] (t' := [(20, .sc (.bool true)), (22, .sc (.bool false)), (26, .sc (.bool (band_In b m1.Prio)))]) (h' := [.box 23 [.sc (.int .i64 b.Low), .sc (.int .i64 b.High)], .box 86 [.sc (.int .i64 m1.Kind), .arr .u64 12 m1.Match.Value, .arr .u64 12 m1.Match.Care, .sc (.int .i64 m1.Prio), .sl 110 (List.map Act.av m1.Acts) false, .sc (.int .i64 m1.Idle), .sc (.int .i64 m1.Hard), .sc (.int .i64 m1.Owner), .sc (.bool m1.Check)]]) (LSpec.callP' (band_In_calls b m1.Prio) (by kernel_rfl)) (by kernel_rfl) rfl (by kernel_rfl) rfl ?_
      exact DK.seg hG 1 [20, 27] (by kernel_rfl) rfl J
    exact DK.seg hG 1 [28] (by kernel_rfl) rfl J
  case hf3 =>
    exact DK.seg hG 8 [28] (by kernel_rfl) rfl J
  refine DK.seg hG 1 [6] (t' := [(6, .sc (.bool ((m1.Owner == app) && (((m1.Kind == 2) || (m1.Kind == 3)) || (band_In b m1.Prio)))))]) (h' := [.box 23 [.sc (.int .i64 b.Low), .sc (.int .i64 b.High)], .box 86 [.sc (.int .i64 m1.Kind), .arr .u64 12 m1.Match.Value, .arr .u64 12 m1.Match.Care, .sc (.int .i64 m1.Prio), .sl 110 (List.map Act.av m1.Acts) false, .sc (.int .i64 m1.Idle), .sc (.int .i64 m1.Hard), .sc (.int .i64 m1.Owner), .sc (.bool m1.Check)]]) (by kernel_rfl) rfl ?_
  refine DK.done (by kernel_rfl) (by kernel_rfl) ?_
  subst H
  exact AR.ret0 (fn := Try.f46) hG Try.func46 (by kernel_rfl) hc0 (r0 := .sc (.bool ((m1.Owner == app) && (((m1.Kind == 2) || (m1.Kind == 3)) || (band_In b m1.Prio))))) (by kernel_rfl) (WkV.refl _)
theorem band_fits_calls (app : Int) (b : Band) (m1 : Mod) : ACalls Try.prog tab.S 46 [.sc (.int .i64 app), Band.av b, Mod.av m1] [] (.sc (.bool (band_fits app b m1))) [] := band_fits_walk app b m1 _ rfl

/-! ### band.Fits$1: function 45 -/
noncomputable def band_Fits_1_F : Go.Sh.Fn := ⟨45, bodyOf Try.f45, 11⟩
def band_Fits_1_k0 : List Kd := [.read, .read, .pure, .read, .pure, .pure, .pure]
def band_Fits_1 (c : Change) (c1 : Int) (c2 : Band) : Bool :=
  (!(band_fits c1 c2 c.Mod))
theorem band_Fits_1_walk (c : Change) (c1 : Int) (c2 : Band) (r : Bool) (H : band_Fits_1 c c1 c2 = r) :
    ACalls Try.prog tab.S 45 [Change.av c, .ep [.sc (.int .i64 c1)] 0 none, .ep [.sc (.int .i64 c2.Low), .sc (.int .i64 c2.High)] 0 none] [] (.sc (.bool r)) [] := by
  have hG := tab_ok
  have hm := mixed
  refine ACalls.of_AR (G := tab) band_Fits_1_F (fn := Try.f45) Try.func45 (by kernel_rfl) (by kernel_rfl) (by kernel_rfl) (Nat.le_of_ble_eq_true (by kernel_rfl)) ?_
  intro c0 hc0
  replace hc0 : c0.m.length = 0 := hc0
  rw [band_Fits_1] at H
  refine AR.seg hG hm 3 [1, 2, 3] (k' := [.code [1, 0], .code [1, 1]]) (t' := [(1, .ep [.sc (.int .i64 c1)] 0 none), (2, .ep [.sc (.int .i64 c2.Low), .sc (.int .i64 c2.High)] 0 none), (3, .ptr 0 0 none)]) (h' := [.box 88 [.sc (.int .i64 c.Unit), .sc (.int .i64 c.Mod.Kind), .arr .u64 12 c.Mod.Match.Value, .arr .u64 12 c.Mod.Match.Care, .sc (.int .i64 c.Mod.Prio), .sl 110 (List.map Act.av c.Mod.Acts) false, .sc (.int .i64 c.Mod.Idle), .sc (.int .i64 c.Mod.Hard), .sc (.int .i64 c.Mod.Owner), .sc (.bool c.Mod.Check)]]) (by kernel_rfl) ?_
  refine AR.reg hm band_Fits_1_k0 (by kernel_rfl) ?_
  refine DK.seg hG 4 [5, 6, 8] (t' := [(5, .sc (.int .i64 c1)), (6, Band.av c2), (8, Mod.av c.Mod)]) (h' := [.box 88 [.sc (.int .i64 c.Unit), .sc (.int .i64 c.Mod.Kind), .arr .u64 12 c.Mod.Match.Value, .arr .u64 12 c.Mod.Match.Care, .sc (.int .i64 c.Mod.Prio), .sl 110 (List.map Act.av c.Mod.Acts) false, .sc (.int .i64 c.Mod.Idle), .sc (.int .i64 c.Mod.Hard), .sc (.int .i64 c.Mod.Owner), .sc (.bool c.Mod.Check)]]) (by kernel_rfl) rfl ?_
  refine DK.op' [9] (t' := [(9, .sc (.bool (band_fits c1 c2 c.Mod)))]) (h' := [.box 88 [.sc (.int .i64 c.Unit), .sc (.int .i64 c.Mod.Kind), .arr .u64 12 c.Mod.Match.Value, .arr .u64 12 c.Mod.Match.Care, .sc (.int .i64 c.Mod.Prio), .sl 110 (List.map Act.av c.Mod.Acts) false, .sc (.int .i64 c.Mod.Idle), .sc (.int .i64 c.Mod.Hard), .sc (.int .i64 c.Mod.Owner), .sc (.bool c.Mod.Check)]]) (LSpec.callP' (band_fits_calls c1 c2 c.Mod) (by kernel_rfl)) (by kernel_rfl) rfl (by kernel_rfl) rfl ?_
  refine DK.seg hG 2 [4] (t' := [(4, .sc (.bool (!(band_fits c1 c2 c.Mod))))]) (h' := [.box 88 [.sc (.int .i64 c.Unit), .sc (.int .i64 c.Mod.Kind), .arr .u64 12 c.Mod.Match.Value, .arr .u64 12 c.Mod.Match.Care, .sc (.int .i64 c.Mod.Prio), .sl 110 (List.map Act.av c.Mod.Acts) false, .sc (.int .i64 c.Mod.Idle), .sc (.int .i64 c.Mod.Hard), .sc (.int .i64 c.Mod.Owner), .sc (.bool c.Mod.Check)]]) (by kernel_rfl) rfl ?_
  refine DK.done (by kernel_rfl) (by kernel_rfl) ?_
  subst H
  exact AR.ret0 (fn := Try.f45) hG Try.func45 (by kernel_rfl) hc0 (r0 := .sc (.bool (!(band_fits c1 c2 c.Mod)))) (by kernel_rfl) (WkV.refl _)
theorem band_Fits_1_calls (c : Change) (c1 : Int) (c2 : Band) : ACalls Try.prog tab.S 45 [Change.av c, .ep [.sc (.int .i64 c1)] 0 none, .ep [.sc (.int .i64 c2.Low), .sc (.int .i64 c2.High)] 0 none] [] (.sc (.bool (band_Fits_1 c c1 c2))) [] := band_Fits_1_walk c c1 c2 _ rfl

/-! ### band.Fits: function 24 -/
noncomputable def band_Fits_F : Go.Sh.Fn := ⟨24, bodyOf Try.f24, 19⟩
def band_Fits_k1 : List Kd := [.pure, .pure, .pure, .pure, .read, .pure, .pure, .pure]
def band_Fits_k0 : List Kd := [.read, .pure, .pure, .pure, .pure, .loud, .loud, .pure]
def band_Fits (app : Int) (list : List Change) : Bool :=
  ((band_Of app).2 && (!(slices_ContainsFunc__api_Change list (fun y0 => band_Fits_1 y0 app ((band_Of app).1)))))
theorem band_Fits_walk (app : Int) (list : List Change) (f_list : Bool) (r : Bool) (H : band_Fits app list = r) :
    ACalls Try.prog tab.S 24 [.sc (.int .i64 app), .sl 88 (List.map Change.av list) f_list] [] (.sc (.bool r)) [] := by
  have hG := tab_ok
  have hm := mixed
  refine ACalls.of_AR (G := tab) band_Fits_F (fn := Try.f24) Try.func24 (by kernel_rfl) (by kernel_rfl) (by kernel_rfl) (Nat.le_of_ble_eq_true (by kernel_rfl)) ?_
  intro c0 hc0
  replace hc0 : c0.m.length = 0 := hc0
  rw [band_Fits] at H
  refine AR.seg hG hm 3 [1, 2] (k' := [.code [1, 0], .code [1, 1]]) (t' := [(1, .sl 88 (List.map Change.av list) f_list), (2, .ptr 0 0 none)]) (h' := [.box 3 [.sc (.int .i64 app)]]) (by kernel_rfl) ?_
  refine AR.reg hm band_Fits_k0 (by kernel_rfl) ?_
  refine DK.seg hG 1 [1, 2, 8] (t' := [(1, .sl 88 (List.map Change.av list) f_list), (2, .ptr 0 0 none), (8, .sc (.int .i64 app))]) (h' := [.box 3 [.sc (.int .i64 app)]]) (by kernel_rfl) rfl ?_
  refine DK.op' [1, 2, 9] (t' := [(1, .sl 88 (List.map Change.av list) f_list), (2, .ptr 0 0 none), (9, .tup [Band.av ((band_Of app).1), .sc (.bool ((band_Of app).2))])]) (h' := [.box 3 [.sc (.int .i64 app)]]) (LSpec.callP' (band_Of_calls app) (by kernel_rfl)) (by kernel_rfl) rfl (by kernel_rfl) rfl ?_
  refine DK.seg hG 6 [1, 2, 5, 6] (t' := [(1, .sl 88 (List.map Change.av list) f_list), (2, .ptr 0 0 none), (5, .ptr 1 0 none), (6, .sc (.bool ((band_Of app).2)))]) (h' := [.box 3 [.sc (.int .i64 app)], .box 23 [.sc (.int .i64 (((band_Of app).1).Low)), .sc (.int .i64 (((band_Of app).1).High))]]) (by kernel_rfl) rfl ?_
  refine DK.done (by kernel_rfl) (by kernel_rfl) ?_
  refine AR.seg hG hm 1 [1, 2, 5, 6] (k' := [.code [1, 1, 0], .code [1, 1, 1]]) (t' := [(1, .sl 88 (List.map Change.av list) f_list), (2, .ptr 0 0 none), (5, .ptr 1 0 none), (6, .sc (.bool ((band_Of app).2)))]) (h' := [.box 3 [.sc (.int .i64 app)], .box 23 [.sc (.int .i64 (((band_Of app).1).Low)), .sc (.int .i64 (((band_Of app).1).High))]]) (by kernel_rfl) ?_
  refine AR.reg hm band_Fits_k1 (by kernel_rfl) ?_
  refine DK.seg hG 2 [1, 2, 5, 13] (t' := [(1, .sl 88 (List.map Change.av list) f_list), (2, .ptr 0 0 none), (5, .ptr 1 0 none), (13, .sc (.bool ((band_Of app).2)))]) (h' := [.box 3 [.sc (.int .i64 app)], .box 23 [.sc (.int .i64 (((band_Of app).1).Low)), .sc (.int .i64 (((band_Of app).1).High))]]) (by kernel_rfl) rfl ?_
  refine DK.mux 13 ((band_Of app).2) (j := 7) (h' := [.box 3 [.sc (.int .i64 app)], .box 23 [.sc (.int .i64 (((band_Of app).1).Low)), .sc (.int .i64 (((band_Of app).1).High))]]) (by kernel_rfl) (fun z => [(18, .sc (.bool (z && (!(slices_ContainsFunc__api_Change list (fun y0 => band_Fits_1 y0 app ((band_Of app).1)))))))]) ?J1 (fun hb J => ?ht1) (fun hb J => ?hf1)
  case ht1 =>
    refine DK.seg hG 2 [13, 14, 15] (t' := [(13, .sc (.bool true)), (14, .sl 88 (List.map Change.av list) f_list), (15, .fn 45 [.ptr 0 0 none, .ptr 1 0 none])]) (h' := [.box 3 [.sc (.int .i64 app)], .box 23 [.sc (.int .i64 (((band_Of app).1).Low)), .sc (.int .i64 (((band_Of app).1).High))]]) (by kernel_rfl) rfl ?_
    refine DK.op' [13, 16] (t' := [(13, .sc (.bool true)), (16, .sc (.bool (slices_ContainsFunc__api_Change list (fun y0 => band_Fits_1 y0 app ((band_Of app).1)))))]) (h' := [.box 3 [.sc (.int .i64 app)], .box 23 [.sc (.int .i64 (((band_Of app).1).Low)), .sc (.int .i64 (((band_Of app).1).High))]]) (LSpec.callF' (caps := []) (slices_ContainsFunc__api_Change_calls list 45 [.ep [.sc (.int .i64 app)] 0 none, .ep [.sc (.int .i64 (((band_Of app).1).Low)), .sc (.int .i64 (((band_Of app).1).High))] 0 none] (fun y0 => band_Fits_1 y0 app ((band_Of app).1)) rfl rfl (fun y0 => band_Fits_1_calls y0 app ((band_Of app).1)) f_list) (by kernel_rfl) (.same rfl (.fn (caps := [.ptr 0 0 none, .ptr 1 0 none]) (by kernel_rfl) .nil)) (by kernel_rfl) rfl rfl) (by kernel_rfl) rfl (by kernel_rfl) rfl ?_
    exact DK.seg hG 2 [18] (by kernel_rfl) rfl J
  case hf1 =>
    exact DK.seg hG 5 [18] (by kernel_rfl) rfl J
  refine DK.seg hG 1 [4] (t' := [(4, .sc (.bool ((band_Of app).2 && (!(slices_ContainsFunc__api_Change list (fun y0 => band_Fits_1 y0 app ((band_Of app).1)))))))]) (h' := [.box 3 [.sc (.int .i64 app)], .box 23 [.sc (.int .i64 (((band_Of app).1).Low)), .sc (.int .i64 (((band_Of app).1).High))]]) (by kernel_rfl) rfl ?_
  refine DK.done (by kernel_rfl) (by kernel_rfl) ?_
  subst H
  exact AR.ret0 (fn := Try.f24) hG Try.func24 (by kernel_rfl) hc0 (r0 := .sc (.bool ((band_Of app).2 && (!(slices_ContainsFunc__api_Change list (fun y0 => band_Fits_1 y0 app ((band_Of app).1))))))) (by kernel_rfl) (WkV.refl _)
theorem band_Fits_calls (app : Int) (list : List Change) (f_list : Bool) : ACalls Try.prog tab.S 24 [.sc (.int .i64 app), .sl 88 (List.map Change.av list) f_list] [] (.sc (.bool (band_Fits app list))) [] := band_Fits_walk app list f_list _ rfl

end Go.Proofs.Ytjchejmakdkioaa

set_option linter.unusedVariables false
set_option linter.unusedSimpArgs false
set_option maxRecDepth 100000
set_option maxHeartbeats 4000000
namespace Go.Proofs.Ytjchejmakdkioaa
open Go.Sh
/-! ### podestaref19.Fits: function 25 -/
noncomputable def podestaref19_Fits_F : Go.Sh.Fn := ⟨25, bodyOf Try.f25, 53⟩
def podestaref19_Fits_k1 : List Kd := [.pure, .read, .pure, .pure, .pure, .pure, .read, .pure, .pure, .pure, .read, .pure, .pure, .pure, .pure, .read, .pure, .pure, .pure, .pure, .pure, .read, .pure, .pure, .pure, .pure, .pure, .pure, .pure]
def podestaref19_Fits_k0 : List Kd := [.pure, .pure, .pure, .pure, .read, .loud, .loud]
def podestaref19_Fits_k2 : List Kd := [.pure, .pure, .pure, .pure, .pure, .pure, .pure]
def podestaref19_Fits_l0s (app : Int) : List Change → Sum (Unit) (Bool)
  | [] =>
    (.inl ())
  | x :: rest =>
    (bif ((x.Mod.Owner != app) || (((x.Mod.Kind != 2) && (x.Mod.Kind != 3)) && ((decide (x.Mod.Prio < (IntKind.i64.wrap (1000 * app)))) || (decide (x.Mod.Prio > (IntKind.i64.wrap ((IntKind.i64.wrap (1000 * app)) + 999))))))) then
      (.inr false)
    else
      podestaref19_Fits_l0s app rest )
theorem podestaref19_Fits_l0_walk (app : Int) (l : List Change) (f_l : Bool) (r : Bool) (c0 : Ctx) (hc0 : c0.m.length = 0) (res : Sum (Unit) (Bool)) (J : ∀ w : Unit, res = .inl w → AR Try.prog tab podestaref19_Fits_F c0 (Rp tab.S c0 (.sc (.bool r)) []) [.code [1, 1]] [(0, .sc (.int .i64 app))] []) (Jr : ∀ w, res = .inr w → w = r) :
    ∀ (rest : List Change) (i : Nat) (hd : l.drop i = rest) (H : podestaref19_Fits_l0s app rest = res), AR Try.prog tab podestaref19_Fits_F c0 (Rp tab.S c0 (.sc (.bool r)) []) [.code [1, 0, 1, 0, 0], .loop [1, 0, 1, 0], .blk 0, .code [1, 1]] [(0, .sc (.int .i64 app)), (1, .sl 88 (List.map Change.av l) f_l), (5, .sc (.int .i64 ((i : Nat) : Int)))] [] := by
  have hG := tab_ok
  have hm := mixed
  intro rest
  induction rest with
  | nil =>
    intro i hd  H
    rw [podestaref19_Fits_l0s] at H
    refine AR.facts 1 rfl fun hf => ?_
    have hlen : l.length ≤ 9223372036854775807 := by have hq := len_ok hf.2.1; rw [List.length_map] at hq; exact hq
    have hge : l.length ≤ i := List.drop_eq_nil_iff.1 hd
    have hc : (decide (((i : Nat) : Int) < (((List.map Change.av l).length : Nat) : Int))) = false := by rw [List.length_map]; exact decide_eq_false (by omega)
    refine AR.seg hG hm 3 [0, 1, 5, 10] (k' := [.code [1, 0, 1, 0, 0, 0, 1], .code [1, 0, 1, 0, 0, 1], .loop [1, 0, 1, 0], .blk 0, .code [1, 1]]) (t' := [(0, .sc (.int .i64 app)), (1, .sl 88 (List.map Change.av l) f_l), (5, .sc (.int .i64 ((i : Nat) : Int))), (10, .sc (.bool (decide (((i : Nat) : Int) < (((List.map Change.av l).length : Nat) : Int)))))]) (h' := []) (by kernel_rfl) ?_
    refine AR.cond (.tmp 10) (decide (((i : Nat) : Int) < (((List.map Change.av l).length : Nat) : Int))) (by kernel_rfl) (by kernel_rfl) (fun hb => ?ht34) (fun hb => ?hf34)
    case ht34 => exact absurd (hb.symm.trans hc) (by decide)
    case hf34 =>
      refine AR.seg hG hm 1 [0] (k' := [.code [1, 1]]) (t' := [(0, .sc (.int .i64 app))]) (h' := []) (by kernel_rfl) ?_
      refine AR.keep [0] (t' := [(0, .sc (.int .i64 app))]) (by kernel_rfl) ?_
      exact J () H.symm
  | cons x rest ih =>
    intro i hd  H
    rw [podestaref19_Fits_l0s] at H
    refine AR.facts 1 rfl fun hf => ?_
    have hlen : l.length ≤ 9223372036854775807 := by have hq := len_ok hf.2.1; rw [List.length_map] at hq; exact hq
    obtain ⟨hlt, hv_i, hd2⟩ := drop_cons hd
    have hc : (decide (((i : Nat) : Int) < (((List.map Change.av l).length : Nat) : Int))) = true := by rw [List.length_map]; exact decide_eq_true (by omega)
    have hw : IntKind.i64.wrap (((i : Nat) : Int) + 1) = ((i + 1 : Nat) : Int) := wrapI_succ (by omega)
    refine AR.seg hG hm 3 [0, 1, 5, 10] (k' := [.code [1, 0, 1, 0, 0, 0, 1], .code [1, 0, 1, 0, 0, 1], .loop [1, 0, 1, 0], .blk 0, .code [1, 1]]) (t' := [(0, .sc (.int .i64 app)), (1, .sl 88 (List.map Change.av l) f_l), (5, .sc (.int .i64 ((i : Nat) : Int))), (10, .sc (.bool (decide (((i : Nat) : Int) < (((List.map Change.av l).length : Nat) : Int)))))]) (h' := []) (by kernel_rfl) ?_
    refine AR.cond (.tmp 10) (decide (((i : Nat) : Int) < (((List.map Change.av l).length : Nat) : Int))) (by kernel_rfl) (by kernel_rfl) (fun hb => ?ht35) (fun hb => ?hf35)
    case ht35 =>
      refine AR.seg hG hm 4 [0, 1, 5] (k' := [.code [1, 0, 1, 0, 0, 1, 0, 0, 0], .code [1, 0, 1, 0, 0, 1, 0, 0, 1], .blk 1, .code [1, 0, 1, 0, 0, 1, 1], .loop [1, 0, 1, 0], .blk 0, .code [1, 1]]) (t' := [(0, .sc (.int .i64 app)), (1, .sl 88 (List.map Change.av l) f_l), (5, .sc (.int .i64 ((i : Nat) : Int)))]) (h' := []) (by kernel_rfl) ?_
      refine AR.reg hm podestaref19_Fits_k0 (by kernel_rfl) ?_
      refine DK.seg hG 2 [0, 1, 5, 13, 14] (t' := [(0, .sc (.int .i64 app)), (1, .sl 88 (List.map Change.av l) f_l), (5, .sc (.int .i64 ((i : Nat) : Int))), (13, .sl 88 (List.map Change.av l) f_l), (14, .sc (.int .i64 ((i : Nat) : Int)))]) (h' := []) (by kernel_rfl) rfl ?_
      refine DK.op' [0, 1, 5, 15] (t' := [(0, .sc (.int .i64 app)), (1, .sl 88 (List.map Change.av l) f_l), (5, .sc (.int .i64 ((i : Nat) : Int))), (15, .ep [.sc (.int .i64 x.Unit), .sc (.int .i64 x.Mod.Kind), .arr .u64 12 x.Mod.Match.Value, .arr .u64 12 x.Mod.Match.Care, .sc (.int .i64 x.Mod.Prio), .sl 110 (List.map Act.av x.Mod.Acts) false, .sc (.int .i64 x.Mod.Idle), .sc (.int .i64 x.Mod.Hard), .sc (.int .i64 x.Mod.Owner), .sc (.bool x.Mod.Check)] 0 none)]) (h' := []) (LSpec.index' (r := Change.av x) (fs := [.sc (.int .i64 x.Unit), .sc (.int .i64 x.Mod.Kind), .arr .u64 12 x.Mod.Match.Value, .arr .u64 12 x.Mod.Match.Care, .sc (.int .i64 x.Mod.Prio), .sl 110 (List.map Act.av x.Mod.Acts) false, .sc (.int .i64 x.Mod.Idle), .sc (.int .i64 x.Mod.Hard), .sc (.int .i64 x.Mod.Owner), .sc (.bool x.Mod.Check)]) hG (rows := List.map Change.av l) (j := ((i : Nat) : Int)) (by kernel_rfl) (ixO_map hv_i _) (by kernel_rfl)) (by kernel_rfl) rfl (by kernel_rfl) rfl ?_
      refine DK.seg hG 4 [0, 1, 5, 6] (t' := [(0, .sc (.int .i64 app)), (1, .sl 88 (List.map Change.av l) f_l), (5, .sc (.int .i64 ((i : Nat) : Int))), (6, .ptr 0 0 none)]) (h' := [.box 86 [.sc (.int .i64 x.Mod.Kind), .arr .u64 12 x.Mod.Match.Value, .arr .u64 12 x.Mod.Match.Care, .sc (.int .i64 x.Mod.Prio), .sl 110 (List.map Act.av x.Mod.Acts) false, .sc (.int .i64 x.Mod.Idle), .sc (.int .i64 x.Mod.Hard), .sc (.int .i64 x.Mod.Owner), .sc (.bool x.Mod.Check)]]) (by kernel_rfl) rfl ?_
      refine DK.done (by kernel_rfl) (by kernel_rfl) ?_
      refine AR.seg hG hm 1 [0, 1, 5, 6] (k' := [.code [1, 0, 1, 0, 0, 1, 0, 0, 1, 0], .code [1, 0, 1, 0, 0, 1, 0, 0, 1, 1], .blk 1, .code [1, 0, 1, 0, 0, 1, 1], .loop [1, 0, 1, 0], .blk 0, .code [1, 1]]) (t' := [(0, .sc (.int .i64 app)), (1, .sl 88 (List.map Change.av l) f_l), (5, .sc (.int .i64 ((i : Nat) : Int))), (6, .ptr 0 0 none)]) (h' := [.box 86 [.sc (.int .i64 x.Mod.Kind), .arr .u64 12 x.Mod.Match.Value, .arr .u64 12 x.Mod.Match.Care, .sc (.int .i64 x.Mod.Prio), .sl 110 (List.map Act.av x.Mod.Acts) false, .sc (.int .i64 x.Mod.Idle), .sc (.int .i64 x.Mod.Hard), .sc (.int .i64 x.Mod.Owner), .sc (.bool x.Mod.Check)]]) (by kernel_rfl) ?_
      refine AR.reg hm podestaref19_Fits_k1 (by kernel_rfl) ?_
      refine DK.seg hG 5 [0, 1, 5, 6, 22] (t' := [(0, .sc (.int .i64 app)), (1, .sl 88 (List.map Change.av l) f_l), (5, .sc (.int .i64 ((i : Nat) : Int))), (6, .ptr 0 0 none), (22, .sc (.bool (x.Mod.Owner != app)))]) (h' := [.box 86 [.sc (.int .i64 x.Mod.Kind), .arr .u64 12 x.Mod.Match.Value, .arr .u64 12 x.Mod.Match.Care, .sc (.int .i64 x.Mod.Prio), .sl 110 (List.map Act.av x.Mod.Acts) false, .sc (.int .i64 x.Mod.Idle), .sc (.int .i64 x.Mod.Hard), .sc (.int .i64 x.Mod.Owner), .sc (.bool x.Mod.Check)]]) (by kernel_rfl) rfl ?_
      refine DK.mux 22 (x.Mod.Owner != app) (j := 29) (h' := [.box 86 [.sc (.int .i64 x.Mod.Kind), .arr .u64 12 x.Mod.Match.Value, .arr .u64 12 x.Mod.Match.Care, .sc (.int .i64 x.Mod.Prio), .sl 110 (List.map Act.av x.Mod.Acts) false, .sc (.int .i64 x.Mod.Idle), .sc (.int .i64 x.Mod.Hard), .sc (.int .i64 x.Mod.Owner), .sc (.bool x.Mod.Check)]]) (by kernel_rfl) (fun z => [(0, .sc (.int .i64 app)), (1, .sl 88 (List.map Change.av l) f_l), (5, .sc (.int .i64 ((i : Nat) : Int))), (46, .sc (.bool (z || (((x.Mod.Kind != 2) && (x.Mod.Kind != 3)) && ((decide (x.Mod.Prio < (IntKind.i64.wrap (1000 * app)))) || (decide (x.Mod.Prio > (IntKind.i64.wrap ((IntKind.i64.wrap (1000 * app)) + 999)))))))))]) ?J40 (fun hb J => ?ht40) (fun hb J => ?hf40)
      case ht40 =>
        exact DK.seg hG 24 [0, 1, 5, 46] (by kernel_rfl) rfl J
      case hf40 =>
        refine DK.seg hG 4 [0, 1, 5, 6, 22, 26] (t' := [(0, .sc (.int .i64 app)), (1, .sl 88 (List.map Change.av l) f_l), (5, .sc (.int .i64 ((i : Nat) : Int))), (6, .ptr 0 0 none), (22, .sc (.bool false)), (26, .sc (.bool (x.Mod.Kind != 2)))]) (h' := [.box 86 [.sc (.int .i64 x.Mod.Kind), .arr .u64 12 x.Mod.Match.Value, .arr .u64 12 x.Mod.Match.Care, .sc (.int .i64 x.Mod.Prio), .sl 110 (List.map Act.av x.Mod.Acts) false, .sc (.int .i64 x.Mod.Idle), .sc (.int .i64 x.Mod.Hard), .sc (.int .i64 x.Mod.Owner), .sc (.bool x.Mod.Check)]]) (by kernel_rfl) rfl ?_
        refine DK.mux 26 (x.Mod.Kind != 2) (j := 13) (h' := [.box 86 [.sc (.int .i64 x.Mod.Kind), .arr .u64 12 x.Mod.Match.Value, .arr .u64 12 x.Mod.Match.Care, .sc (.int .i64 x.Mod.Prio), .sl 110 (List.map Act.av x.Mod.Acts) false, .sc (.int .i64 x.Mod.Idle), .sc (.int .i64 x.Mod.Hard), .sc (.int .i64 x.Mod.Owner), .sc (.bool x.Mod.Check)]]) (by kernel_rfl) (fun z => [(0, .sc (.int .i64 app)), (1, .sl 88 (List.map Change.av l) f_l), (5, .sc (.int .i64 ((i : Nat) : Int))), (6, .ptr 0 0 none), (22, .sc (.bool false)), (30, .sc (.bool (z && (x.Mod.Kind != 3))))]) ?J41 (fun hb J => ?ht41) (fun hb J => ?hf41)
        case ht41 =>
          exact DK.seg hG 4 [0, 1, 5, 6, 22, 30] (by kernel_rfl) rfl J
        case hf41 =>
          exact DK.seg hG 4 [0, 1, 5, 6, 22, 30] (by kernel_rfl) rfl J
        refine DK.seg hG 1 [0, 1, 5, 6, 22, 31] (t' := [(0, .sc (.int .i64 app)), (1, .sl 88 (List.map Change.av l) f_l), (5, .sc (.int .i64 ((i : Nat) : Int))), (6, .ptr 0 0 none), (22, .sc (.bool false)), (31, .sc (.bool ((x.Mod.Kind != 2) && (x.Mod.Kind != 3))))]) (h' := [.box 86 [.sc (.int .i64 x.Mod.Kind), .arr .u64 12 x.Mod.Match.Value, .arr .u64 12 x.Mod.Match.Care, .sc (.int .i64 x.Mod.Prio), .sl 110 (List.map Act.av x.Mod.Acts) false, .sc (.int .i64 x.Mod.Idle), .sc (.int .i64 x.Mod.Hard), .sc (.int .i64 x.Mod.Owner), .sc (.bool x.Mod.Check)]]) (by kernel_rfl) rfl ?_
        refine DK.mux 31 ((x.Mod.Kind != 2) && (x.Mod.Kind != 3)) (j := 28) (h' := [.box 86 [.sc (.int .i64 x.Mod.Kind), .arr .u64 12 x.Mod.Match.Value, .arr .u64 12 x.Mod.Match.Care, .sc (.int .i64 x.Mod.Prio), .sl 110 (List.map Act.av x.Mod.Acts) false, .sc (.int .i64 x.Mod.Idle), .sc (.int .i64 x.Mod.Hard), .sc (.int .i64 x.Mod.Owner), .sc (.bool x.Mod.Check)]]) (by kernel_rfl) (fun z => [(0, .sc (.int .i64 app)), (1, .sl 88 (List.map Change.av l) f_l), (5, .sc (.int .i64 ((i : Nat) : Int))), (22, .sc (.bool false)), (45, .sc (.bool (z && ((decide (x.Mod.Prio < (IntKind.i64.wrap (1000 * app)))) || (decide (x.Mod.Prio > (IntKind.i64.wrap ((IntKind.i64.wrap (1000 * app)) + 999))))))))]) ?J43 (fun hb J => ?ht43) (fun hb J => ?hf43)
        case ht43 =>
          refine DK.seg hG 6 [0, 1, 5, 6, 22, 31, 37] (t' := [(0, .sc (.int .i64 app)), (1, .sl 88 (List.map Change.av l) f_l), (5, .sc (.int .i64 ((i : Nat) : Int))), (6, .ptr 0 0 none), (22, .sc (.bool false)), (31, .sc (.bool true)), (37, .sc (.bool (decide (x.Mod.Prio < (IntKind.i64.wrap (1000 * app))))))]) (h' := [.box 86 [.sc (.int .i64 x.Mod.Kind), .arr .u64 12 x.Mod.Match.Value, .arr .u64 12 x.Mod.Match.Care, .sc (.int .i64 x.Mod.Prio), .sl 110 (List.map Act.av x.Mod.Acts) false, .sc (.int .i64 x.Mod.Idle), .sc (.int .i64 x.Mod.Hard), .sc (.int .i64 x.Mod.Owner), .sc (.bool x.Mod.Check)]]) (by kernel_rfl) rfl ?_
          refine DK.mux 37 (decide (x.Mod.Prio < (IntKind.i64.wrap (1000 * app)))) (j := 27) (h' := [.box 86 [.sc (.int .i64 x.Mod.Kind), .arr .u64 12 x.Mod.Match.Value, .arr .u64 12 x.Mod.Match.Care, .sc (.int .i64 x.Mod.Prio), .sl 110 (List.map Act.av x.Mod.Acts) false, .sc (.int .i64 x.Mod.Idle), .sc (.int .i64 x.Mod.Hard), .sc (.int .i64 x.Mod.Owner), .sc (.bool x.Mod.Check)]]) (by kernel_rfl) (fun z => [(0, .sc (.int .i64 app)), (1, .sl 88 (List.map Change.av l) f_l), (5, .sc (.int .i64 ((i : Nat) : Int))), (22, .sc (.bool false)), (31, .sc (.bool true)), (44, .sc (.bool (z || (decide (x.Mod.Prio > (IntKind.i64.wrap ((IntKind.i64.wrap (1000 * app)) + 999)))))))]) ?J44 (fun hb J => ?ht44) (fun hb J => ?hf44)
          case ht44 =>
            exact DK.seg hG 7 [0, 1, 5, 22, 31, 44] (by kernel_rfl) rfl J
          case hf44 =>
            exact DK.seg hG 7 [0, 1, 5, 22, 31, 44] (by kernel_rfl) rfl J
          exact DK.seg hG 1 [0, 1, 5, 22, 45] (by kernel_rfl) rfl J
        case hf43 =>
          exact DK.seg hG 14 [0, 1, 5, 22, 45] (by kernel_rfl) rfl J
        exact DK.seg hG 1 [0, 1, 5, 46] (by kernel_rfl) rfl J
      refine DK.done (by kernel_rfl) (by kernel_rfl) ?_
      refine AR.cond (.tmp 46) ((x.Mod.Owner != app) || (((x.Mod.Kind != 2) && (x.Mod.Kind != 3)) && ((decide (x.Mod.Prio < (IntKind.i64.wrap (1000 * app)))) || (decide (x.Mod.Prio > (IntKind.i64.wrap ((IntKind.i64.wrap (1000 * app)) + 999))))))) (by kernel_rfl) (by kernel_rfl) (fun hb => ?ht45) (fun hb => ?hf45)
      case ht45 =>
        replace H := cond_t hb H
        refine AR.seg hG hm 2 [4] (k' := [.code [1, 0, 1, 0, 0, 1, 0, 0, 1, 1, 0, 1], .blk 1, .code [1, 0, 1, 0, 0, 1, 1], .loop [1, 0, 1, 0], .blk 0, .code [1, 1]]) (t' := [(4, .sc (.bool false))]) (h' := [.box 86 [.sc (.int .i64 x.Mod.Kind), .arr .u64 12 x.Mod.Match.Value, .arr .u64 12 x.Mod.Match.Care, .sc (.int .i64 x.Mod.Prio), .sl 110 (List.map Act.av x.Mod.Acts) false, .sc (.int .i64 x.Mod.Idle), .sc (.int .i64 x.Mod.Hard), .sc (.int .i64 x.Mod.Owner), .sc (.bool x.Mod.Check)]]) (by kernel_rfl) ?_
        subst H
        obtain rfl := Jr _ rfl
        exact AR.ret0 (fn := Try.f25) hG Try.func25 (by kernel_rfl) hc0 (r0 := .sc (.bool false)) (by kernel_rfl) (WkV.refl _)
      case hf45 =>
        replace H := cond_f hb H
        refine AR.seg hG hm 3 [0, 1, 5] (k' := [.loop [1, 0, 1, 0], .blk 0, .code [1, 1]]) (t' := [(0, .sc (.int .i64 app)), (1, .sl 88 (List.map Change.av l) f_l), (5, .sc (.int .i64 (IntKind.i64.wrap (((i : Nat) : Int) + 1))))]) (h' := [.box 86 [.sc (.int .i64 x.Mod.Kind), .arr .u64 12 x.Mod.Match.Value, .arr .u64 12 x.Mod.Match.Care, .sc (.int .i64 x.Mod.Prio), .sl 110 (List.map Act.av x.Mod.Acts) false, .sc (.int .i64 x.Mod.Idle), .sc (.int .i64 x.Mod.Hard), .sc (.int .i64 x.Mod.Owner), .sc (.bool x.Mod.Check)]]) (by kernel_rfl) ?_
        refine AR.keep [0, 1, 5] (t' := [(0, .sc (.int .i64 app)), (1, .sl 88 (List.map Change.av l) f_l), (5, .sc (.int .i64 (IntKind.i64.wrap (((i : Nat) : Int) + 1))))]) (by kernel_rfl) ?_
        refine AR.drop' 0 hc0 (t' := [(0, .sc (.int .i64 app)), (1, .sl 88 (List.map Change.av l) f_l), (5, .sc (.int .i64 (IntKind.i64.wrap (((i : Nat) : Int) + 1))))]) (h' := []) (by kernel_rfl) ?_
        refine AR.loop_round ?_
        rw [hw]
        exact ih (i + 1) hd2 H
    case hf35 => exact absurd (hc.symm.trans hb) (by decide)

def podestaref19_Fits (app : Int) (l : List Change) : Bool :=
  sumG (fun q => q) (podestaref19_Fits_l0s app l) fun v =>
  ((decide (app ≥ 1)) && (decide (app ≤ 8)))
theorem podestaref19_Fits_walk (app : Int) (l : List Change) (f_l : Bool) (r : Bool) (H : podestaref19_Fits app l = r) :
    ACalls Try.prog tab.S 25 [.sc (.int .i64 app), .sl 88 (List.map Change.av l) f_l] [] (.sc (.bool r)) [] := by
  have hG := tab_ok
  have hm := mixed
  refine ACalls.of_AR (G := tab) podestaref19_Fits_F (fn := Try.f25) Try.func25 (by kernel_rfl) (by kernel_rfl) (by kernel_rfl) (Nat.le_of_ble_eq_true (by kernel_rfl)) ?_
  intro c0 hc0
  replace hc0 : c0.m.length = 0 := hc0
  rw [podestaref19_Fits] at H
  refine AR.seg hG hm 6 [0, 1, 5] (k' := [.code [1, 0, 1, 0], .blk 0, .code [1, 1]]) (t' := [(0, .sc (.int .i64 app)), (1, .sl 88 (List.map Change.av l) f_l), (5, .sc (.int .i64 0))]) (h' := []) (by kernel_rfl) ?_
  rcases sumG_eq H with ⟨v, hv, H⟩ | ⟨r1, hv, hr1⟩
  case inr =>
    refine AR.into (by kernel_rfl) ?_
    replace hr1 : r1 = r := hr1
    subst hr1
    exact podestaref19_Fits_l0_walk app l f_l _ c0 hc0 (.inr _) (fun _ e => by cases e) (fun _ e => (Sum.inr.inj e).symm) l 0 rfl hv
  refine AR.into (by kernel_rfl) ?_
  refine podestaref19_Fits_l0_walk app l f_l r c0 hc0 (.inl v) (fun w e => ?_) (fun _ e => by cases e) l 0 rfl hv
  have e := Sum.inl.inj e
  subst e
  refine AR.seg hG hm 1 [0] (k' := [.code [1, 1, 0], .code [1, 1, 1]]) (t' := [(0, .sc (.int .i64 app))]) (h' := []) (by kernel_rfl) ?_
  refine AR.reg hm podestaref19_Fits_k2 (by kernel_rfl) ?_
  refine DK.seg hG 3 [0, 49] (t' := [(0, .sc (.int .i64 app)), (49, .sc (.bool (decide (app ≥ 1))))]) (h' := []) (by kernel_rfl) rfl ?_
  refine DK.mux 49 (decide (app ≥ 1)) (j := 6) (h' := []) (by kernel_rfl) (fun z => [(52, .sc (.bool (z && (decide (app ≤ 8)))))]) ?J46 (fun hb J => ?ht46) (fun hb J => ?hf46)
  case ht46 =>
    exact DK.seg hG 3 [52] (by kernel_rfl) rfl J
  case hf46 =>
    exact DK.seg hG 3 [52] (by kernel_rfl) rfl J
  refine DK.seg hG 1 [4] (t' := [(4, .sc (.bool ((decide (app ≥ 1)) && (decide (app ≤ 8)))))]) (h' := []) (by kernel_rfl) rfl ?_
  refine DK.done (by kernel_rfl) (by kernel_rfl) ?_
  subst H
  exact AR.ret0 (fn := Try.f25) hG Try.func25 (by kernel_rfl) hc0 (r0 := .sc (.bool ((decide (app ≥ 1)) && (decide (app ≤ 8))))) (by kernel_rfl) (WkV.refl _)
theorem podestaref19_Fits_calls (app : Int) (l : List Change) (f_l : Bool) : ACalls Try.prog tab.S 25 [.sc (.int .i64 app), .sl 88 (List.map Change.av l) f_l] [] (.sc (.bool (podestaref19_Fits app l))) [] := podestaref19_Fits_walk app l f_l _ rfl

/-! ### band.Owner: function 17 -/
noncomputable def band_Owner_F : Go.Sh.Fn := ⟨17, bodyOf Try.f17, 24⟩
def band_Owner_k1 : List Kd := [.pure, .pure, .read, .pure, .pure, .pure]
def band_Owner_k0 : List Kd := [.pure, .pure, .pure, .pure, .pure, .pure, .loud, .loud, .pure]
def band_Owner_l0s (prio : Int) : Nat → Nat → Sum (Unit) (Int)
  | 0, t6 =>
    (.inl ())
  | rest + 1, t6 =>
    (bif ((band_Of (IntKind.i64.wrap (((t6 : Nat) : Int) + 1))).2 && (band_In ((band_Of (IntKind.i64.wrap (((t6 : Nat) : Int) + 1))).1) prio)) then
      (.inr (IntKind.i64.wrap (((t6 : Nat) : Int) + 1)))
    else
      band_Owner_l0s prio rest (t6 + 1) )
theorem band_Owner_l0_walk (prio : Int) (r : Int) (c0 : Ctx) (hc0 : c0.m.length = 0) (res : Sum (Unit) (Int)) (J : ∀ w : Unit, res = .inl w → AR Try.prog tab band_Owner_F c0 (Rp tab.S c0 (.sc (.int .i64 r)) []) [.code [1, 1]] [] []) (Jr : ∀ w, res = .inr w → w = r) :
    ∀ (rest : Nat) (t6 : Nat) (hd : t6 + rest = 8) (H : band_Owner_l0s prio rest t6 = res), AR Try.prog tab band_Owner_F c0 (Rp tab.S c0 (.sc (.int .i64 r)) []) [.code [1, 0, 1, 0, 0], .loop [1, 0, 1, 0], .blk 0, .code [1, 1]] [(0, .sc (.int .i64 prio)), (6, .sc (.int .i64 ((t6 : Nat) : Int)))] [] := by
  have hG := tab_ok
  have hm := mixed
  intro rest
  induction rest with
  | zero =>
    intro t6 hd  H
    rw [band_Owner_l0s] at H
    have hc : (decide (((t6 : Nat) : Int) < 8)) = false := decide_eq_false (by omega)
    refine AR.seg hG hm 3 [0, 6, 7] (k' := [.code [1, 0, 1, 0, 0, 1, 0], .code [1, 0, 1, 0, 0, 1, 1], .loop [1, 0, 1, 0], .blk 0, .code [1, 1]]) (t' := [(0, .sc (.int .i64 prio)), (6, .sc (.int .i64 ((t6 : Nat) : Int))), (7, .sc (.bool (decide (((t6 : Nat) : Int) < 8))))]) (h' := []) (by kernel_rfl) ?_
    refine AR.cond (.tmp 7) (decide (((t6 : Nat) : Int) < 8)) (by kernel_rfl) (by kernel_rfl) (fun hb => ?ht10) (fun hb => ?hf10)
    case ht10 => exact absurd (hb.symm.trans hc) (by decide)
    case hf10 =>
      refine AR.seg hG hm 1 [] (k' := [.code [1, 1]]) (t' := []) (h' := []) (by kernel_rfl) ?_
      refine AR.keep [] (t' := []) (by kernel_rfl) ?_
      exact J () H.symm
  | succ rest ih =>
    intro t6 hd  H
    rw [band_Owner_l0s] at H
    have hlt_t6 : t6 < 8 := by omega
    have hc : (decide (((t6 : Nat) : Int) < 8)) = true := decide_eq_true (by omega)
    have hw : IntKind.i64.wrap (((t6 : Nat) : Int) + 1) = ((t6 + 1 : Nat) : Int) := wrapI_succ (by omega)
    refine AR.seg hG hm 3 [0, 6, 7] (k' := [.code [1, 0, 1, 0, 0, 1, 0], .code [1, 0, 1, 0, 0, 1, 1], .loop [1, 0, 1, 0], .blk 0, .code [1, 1]]) (t' := [(0, .sc (.int .i64 prio)), (6, .sc (.int .i64 ((t6 : Nat) : Int))), (7, .sc (.bool (decide (((t6 : Nat) : Int) < 8))))]) (h' := []) (by kernel_rfl) ?_
    refine AR.cond (.tmp 7) (decide (((t6 : Nat) : Int) < 8)) (by kernel_rfl) (by kernel_rfl) (fun hb => ?ht11) (fun hb => ?hf11)
    case ht11 =>
      refine AR.seg hG hm 6 [0, 3, 6] (k' := [.code [1, 0, 1, 0, 0, 1, 1, 0, 0, 1, 0], .code [1, 0, 1, 0, 0, 1, 1, 0, 0, 1, 1], .blk 1, .code [1, 0, 1, 0, 0, 1, 1, 1], .loop [1, 0, 1, 0], .blk 0, .code [1, 1]]) (t' := [(0, .sc (.int .i64 prio)), (3, .sc (.int .i64 ((t6 : Nat) : Int))), (6, .sc (.int .i64 ((t6 : Nat) : Int)))]) (h' := []) (by kernel_rfl) ?_
      refine AR.reg hm band_Owner_k0 (by kernel_rfl) ?_
      refine DK.seg hG 2 [0, 3, 6, 11] (t' := [(0, .sc (.int .i64 prio)), (3, .sc (.int .i64 ((t6 : Nat) : Int))), (6, .sc (.int .i64 ((t6 : Nat) : Int))), (11, .sc (.int .i64 (IntKind.i64.wrap (((t6 : Nat) : Int) + 1))))]) (h' := []) (by kernel_rfl) rfl ?_
      refine DK.op' [0, 3, 6, 12] (t' := [(0, .sc (.int .i64 prio)), (3, .sc (.int .i64 ((t6 : Nat) : Int))), (6, .sc (.int .i64 ((t6 : Nat) : Int))), (12, .tup [Band.av ((band_Of (IntKind.i64.wrap (((t6 : Nat) : Int) + 1))).1), .sc (.bool ((band_Of (IntKind.i64.wrap (((t6 : Nat) : Int) + 1))).2))])]) (h' := []) (LSpec.callP' (band_Of_calls (IntKind.i64.wrap (((t6 : Nat) : Int) + 1))) (by kernel_rfl)) (by kernel_rfl) rfl (by kernel_rfl) rfl ?_
      refine DK.seg hG 6 [0, 3, 4, 5, 6] (t' := [(0, .sc (.int .i64 prio)), (3, .sc (.int .i64 ((t6 : Nat) : Int))), (4, .ptr 0 0 none), (5, .sc (.bool ((band_Of (IntKind.i64.wrap (((t6 : Nat) : Int) + 1))).2))), (6, .sc (.int .i64 ((t6 : Nat) : Int)))]) (h' := [.box 23 [.sc (.int .i64 (((band_Of (IntKind.i64.wrap (((t6 : Nat) : Int) + 1))).1).Low)), .sc (.int .i64 (((band_Of (IntKind.i64.wrap (((t6 : Nat) : Int) + 1))).1).High))]]) (by kernel_rfl) rfl ?_
      refine DK.done (by kernel_rfl) (by kernel_rfl) ?_
      refine AR.seg hG hm 1 [0, 3, 4, 5, 6] (k' := [.code [1, 0, 1, 0, 0, 1, 1, 0, 0, 1, 1, 0], .code [1, 0, 1, 0, 0, 1, 1, 0, 0, 1, 1, 1], .blk 1, .code [1, 0, 1, 0, 0, 1, 1, 1], .loop [1, 0, 1, 0], .blk 0, .code [1, 1]]) (t' := [(0, .sc (.int .i64 prio)), (3, .sc (.int .i64 ((t6 : Nat) : Int))), (4, .ptr 0 0 none), (5, .sc (.bool ((band_Of (IntKind.i64.wrap (((t6 : Nat) : Int) + 1))).2))), (6, .sc (.int .i64 ((t6 : Nat) : Int)))]) (h' := [.box 23 [.sc (.int .i64 (((band_Of (IntKind.i64.wrap (((t6 : Nat) : Int) + 1))).1).Low)), .sc (.int .i64 (((band_Of (IntKind.i64.wrap (((t6 : Nat) : Int) + 1))).1).High))]]) (by kernel_rfl) ?_
      refine AR.reg hm band_Owner_k1 (by kernel_rfl) ?_
      refine DK.seg hG 2 [0, 3, 4, 6, 16] (t' := [(0, .sc (.int .i64 prio)), (3, .sc (.int .i64 ((t6 : Nat) : Int))), (4, .ptr 0 0 none), (6, .sc (.int .i64 ((t6 : Nat) : Int))), (16, .sc (.bool ((band_Of (IntKind.i64.wrap (((t6 : Nat) : Int) + 1))).2)))]) (h' := [.box 23 [.sc (.int .i64 (((band_Of (IntKind.i64.wrap (((t6 : Nat) : Int) + 1))).1).Low)), .sc (.int .i64 (((band_Of (IntKind.i64.wrap (((t6 : Nat) : Int) + 1))).1).High))]]) (by kernel_rfl) rfl ?_
      refine DK.mux 16 ((band_Of (IntKind.i64.wrap (((t6 : Nat) : Int) + 1))).2) (j := 6) (h' := [.box 23 [.sc (.int .i64 (((band_Of (IntKind.i64.wrap (((t6 : Nat) : Int) + 1))).1).Low)), .sc (.int .i64 (((band_Of (IntKind.i64.wrap (((t6 : Nat) : Int) + 1))).1).High))]]) (by kernel_rfl) (fun z => [(0, .sc (.int .i64 prio)), (3, .sc (.int .i64 ((t6 : Nat) : Int))), (6, .sc (.int .i64 ((t6 : Nat) : Int))), (20, .sc (.bool (z && (band_In ((band_Of (IntKind.i64.wrap (((t6 : Nat) : Int) + 1))).1) prio))))]) ?J12 (fun hb J => ?ht12) (fun hb J => ?hf12)
      case ht12 =>
        refine DK.seg hG 2 [0, 3, 6, 16, 17, 18] (t' := [(0, .sc (.int .i64 prio)), (3, .sc (.int .i64 ((t6 : Nat) : Int))), (6, .sc (.int .i64 ((t6 : Nat) : Int))), (16, .sc (.bool true)), (17, Band.av ((band_Of (IntKind.i64.wrap (((t6 : Nat) : Int) + 1))).1)), (18, .sc (.int .i64 prio))]) (h' := [.box 23 [.sc (.int .i64 (((band_Of (IntKind.i64.wrap (((t6 : Nat) : Int) + 1))).1).Low)), .sc (.int .i64 (((band_Of (IntKind.i64.wrap (((t6 : Nat) : Int) + 1))).1).High))]]) (by kernel_rfl) rfl ?_
        refine DK.op' [0, 3, 6, 16, 19] (t' := [(0, .sc (.int .i64 prio)), (3, .sc (.int .i64 ((t6 : Nat) : Int))), (6, .sc (.int .i64 ((t6 : Nat) : Int))), (16, .sc (.bool true)), (19, .sc (.bool (band_In ((band_Of (IntKind.i64.wrap (((t6 : Nat) : Int) + 1))).1) prio)))]) (h' := [.box 23 [.sc (.int .i64 (((band_Of (IntKind.i64.wrap (((t6 : Nat) : Int) + 1))).1).Low)), .sc (.int .i64 (((band_Of (IntKind.i64.wrap (((t6 : Nat) : Int) + 1))).1).High))]]) (LSpec.callP' (band_In_calls ((band_Of (IntKind.i64.wrap (((t6 : Nat) : Int) + 1))).1) prio) (by kernel_rfl)) (by kernel_rfl) rfl (by kernel_rfl) rfl ?_
        exact DK.seg hG 1 [0, 3, 6, 20] (by kernel_rfl) rfl J
      case hf12 =>
        exact DK.seg hG 4 [0, 3, 6, 20] (by kernel_rfl) rfl J
      refine DK.done (by kernel_rfl) (by kernel_rfl) ?_
      refine AR.cond (.tmp 20) ((band_Of (IntKind.i64.wrap (((t6 : Nat) : Int) + 1))).2 && (band_In ((band_Of (IntKind.i64.wrap (((t6 : Nat) : Int) + 1))).1) prio)) (by kernel_rfl) (by kernel_rfl) (fun hb => ?ht13) (fun hb => ?hf13)
      case ht13 =>
        replace H := cond_t hb H
        refine AR.seg hG hm 2 [2] (k' := [.code [1, 0, 1, 0, 0, 1, 1, 0, 0, 1, 1, 1, 0, 1], .blk 1, .code [1, 0, 1, 0, 0, 1, 1, 1], .loop [1, 0, 1, 0], .blk 0, .code [1, 1]]) (t' := [(2, .sc (.int .i64 (IntKind.i64.wrap (((t6 : Nat) : Int) + 1))))]) (h' := [.box 23 [.sc (.int .i64 (((band_Of (IntKind.i64.wrap (((t6 : Nat) : Int) + 1))).1).Low)), .sc (.int .i64 (((band_Of (IntKind.i64.wrap (((t6 : Nat) : Int) + 1))).1).High))]]) (by kernel_rfl) ?_
        subst H
        obtain rfl := Jr _ rfl
        exact AR.ret0 (fn := Try.f17) hG Try.func17 (by kernel_rfl) hc0 (r0 := .sc (.int .i64 (IntKind.i64.wrap (((t6 : Nat) : Int) + 1)))) (by kernel_rfl) (WkV.refl _)
      case hf13 =>
        replace H := cond_f hb H
        refine AR.seg hG hm 3 [0, 6] (k' := [.loop [1, 0, 1, 0], .blk 0, .code [1, 1]]) (t' := [(0, .sc (.int .i64 prio)), (6, .sc (.int .i64 (IntKind.i64.wrap (((t6 : Nat) : Int) + 1))))]) (h' := [.box 23 [.sc (.int .i64 (((band_Of (IntKind.i64.wrap (((t6 : Nat) : Int) + 1))).1).Low)), .sc (.int .i64 (((band_Of (IntKind.i64.wrap (((t6 : Nat) : Int) + 1))).1).High))]]) (by kernel_rfl) ?_
        refine AR.keep [0, 6] (t' := [(0, .sc (.int .i64 prio)), (6, .sc (.int .i64 (IntKind.i64.wrap (((t6 : Nat) : Int) + 1))))]) (by kernel_rfl) ?_
        refine AR.drop' 0 hc0 (t' := [(0, .sc (.int .i64 prio)), (6, .sc (.int .i64 (IntKind.i64.wrap (((t6 : Nat) : Int) + 1))))]) (h' := []) (by kernel_rfl) ?_
        refine AR.loop_round ?_
        rw [hw]
        exact ih (t6 + 1) (by omega) H
    case hf11 => exact absurd (hc.symm.trans hb) (by decide)

def band_Owner (prio : Int) : Int :=
  sumG (fun q => q) (band_Owner_l0s prio 8 0) fun v =>
  0
theorem band_Owner_walk (prio : Int) (r : Int) (H : band_Owner prio = r) :
    ACalls Try.prog tab.S 17 [.sc (.int .i64 prio)] [] (.sc (.int .i64 r)) [] := by
  have hG := tab_ok
  have hm := mixed
  refine ACalls.of_AR (G := tab) band_Owner_F (fn := Try.f17) Try.func17 (by kernel_rfl) (by kernel_rfl) (by kernel_rfl) (Nat.le_of_ble_eq_true (by kernel_rfl)) ?_
  intro c0 hc0
  replace hc0 : c0.m.length = 0 := hc0
  rw [band_Owner] at H
  refine AR.seg hG hm 6 [0, 6] (k' := [.code [1, 0, 1, 0], .blk 0, .code [1, 1]]) (t' := [(0, .sc (.int .i64 prio)), (6, .sc (.int .i64 0))]) (h' := []) (by kernel_rfl) ?_
  rcases sumG_eq H with ⟨v, hv, H⟩ | ⟨r1, hv, hr1⟩
  case inr =>
    refine AR.into (by kernel_rfl) ?_
    replace hr1 : r1 = r := hr1
    subst hr1
    exact band_Owner_l0_walk prio _ c0 hc0 (.inr _) (fun _ e => by cases e) (fun _ e => (Sum.inr.inj e).symm) 8 0 rfl hv
  refine AR.into (by kernel_rfl) ?_
  refine band_Owner_l0_walk prio r c0 hc0 (.inl v) (fun w e => ?_) (fun _ e => by cases e) 8 0 rfl hv
  have e := Sum.inl.inj e
  subst e
  refine AR.seg hG hm 2 [2] (k' := [.code [1, 1, 1]]) (t' := [(2, .sc (.int .i64 0))]) (h' := []) (by kernel_rfl) ?_
  subst H
  exact AR.ret0 (fn := Try.f17) hG Try.func17 (by kernel_rfl) hc0 (r0 := .sc (.int .i64 0)) (by kernel_rfl) (WkV.refl _)
theorem band_Owner_calls (prio : Int) : ACalls Try.prog tab.S 17 [.sc (.int .i64 prio)] [] (.sc (.int .i64 (band_Owner prio))) [] := band_Owner_walk prio _ rfl

/-! ### podestalaw21.answers: function 16 -/
noncomputable def podestalaw21_answers_F : Go.Sh.Fn := ⟨16, bodyOf Try.f16, 22⟩
def podestalaw21_answers_k1 : List Kd := [.pure, .pure, .pure, .read, .pure, .pure, .pure, .pure, .read, .pure, .pure, .pure, .pure, .pure, .pure, .pure]
def podestalaw21_answers_k0 : List Kd := [.pure, .pure, .pure, .pure, .loud, .loud, .pure]
def podestalaw21_answers : Bool :=
  ((((band_Of 2).2 && (((band_Of 2).1).Low == 2000)) && (((band_Of 2).1).High == 2999)) && ((band_Owner 2500) == 2))
theorem podestalaw21_answers_walk (r : Bool) (H : podestalaw21_answers = r) :
    ACalls Try.prog tab.S 16 [] [] (.sc (.bool r)) [] := by
  have hG := tab_ok
  have hm := mixed
  refine ACalls.of_AR (G := tab) podestalaw21_answers_F (fn := Try.f16) Try.func16 (by kernel_rfl) (by kernel_rfl) (by kernel_rfl) (Nat.le_of_ble_eq_true (by kernel_rfl)) ?_
  intro c0 hc0
  replace hc0 : c0.m.length = 0 := hc0
  rw [podestalaw21_answers] at H
  refine AR.seg hG hm 3 [] (k' := [.code [1, 0], .code [1, 1]]) (t' := []) (h' := []) (by kernel_rfl) ?_
  refine AR.reg hm podestalaw21_answers_k0 (by kernel_rfl) ?_
  refine DK.op' [4] (t' := [(4, .tup [Band.av ((band_Of 2).1), .sc (.bool ((band_Of 2).2))])]) (h' := []) (LSpec.callP' (band_Of_calls 2) (by kernel_rfl)) (by kernel_rfl) rfl (by kernel_rfl) rfl ?_
  refine DK.seg hG 6 [1, 2] (t' := [(1, .ptr 0 0 none), (2, .sc (.bool ((band_Of 2).2)))]) (h' := [.box 23 [.sc (.int .i64 (((band_Of 2).1).Low)), .sc (.int .i64 (((band_Of 2).1).High))]]) (by kernel_rfl) rfl ?_
  refine DK.done (by kernel_rfl) (by kernel_rfl) ?_
  refine AR.seg hG hm 1 [1, 2] (k' := [.code [1, 1, 0], .code [1, 1, 1]]) (t' := [(1, .ptr 0 0 none), (2, .sc (.bool ((band_Of 2).2)))]) (h' := [.box 23 [.sc (.int .i64 (((band_Of 2).1).Low)), .sc (.int .i64 (((band_Of 2).1).High))]]) (by kernel_rfl) ?_
  refine AR.reg hm podestalaw21_answers_k1 (by kernel_rfl) ?_
  refine DK.seg hG 2 [1, 8] (t' := [(1, .ptr 0 0 none), (8, .sc (.bool ((band_Of 2).2)))]) (h' := [.box 23 [.sc (.int .i64 (((band_Of 2).1).Low)), .sc (.int .i64 (((band_Of 2).1).High))]]) (by kernel_rfl) rfl ?_
  refine DK.mux 8 ((band_Of 2).2) (j := 6) (h' := [.box 23 [.sc (.int .i64 (((band_Of 2).1).Low)), .sc (.int .i64 (((band_Of 2).1).High))]]) (by kernel_rfl) (fun z => [(1, .ptr 0 0 none), (12, .sc (.bool (z && (((band_Of 2).1).Low == 2000))))]) ?J1 (fun hb J => ?ht1) (fun hb J => ?hf1)
  case ht1 =>
    exact DK.seg hG 4 [1, 12] (by kernel_rfl) rfl J
  case hf1 =>
    exact DK.seg hG 4 [1, 12] (by kernel_rfl) rfl J
  refine DK.seg hG 1 [1, 13] (t' := [(1, .ptr 0 0 none), (13, .sc (.bool ((band_Of 2).2 && (((band_Of 2).1).Low == 2000))))]) (h' := [.box 23 [.sc (.int .i64 (((band_Of 2).1).Low)), .sc (.int .i64 (((band_Of 2).1).High))]]) (by kernel_rfl) rfl ?_
  refine DK.mux 13 ((band_Of 2).2 && (((band_Of 2).1).Low == 2000)) (j := 11) (h' := [.box 23 [.sc (.int .i64 (((band_Of 2).1).Low)), .sc (.int .i64 (((band_Of 2).1).High))]]) (by kernel_rfl) (fun z => [(17, .sc (.bool (z && (((band_Of 2).1).High == 2999))))]) ?J2 (fun hb J => ?ht2) (fun hb J => ?hf2)
  case ht2 =>
    exact DK.seg hG 4 [17] (by kernel_rfl) rfl J
  case hf2 =>
    exact DK.seg hG 4 [17] (by kernel_rfl) rfl J
  refine DK.seg hG 1 [18] (t' := [(18, .sc (.bool (((band_Of 2).2 && (((band_Of 2).1).Low == 2000)) && (((band_Of 2).1).High == 2999))))]) (h' := [.box 23 [.sc (.int .i64 (((band_Of 2).1).Low)), .sc (.int .i64 (((band_Of 2).1).High))]]) (by kernel_rfl) rfl ?_
  refine DK.mux 18 (((band_Of 2).2 && (((band_Of 2).1).Low == 2000)) && (((band_Of 2).1).High == 2999)) (j := 15) (h' := [.box 23 [.sc (.int .i64 (((band_Of 2).1).Low)), .sc (.int .i64 (((band_Of 2).1).High))]]) (by kernel_rfl) (fun z => [(21, .sc (.bool (z && ((band_Owner 2500) == 2))))]) ?J3 (fun hb J => ?ht3) (fun hb J => ?hf3)
  case ht3 =>
    refine DK.op' [18, 19] (t' := [(18, .sc (.bool true)), (19, .sc (.int .i64 (band_Owner 2500)))]) (h' := [.box 23 [.sc (.int .i64 (((band_Of 2).1).Low)), .sc (.int .i64 (((band_Of 2).1).High))]]) (LSpec.callP' (band_Owner_calls 2500) (by kernel_rfl)) (by kernel_rfl) rfl (by kernel_rfl) rfl ?_
    exact DK.seg hG 2 [21] (by kernel_rfl) rfl J
  case hf3 =>
    exact DK.seg hG 3 [21] (by kernel_rfl) rfl J
  refine DK.seg hG 1 [0] (t' := [(0, .sc (.bool ((((band_Of 2).2 && (((band_Of 2).1).Low == 2000)) && (((band_Of 2).1).High == 2999)) && ((band_Owner 2500) == 2))))]) (h' := [.box 23 [.sc (.int .i64 (((band_Of 2).1).Low)), .sc (.int .i64 (((band_Of 2).1).High))]]) (by kernel_rfl) rfl ?_
  refine DK.done (by kernel_rfl) (by kernel_rfl) ?_
  subst H
  exact AR.ret0 (fn := Try.f16) hG Try.func16 (by kernel_rfl) hc0 (r0 := .sc (.bool ((((band_Of 2).2 && (((band_Of 2).1).Low == 2000)) && (((band_Of 2).1).High == 2999)) && ((band_Owner 2500) == 2)))) (by kernel_rfl) (WkV.refl _)
theorem podestalaw21_answers_calls : ACalls Try.prog tab.S 16 [] [] (.sc (.bool (podestalaw21_answers))) [] := podestalaw21_answers_walk _ rfl

/-! ### podestalaw21.BandFits: function 7 -/
noncomputable def podestalaw21_BandFits_F : Go.Sh.Fn := ⟨7, bodyOf Try.f7, 19⟩
def podestalaw21_BandFits_k0 : List Kd := [.pure, .pure]
def podestalaw21_BandFits_k1 : List Kd := [.pure, .pure, .pure, .pure, .pure, .pure, .pure, .pure, .pure, .pure, .pure]
def podestalaw21_BandFits (app : Int) (l : List Change) : Bool :=
  (bif (decide ((((List.map Change.av l).length : Nat) : Int) > 50)) then
    podestalaw21_answers
  else
    (podestalaw21_answers && ((band_Fits app l) == (podestaref19_Fits app l))))
theorem podestalaw21_BandFits_walk (app : Int) (l : List Change) (f_l : Bool) (r : Bool) (H : podestalaw21_BandFits app l = r) :
    ACalls Try.prog tab.S 7 [.sc (.int .i64 app), .sl 88 (List.map Change.av l) f_l] [] (.sc (.bool r)) [] := by
  have hG := tab_ok
  have hm := mixed
  refine ACalls.of_AR (G := tab) podestalaw21_BandFits_F (fn := Try.f7) Try.func7 (by kernel_rfl) (by kernel_rfl) (by kernel_rfl) (Nat.le_of_ble_eq_true (by kernel_rfl)) ?_
  intro c0 hc0
  replace hc0 : c0.m.length = 0 := hc0
  rw [podestalaw21_BandFits] at H
  refine AR.seg hG hm 5 [0, 1, 7] (k' := [.code [1, 0, 1], .code [1, 1]]) (t' := [(0, .sc (.int .i64 app)), (1, .sl 88 (List.map Change.av l) f_l), (7, .sc (.bool (decide ((((List.map Change.av l).length : Nat) : Int) > 50))))]) (h' := []) (by kernel_rfl) ?_
  refine AR.cond (.tmp 7) (decide ((((List.map Change.av l).length : Nat) : Int) > 50)) (by kernel_rfl) (by kernel_rfl) (fun hb => ?ht1) (fun hb => ?hf1)
  case ht1 =>
    replace H := cond_t hb H
    refine AR.seg hG hm 1 [] (k' := [.code [1, 0, 1, 0, 0], .code [1, 0, 1, 0, 1], .code [1, 1]]) (t' := []) (h' := []) (by kernel_rfl) ?_
    refine AR.reg hm podestalaw21_BandFits_k0 (by kernel_rfl) ?_
    refine DK.op' [8] (t' := [(8, .sc (.bool podestalaw21_answers))]) (h' := []) (LSpec.callP' (podestalaw21_answers_calls) (by kernel_rfl)) (by kernel_rfl) rfl (by kernel_rfl) rfl ?_
    refine DK.seg hG 1 [4] (t' := [(4, .sc (.bool podestalaw21_answers))]) (h' := []) (by kernel_rfl) rfl ?_
    refine DK.done (by kernel_rfl) (by kernel_rfl) ?_
    subst H
    exact AR.ret0 (fn := Try.f7) hG Try.func7 (by kernel_rfl) hc0 (r0 := .sc (.bool podestalaw21_answers)) (by kernel_rfl) (WkV.refl _)
  case hf1 =>
    replace H := cond_f hb H
    refine AR.seg hG hm 2 [0, 1] (k' := [.code [1, 1, 0], .code [1, 1, 1]]) (t' := [(0, .sc (.int .i64 app)), (1, .sl 88 (List.map Change.av l) f_l)]) (h' := []) (by kernel_rfl) ?_
    refine AR.reg hm podestalaw21_BandFits_k1 (by kernel_rfl) ?_
    refine DK.op' [0, 1, 9] (t' := [(0, .sc (.int .i64 app)), (1, .sl 88 (List.map Change.av l) f_l), (9, .sc (.bool podestalaw21_answers))]) (h' := []) (LSpec.callP' (podestalaw21_answers_calls) (by kernel_rfl)) (by kernel_rfl) rfl (by kernel_rfl) rfl ?_
    refine DK.seg hG 1 [0, 1, 10] (t' := [(0, .sc (.int .i64 app)), (1, .sl 88 (List.map Change.av l) f_l), (10, .sc (.bool podestalaw21_answers))]) (h' := []) (by kernel_rfl) rfl ?_
    refine DK.mux 10 podestalaw21_answers (j := 10) (h' := []) (by kernel_rfl) (fun z => [(18, .sc (.bool (z && ((band_Fits app l) == (podestaref19_Fits app l)))))]) ?J2 (fun hb J => ?ht2) (fun hb J => ?hf2)
    case ht2 =>
      refine DK.seg hG 2 [0, 1, 10, 11, 12] (t' := [(0, .sc (.int .i64 app)), (1, .sl 88 (List.map Change.av l) f_l), (10, .sc (.bool true)), (11, .sc (.int .i64 app)), (12, .sl 88 (List.map Change.av l) f_l)]) (h' := []) (by kernel_rfl) rfl ?_
      refine DK.op' [0, 1, 10, 13] (t' := [(0, .sc (.int .i64 app)), (1, .sl 88 (List.map Change.av l) f_l), (10, .sc (.bool true)), (13, .sc (.bool (band_Fits app l)))]) (h' := []) (LSpec.callP' (band_Fits_calls app l f_l) (by kernel_rfl)) (by kernel_rfl) rfl (by kernel_rfl) rfl ?_
      refine DK.seg hG 2 [10, 13, 14, 15] (t' := [(10, .sc (.bool true)), (13, .sc (.bool (band_Fits app l))), (14, .sc (.int .i64 app)), (15, .sl 88 (List.map Change.av l) f_l)]) (h' := []) (by kernel_rfl) rfl ?_
      refine DK.op' [10, 13, 16] (t' := [(10, .sc (.bool true)), (13, .sc (.bool (band_Fits app l))), (16, .sc (.bool (podestaref19_Fits app l)))]) (h' := []) (LSpec.callP' (podestaref19_Fits_calls app l f_l) (by kernel_rfl)) (by kernel_rfl) rfl (by kernel_rfl) rfl ?_
      exact DK.seg hG 2 [18] (by kernel_rfl) rfl J
    case hf2 =>
      exact DK.seg hG 8 [18] (by kernel_rfl) rfl J
    refine DK.seg hG 1 [4] (t' := [(4, .sc (.bool (podestalaw21_answers && ((band_Fits app l) == (podestaref19_Fits app l)))))]) (h' := []) (by kernel_rfl) rfl ?_
    refine DK.done (by kernel_rfl) (by kernel_rfl) ?_
    subst H
    exact AR.ret0 (fn := Try.f7) hG Try.func7 (by kernel_rfl) hc0 (r0 := .sc (.bool (podestalaw21_answers && ((band_Fits app l) == (podestaref19_Fits app l))))) (by kernel_rfl) (WkV.refl _)
theorem podestalaw21_BandFits_calls (app : Int) (l : List Change) (f_l : Bool) : ACalls Try.prog tab.S 7 [.sc (.int .i64 app), .sl 88 (List.map Change.av l) f_l] [] (.sc (.bool (podestalaw21_BandFits app l))) [] := podestalaw21_BandFits_walk app l f_l _ rfl

end Go.Proofs.Ytjchejmakdkioaa

set_option linter.unusedVariables false
set_option linter.unusedSimpArgs false
set_option maxRecDepth 100000
set_option maxHeartbeats 4000000
namespace Go.Proofs.Ytjchejmakdkioaa
open Go.Sh
theorem Fits_l0s_eq (app : Int) : ∀ (l : List Change), podestaref19_Fits_l0s app l = if l.any (fun x => (x.Mod.Owner != app) || (((x.Mod.Kind != 2) && (x.Mod.Kind != 3)) && ((decide (x.Mod.Prio < (IntKind.i64.wrap (1000 * app)))) || (decide (x.Mod.Prio > (IntKind.i64.wrap ((IntKind.i64.wrap (1000 * app)) + 999))))))) then .inr false else .inl ()
  | [] => rfl
  | x :: l => by
      rw [podestaref19_Fits_l0s, Fits_l0s_eq app l, List.any_cons]
      cases ((x.Mod.Owner != app) || (((x.Mod.Kind != 2) && (x.Mod.Kind != 3)) && ((decide (x.Mod.Prio < (IntKind.i64.wrap (1000 * app)))) || (decide (x.Mod.Prio > (IntKind.i64.wrap ((IntKind.i64.wrap (1000 * app)) + 999))))))) <;> rfl
theorem answers21 : podestalaw21_answers = true := by kernel_rfl
theorem fits_eq (app : Int) (h1 : 1 ≤ app) (h2 : app ≤ 8) (x : Change) : (!band_fits app (band_Of app).1 x.Mod) = ((x.Mod.Owner != app) || (((x.Mod.Kind != 2) && (x.Mod.Kind != 3)) && ((decide (x.Mod.Prio < (IntKind.i64.wrap (1000 * app)))) || (decide (x.Mod.Prio > (IntKind.i64.wrap ((IntKind.i64.wrap (1000 * app)) + 999))))))) := by
  have e : band_Of app = (⟨1000 * app, 1000 * app + 999⟩, true) := by
    unfold band_Of
    rw [decide_eq_false (by omega), decide_eq_false (by omega)]
    simp only [Bool.or_self, cond_false]
    rw [wrap_eq (n := app * 1000) (by omega) (by omega), wrap_eq (n := app + 1) (by omega) (by omega), wrap_eq (n := (app + 1) * 1000) (by omega) (by omega), wrap_eq (by omega) (by omega)]
    simp only [Prod.mk.injEq, Band.mk.injEq, and_true]
    omega
  rw [e, wrap_eq (n := 1000 * app) (by omega) (by omega), wrap_eq (n := 1000 * app + 999) (by omega) (by omega)]
  unfold band_fits band_In
  rw [Bool.eq_iff_iff]
  simp only [Bool.not_eq_true', Bool.or_eq_true, Bool.and_eq_true, bne_iff_ne, decide_eq_true_eq, Bool.and_eq_false_iff, Bool.or_eq_false_iff, beq_eq_false_iff_ne, decide_eq_false_iff_not]
  omega
theorem BandFits_true (app : Int) (l : List Change) (_ : intW .i64 app) (_ : ∀ y ∈ l, Change.wf y) : podestalaw21_BandFits app l = true := by
  unfold podestalaw21_BandFits
  rw [answers21]
  cases (decide ((((List.map Change.av l).length : Nat) : Int) > 50))
  · simp only [cond_false, Bool.true_and]
    rw [beq_iff_eq]
    unfold band_Fits podestaref19_Fits
    rw [slices_ContainsFunc__api_Change_any, Fits_l0s_eq]
    by_cases h : 1 ≤ app ∧ app ≤ 8
    · have e : (band_Of app).2 = true := by
        unfold band_Of
        rw [decide_eq_false (by omega), decide_eq_false (by omega)]
        rfl
      have e2 : (fun y0 => band_Fits_1 y0 app (band_Of app).1) = (fun x : Change => (x.Mod.Owner != app) || (((x.Mod.Kind != 2) && (x.Mod.Kind != 3)) && ((decide (x.Mod.Prio < (IntKind.i64.wrap (1000 * app)))) || (decide (x.Mod.Prio > (IntKind.i64.wrap ((IntKind.i64.wrap (1000 * app)) + 999))))))) := by
        funext x
        exact fits_eq app h.1 h.2 x
      rw [e, e2]
      cases l.any _
      · simp [sumG, h.1, h.2]
      · rfl
    · have e : (band_Of app).2 = false := by
        unfold band_Of
        by_cases h1 : 1 ≤ app
        · rw [decide_eq_false (by omega), decide_eq_true (by omega)]; rfl
        · rw [decide_eq_true (by omega)]; rfl
      rw [e, Bool.false_and]
      cases l.any _
      · simp only [sumG, Bool.false_eq_true, if_false]
        by_cases h1 : 1 ≤ app
        · rw [decide_eq_false (p := app ≤ 8) (by omega), Bool.and_false]
        · rw [decide_eq_false (p := app ≥ 1) (by omega), Bool.false_and]
      · rfl
  · rfl

end Go.Proofs.Ytjchejmakdkioaa
