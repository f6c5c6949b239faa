import Derived.Test.YteioljlgcagnnaaProg
import Derived.Test.YteioljlgcagnnaaM3EvalSound
set_option linter.unusedVariables false
set_option linter.unusedSimpArgs false
set_option maxRecDepth 100000
set_option maxHeartbeats 4000000
namespace Go.Proofs.Yteioljlgcagnnaa
open Go.Sh
def tab : Go.Sh.Tab := [
 (1, ⟨.other, 1, 8, [.sc .nilFunc]⟩),
 (2, ⟨.int .i64, 1, 8, [.sc (.int .i64 0)]⟩),
 (3, ⟨.int .i64, 1, 8, [.sc (.int .i64 0)]⟩),
 (4, ⟨.bool, 1, 1, [.sc (.bool false)]⟩),
 (5, ⟨.int .u8, 1, 1, [.sc (.int .u8 0)]⟩),
 (9, ⟨.str, 1, 16, [.sc (.string ⟨#[]⟩)]⟩),
 (12, ⟨.int .u64, 1, 8, [.sc (.int .u64 0)]⟩),
 (13, ⟨.struct [(0, 9), (1, 12)], 2, 24, [.sc (.string ⟨#[]⟩), .sc (.int .u64 0)]⟩),
 (21, ⟨.int .i32, 1, 4, [.sc (.int .i32 0)]⟩),
 (22, ⟨.slice 3, 1, 24, [.sl 0 [] true]⟩),
 (23, ⟨.int .u64, 1, 8, [.sc (.int .u64 0)]⟩),
 (24, ⟨.arr 12 23, 12, 96, [.arr .u64 12 [0, 0, 0, 0, 0, 0, 0, 0, 0, 0, 0, 0]]⟩),
 (25, ⟨.arr 12 23, 12, 96, [.arr .u64 12 [0, 0, 0, 0, 0, 0, 0, 0, 0, 0, 0, 0]]⟩),
 (26, ⟨.struct [(0, 9), (1, 3), (2, 3), (3, 25)], 15, 128, [.sc (.string ⟨#[]⟩), .sc (.int .i64 0), .sc (.int .i64 0), .arr .u64 12 [0, 0, 0, 0, 0, 0, 0, 0, 0, 0, 0, 0]]⟩),
 (27, ⟨.struct [(0, 9), (1, 3), (2, 3), (3, 25)], 15, 128, [.sc (.string ⟨#[]⟩), .sc (.int .i64 0), .sc (.int .i64 0), .arr .u64 12 [0, 0, 0, 0, 0, 0, 0, 0, 0, 0, 0, 0]]⟩),
 (28, ⟨.slice 30, 1, 24, [.sl 0 [] true]⟩),
 (29, ⟨.struct [(0, 3), (1, 9), (2, 3), (3, 28), (4, 3)], 5, 64, [.sc (.int .i64 0), .sc (.string ⟨#[]⟩), .sc (.int .i64 0), .sl 0 [] true, .sc (.int .i64 0)]⟩),
 (30, ⟨.struct [(0, 3), (1, 9), (2, 3), (3, 28), (4, 3)], 5, 64, [.sc (.int .i64 0), .sc (.string ⟨#[]⟩), .sc (.int .i64 0), .sl 0 [] true, .sc (.int .i64 0)]⟩),
 (32, ⟨.other, 1, 8, [.sc .nilFunc]⟩),
 (33, ⟨.other, 1, 8, [.sc .nilFunc]⟩),
 (34, ⟨.slice 60, 1, 24, [.sl 0 [] true]⟩),
 (35, ⟨.other, 1, 8, [.sc .nilFunc]⟩),
 (36, ⟨.slice 51, 1, 24, [.sl 0 [] true]⟩),
 (37, ⟨.int .i64, 1, 8, [.sc (.int .i64 0)]⟩),
 (39, ⟨.other, 1, 8, [.sc .nilFunc]⟩),
 (40, ⟨.other, 1, 8, [.sc .nilFunc]⟩),
 (41, ⟨.other, 1, 8, [.sc .nilFunc]⟩),
 (42, ⟨.other, 1, 8, [.sc .nilFunc]⟩),
 (43, ⟨.other, 1, 8, [.sc .nilFunc]⟩),
 (44, ⟨.other, 1, 8, [.sc .nilFunc]⟩),
 (45, ⟨.struct [(0, 25), (12, 25)], 24, 192, [.arr .u64 12 [0, 0, 0, 0, 0, 0, 0, 0, 0, 0, 0, 0], .arr .u64 12 [0, 0, 0, 0, 0, 0, 0, 0, 0, 0, 0, 0]]⟩),
 (46, ⟨.struct [(0, 25), (12, 25)], 24, 192, [.arr .u64 12 [0, 0, 0, 0, 0, 0, 0, 0, 0, 0, 0, 0], .arr .u64 12 [0, 0, 0, 0, 0, 0, 0, 0, 0, 0, 0, 0]]⟩),
 (47, ⟨.slice 99, 1, 24, [.sl 0 [] true]⟩),
 (48, ⟨.struct [(0, 3), (1, 46), (25, 3), (26, 47), (27, 3), (28, 3), (29, 3), (30, 4)], 31, 264, [.sc (.int .i64 0), .arr .u64 12 [0, 0, 0, 0, 0, 0, 0, 0, 0, 0, 0, 0], .arr .u64 12 [0, 0, 0, 0, 0, 0, 0, 0, 0, 0, 0, 0], .sc (.int .i64 0), .sl 0 [] true, .sc (.int .i64 0), .sc (.int .i64 0), .sc (.int .i64 0), .sc (.bool false)]⟩),
 (49, ⟨.struct [(0, 3), (1, 46), (25, 3), (26, 47), (27, 3), (28, 3), (29, 3), (30, 4)], 31, 264, [.sc (.int .i64 0), .arr .u64 12 [0, 0, 0, 0, 0, 0, 0, 0, 0, 0, 0, 0], .arr .u64 12 [0, 0, 0, 0, 0, 0, 0, 0, 0, 0, 0, 0], .sc (.int .i64 0), .sl 0 [] true, .sc (.int .i64 0), .sc (.int .i64 0), .sc (.int .i64 0), .sc (.bool false)]⟩),
 (50, ⟨.struct [(0, 3), (1, 49)], 32, 272, [.sc (.int .i64 0), .sc (.int .i64 0), .arr .u64 12 [0, 0, 0, 0, 0, 0, 0, 0, 0, 0, 0, 0], .arr .u64 12 [0, 0, 0, 0, 0, 0, 0, 0, 0, 0, 0, 0], .sc (.int .i64 0), .sl 0 [] true, .sc (.int .i64 0), .sc (.int .i64 0), .sc (.int .i64 0), .sc (.bool false)]⟩),
 (51, ⟨.struct [(0, 3), (1, 49)], 32, 272, [.sc (.int .i64 0), .sc (.int .i64 0), .arr .u64 12 [0, 0, 0, 0, 0, 0, 0, 0, 0, 0, 0, 0], .arr .u64 12 [0, 0, 0, 0, 0, 0, 0, 0, 0, 0, 0, 0], .sc (.int .i64 0), .sl 0 [] true, .sc (.int .i64 0), .sc (.int .i64 0), .sc (.int .i64 0), .sc (.bool false)]⟩),
 (52, ⟨.other, 1, 8, [.sc .nilFunc]⟩),
 (53, ⟨.other, 1, 8, [.sc .nilFunc]⟩),
 (54, ⟨.slice 9, 1, 24, [.sl 0 [] true]⟩),
 (55, ⟨.struct [(0, 37), (1, 3)], 2, 16, [.sc (.int .i64 0), .sc (.int .i64 0)]⟩),
 (56, ⟨.struct [(0, 37), (1, 3)], 2, 16, [.sc (.int .i64 0), .sc (.int .i64 0)]⟩),
 (58, ⟨.other, 1, 8, [.sc .nilFunc]⟩),
 (59, ⟨.struct [(0, 9), (1, 3)], 2, 24, [.sc (.string ⟨#[]⟩), .sc (.int .i64 0)]⟩),
 (60, ⟨.struct [(0, 9), (1, 3)], 2, 24, [.sc (.string ⟨#[]⟩), .sc (.int .i64 0)]⟩),
 (61, ⟨.slice 4, 1, 24, [.sl 0 [] true]⟩),
 (62, ⟨.other, 1, 8, [.sc .nilFunc]⟩),
 (63, ⟨.int .u16, 1, 2, [.sc (.int .u16 0)]⟩),
 (64, ⟨.other, 1, 8, [.sc .nilFunc]⟩),
 (65, ⟨.other, 1, 8, [.sc .nilFunc]⟩),
 (66, ⟨.other, 1, 8, [.sc .nilFunc]⟩),
 (67, ⟨.other, 1, 8, [.sc .nilFunc]⟩),
 (68, ⟨.ptr 71, 1, 8, [.sc (.pointer none)]⟩),
 (69, ⟨.other, 1, 8, [.sc .nilFunc]⟩),
 (70, ⟨.struct [(0, 34), (1, 27), (16, 3), (17, 3), (18, 36), (19, 37)], 20, 200, [.sl 0 [] true, .sc (.string ⟨#[]⟩), .sc (.int .i64 0), .sc (.int .i64 0), .arr .u64 12 [0, 0, 0, 0, 0, 0, 0, 0, 0, 0, 0, 0], .sc (.int .i64 0), .sc (.int .i64 0), .sl 0 [] true, .sc (.int .i64 0)]⟩),
 (71, ⟨.struct [(0, 34), (1, 27), (16, 3), (17, 3), (18, 36), (19, 37)], 20, 200, [.sl 0 [] true, .sc (.string ⟨#[]⟩), .sc (.int .i64 0), .sc (.int .i64 0), .arr .u64 12 [0, 0, 0, 0, 0, 0, 0, 0, 0, 0, 0, 0], .sc (.int .i64 0), .sc (.int .i64 0), .sl 0 [] true, .sc (.int .i64 0)]⟩),
 (72, ⟨.other, 1, 8, [.sc .nilFunc]⟩),
 (73, ⟨.ptr 75, 1, 8, [.sc (.pointer none)]⟩),
 (74, ⟨.struct [(0, 34), (1, 27), (16, 3), (17, 3), (18, 36), (19, 37)], 20, 200, [.sl 0 [] true, .sc (.string ⟨#[]⟩), .sc (.int .i64 0), .sc (.int .i64 0), .arr .u64 12 [0, 0, 0, 0, 0, 0, 0, 0, 0, 0, 0, 0], .sc (.int .i64 0), .sc (.int .i64 0), .sl 0 [] true, .sc (.int .i64 0)]⟩),
 (75, ⟨.struct [(0, 34), (1, 27), (16, 3), (17, 3), (18, 36), (19, 37)], 20, 200, [.sl 0 [] true, .sc (.string ⟨#[]⟩), .sc (.int .i64 0), .sc (.int .i64 0), .arr .u64 12 [0, 0, 0, 0, 0, 0, 0, 0, 0, 0, 0, 0], .sc (.int .i64 0), .sc (.int .i64 0), .sl 0 [] true, .sc (.int .i64 0)]⟩),
 (76, ⟨.other, 1, 8, [.sc .nilFunc]⟩),
 (77, ⟨.other, 1, 8, [.sc .nilFunc]⟩),
 (78, ⟨.other, 1, 8, [.sc .nilFunc]⟩),
 (79, ⟨.other, 1, 8, [.sc .nilFunc]⟩),
 (80, ⟨.slice 105, 1, 24, [.sl 0 [] true]⟩),
 (82, ⟨.other, 1, 8, [.sc .nilFunc]⟩),
 (83, ⟨.ptr 85, 1, 8, [.sc (.pointer none)]⟩),
 (84, ⟨.struct [(0, 80), (1, 3), (2, 3), (3, 3), (4, 56)], 6, 64, [.sl 0 [] true, .sc (.int .i64 0), .sc (.int .i64 0), .sc (.int .i64 0), .sc (.int .i64 0), .sc (.int .i64 0)]⟩),
 (85, ⟨.struct [(0, 80), (1, 3), (2, 3), (3, 3), (4, 56)], 6, 64, [.sl 0 [] true, .sc (.int .i64 0), .sc (.int .i64 0), .sc (.int .i64 0), .sc (.int .i64 0), .sc (.int .i64 0)]⟩),
 (86, ⟨.other, 1, 8, [.sc .nilFunc]⟩),
 (87, ⟨.other, 1, 8, [.sc .nilFunc]⟩),
 (88, ⟨.other, 1, 8, [.sc .nilFunc]⟩),
 (89, ⟨.other, 1, 8, [.sc .nilFunc]⟩),
 (90, ⟨.other, 1, 8, [.sc .nilFunc]⟩),
 (91, ⟨.other, 1, 8, [.sc .nilFunc]⟩),
 (92, ⟨.other, 1, 8, [.sc .nilFunc]⟩),
 (93, ⟨.other, 1, 8, [.sc .nilFunc]⟩),
 (94, ⟨.other, 1, 8, [.sc .nilFunc]⟩),
 (95, ⟨.other, 1, 8, [.sc .nilFunc]⟩),
 (97, ⟨.other, 1, 8, [.sc .nilFunc]⟩),
 (98, ⟨.struct [(0, 3), (1, 3), (2, 3), (3, 23)], 4, 32, [.sc (.int .i64 0), .sc (.int .i64 0), .sc (.int .i64 0), .sc (.int .u64 0)]⟩),
 (99, ⟨.struct [(0, 3), (1, 3), (2, 3), (3, 23)], 4, 32, [.sc (.int .i64 0), .sc (.int .i64 0), .sc (.int .i64 0), .sc (.int .u64 0)]⟩),
 (100, ⟨.other, 1, 8, [.sc .nilFunc]⟩),
 (101, ⟨.other, 1, 8, [.sc .nilFunc]⟩),
 (102, ⟨.other, 1, 8, [.sc .nilFunc]⟩),
 (103, ⟨.other, 1, 8, [.sc .nilFunc]⟩),
 (104, ⟨.struct [(0, 9), (1, 3)], 2, 24, [.sc (.string ⟨#[]⟩), .sc (.int .i64 0)]⟩),
 (105, ⟨.struct [(0, 9), (1, 3)], 2, 24, [.sc (.string ⟨#[]⟩), .sc (.int .i64 0)]⟩),
 (106, ⟨.other, 1, 8, [.sc .nilFunc]⟩),
 (107, ⟨.other, 1, 8, [.sc .nilFunc]⟩),
 (109, ⟨.other, 1, 8, [.sc .nilFunc]⟩),
 (110, ⟨.other, 1, 8, [.sc .nilFunc]⟩),
 (111, ⟨.other, 1, 8, [.sc .nilFunc]⟩),
 (112, ⟨.other, 1, 8, [.sc .nilFunc]⟩),
 (113, ⟨.other, 1, 8, [.sc .nilFunc]⟩),
 (114, ⟨.other, 1, 8, [.sc .nilFunc]⟩),
 (115, ⟨.other, 1, 8, [.sc .nilFunc]⟩),
 (116, ⟨.slice 5, 1, 24, [.sl 0 [] true]⟩),
 (117, ⟨.other, 1, 8, [.sc .nilFunc]⟩),
 (118, ⟨.other, 1, 8, [.sc .nilFunc]⟩),
 (119, ⟨.int .u64, 1, 8, [.sc (.int .u64 0)]⟩),
 (120, ⟨.other, 1, 8, [.sc .nilFunc]⟩),
 (121, ⟨.other, 1, 8, [.sc .nilFunc]⟩),
 (122, ⟨.other, 1, 8, [.sc .nilFunc]⟩),
 (123, ⟨.ptr 30, 1, 8, [.sc (.pointer none)]⟩),
 (124, ⟨.other, 1, 8, [.sc .nilFunc]⟩),
 (125, ⟨.other, 1, 8, [.sc .nilFunc]⟩),
 (126, ⟨.other, 1, 8, [.sc .nilFunc]⟩),
 (128, ⟨.other, 1, 8, [.sc .nilFunc]⟩),
 (129, ⟨.other, 1, 8, [.sc .nilFunc]⟩),
 (130, ⟨.other, 1, 8, [.sc .nilFunc]⟩),
 (131, ⟨.other, 1, 8, [.sc .nilFunc]⟩),
 (132, ⟨.other, 1, 8, [.sc .nilFunc]⟩),
 (133, ⟨.other, 1, 8, [.sc .nilFunc]⟩),
 (135, ⟨.other, 1, 8, [.sc .nilFunc]⟩),
 (137, ⟨.other, 1, 8, [.sc .nilFunc]⟩),
 (138, ⟨.other, 1, 8, [.sc .nilFunc]⟩),
 (139, ⟨.struct [(0, 9), (1, 3)], 2, 24, [.sc (.string ⟨#[]⟩), .sc (.int .i64 0)]⟩),
 (140, ⟨.struct [(0, 9), (1, 3)], 2, 24, [.sc (.string ⟨#[]⟩), .sc (.int .i64 0)]⟩),
 (141, ⟨.arr 12 140, 24, 288, [.sc (.string ⟨#[]⟩), .sc (.int .i64 0), .sc (.string ⟨#[]⟩), .sc (.int .i64 0), .sc (.string ⟨#[]⟩), .sc (.int .i64 0), .sc (.string ⟨#[]⟩), .sc (.int .i64 0), .sc (.string ⟨#[]⟩), .sc (.int .i64 0), .sc (.string ⟨#[]⟩), .sc (.int .i64 0), .sc (.string ⟨#[]⟩), .sc (.int .i64 0), .sc (.string ⟨#[]⟩), .sc (.int .i64 0), .sc (.string ⟨#[]⟩), .sc (.int .i64 0), .sc (.string ⟨#[]⟩), .sc (.int .i64 0), .sc (.string ⟨#[]⟩), .sc (.int .i64 0), .sc (.string ⟨#[]⟩), .sc (.int .i64 0)]⟩),
 (142, ⟨.other, 1, 8, [.sc .nilFunc]⟩),
 (143, ⟨.other, 1, 8, [.sc .nilFunc]⟩),
 (144, ⟨.slice 140, 1, 24, [.sl 0 [] true]⟩),
 (145, ⟨.other, 1, 8, [.sc .nilFunc]⟩),
 (146, ⟨.other, 1, 8, [.sc .nilFunc]⟩),
 (147, ⟨.other, 1, 8, [.sc .nilFunc]⟩),
 (148, ⟨.other, 1, 8, [.sc .nilFunc]⟩),
 (154, ⟨.int .u32, 1, 4, [.sc (.int .u32 0)]⟩),
 (157, ⟨.other, 1, 8, [.sc .nilFunc]⟩),
 (158, ⟨.ptr 5, 1, 8, [.sc (.pointer none)]⟩)]
theorem tab_ok : tab.ok Try.prog := Tab.ok_of (by kernel_rfl)
theorem mixed : Try.prog.follows .mixedOrders = true := by kernel_rfl
end Go.Proofs.Yteioljlgcagnnaa
namespace Go.Proofs.Yteioljlgcagnnaa
open Go.Sh
instance : Ok Try.prog tab := ⟨tab_ok, mixed⟩
theorem wrap_eq {n : Int} (h1 : -9223372036854775808 ≤ n) (h2 : n ≤ 9223372036854775807) : IntKind.i64.wrap n = n := by
 rw [IntKind.wrap_i64]; omega
theorem wrap_succ {i : Nat} (h : i < 9223372036854775807) : IntKind.i64.wrap ((i : Int) + 1) = ((i + 1 : Nat) : Int) := by
 rw [wrap_eq (by omega) (by omega)]; rfl
theorem ixO_lt {α : Type} {xs : List α} {i : Nat} (h : i < xs.length) : ixO xs (i : Int) = some xs[i] := by
 unfold ixO
 rw [if_pos (by omega), Int.toNat_natCast, List.getElem?_eq_getElem h]
theorem fitO_eq {α : Type} {n b : Nat} {r : Option α} (h : n * b ≤ 140737488355328) : fitO n b r = r := by
 unfold fitO; rw [if_pos h]
theorem reqO_eq {α : Type} {b : Bool} {r : Option α} (h : b = true) : reqO b r = r := by
 subst h; rfl
def idxF {α : Type} (f : α → Bool) (l : List α) : Int := match l.findIdx? f with | some i => (i : Int) | none => -1
def sizes : List Int := [16, 48, 48, 16, 12, 4, 32, 32, 8, 8, 12, 12]
def sizeT (n : Int) : Int := if 0 ≤ n ∧ n < 12 then sizes.getD n.toNat 0 else 0
theorem sizeT_cases (n : Int) : (¬ (0 ≤ n ∧ n < 12) ∧ sizeT n = 0) ∨ (0 ≤ n ∧ n < 12 ∧ ∃ k : Nat, n = k ∧ k < 12 ∧ sizeT n = sizes.getD k 0) := by
 by_cases h : 0 ≤ n ∧ n < 12
 ·refine .inr ⟨h.1, h.2, n.toNat, by omega, by omega, ?_⟩
  unfold sizeT; rw [if_pos h]
 ·refine .inl ⟨h, ?_⟩
  unfold sizeT; rw [if_neg h]
theorem sizes_in : ∀ k : Nat, 0 ≤ sizes.getD k 0 ∧ sizes.getD k 0 ≤ 48
 | 0 | 1 | 2 | 3 | 4 | 5 | 6 | 7 | 8 | 9 | 10 | 11 => by decide
 | n + 12 => by
  have : sizes.getD (n + 12) 0 = 0 := rfl
  rw [this]; decide
theorem sizeT_in (n : Int) : 0 ≤ sizeT n ∧ sizeT n ≤ 48 := by
 unfold sizeT
 split
 ·exact sizes_in _
 ·decide
def fitsT (n v : Int) : Bool := decide (v < 2 ^ (sizeT n).toNat)
theorem pow_le48 {k : Nat} (h : k ≤ 48) : (2 : Int) ^ k ≤ 281474976710656 := by
 have : (2 : Nat) ^ k ≤ 2 ^ 48 := Nat.pow_le_pow_right (by omega) h
 have e : ((2 ^ k : Nat) : Int) = (2 : Int) ^ k := by push_cast; rfl
 rw [← e]
 omega
theorem pow_pos2 (k : Nat) : (0 : Int) < (2 : Int) ^ k := Int.pow_pos (by decide)
theorem wrapU_eq {n : Int} (h1 : 0 ≤ n) (h2 : n < 18446744073709551616) : IntKind.u64.wrap n = n := by
 unfold IntKind.wrap
 simp only [IntKind.signed, IntKind.bits, Bool.false_and, Bool.false_eq_true, if_false]
 omega
structure Token where
 Text : ByteArray
 At : Int
 deriving DecidableEq, Inhabited
def Token.ch (r : Token) : List AV := [.sc (.string r.Text), .sc (.int .i64 r.At)]
def Token.av (r : Token) : AV := .agg [.sc (.string r.Text), .sc (.int .i64 r.At)]
structure Fault where
 E : Int
 At : Int
 deriving DecidableEq, Inhabited
def Fault.ch (r : Fault) : List AV := [.sc (.int .i64 r.E), .sc (.int .i64 r.At)]
def Fault.av (r : Fault) : AV := .agg [.sc (.int .i64 r.E), .sc (.int .i64 r.At)]
structure Field where
 name : ByteArray
 size : Int
 deriving DecidableEq, Inhabited
def Field.ch (r : Field) : List AV := [.sc (.string r.name), .sc (.int .i64 r.size)]
def Field.av (r : Field) : AV := .agg [.sc (.string r.name), .sc (.int .i64 r.size)]
structure Act where
 Kind : Int
 Port : Int
 Field : Int
 Value : Int
 deriving DecidableEq, Inhabited
def Act.ch (r : Act) : List AV := [.sc (.int .i64 r.Kind), .sc (.int .i64 r.Port), .sc (.int .i64 r.Field), .sc (.int .u64 r.Value)]
def Act.av (r : Act) : AV := .agg [.sc (.int .i64 r.Kind), .sc (.int .i64 r.Port), .sc (.int .i64 r.Field), .sc (.int .u64 r.Value)]
structure Cube where
 Value : List Int
 Care : List Int
 deriving DecidableEq, Inhabited
def Cube.ch (r : Cube) : List AV := [.arr .u64 12 r.Value, .arr .u64 12 r.Care]
def Cube.av (r : Cube) : AV := .agg [.arr .u64 12 r.Value, .arr .u64 12 r.Care]
structure Mod where
 Kind : Int
 Match : Cube
 Prio : Int
 Acts : List Act
 Idle : Int
 Hard : Int
 Owner : Int
 Check : Bool
 deriving DecidableEq, Inhabited
def Mod.ch (r : Mod) : List AV := [.sc (.int .i64 r.Kind), .arr .u64 12 r.Match.Value, .arr .u64 12 r.Match.Care, .sc (.int .i64 r.Prio), .sl 99 (List.map Act.av r.Acts) false, .sc (.int .i64 r.Idle), .sc (.int .i64 r.Hard), .sc (.int .i64 r.Owner), .sc (.bool r.Check)]
def Mod.av (r : Mod) : AV := .agg [.sc (.int .i64 r.Kind), .arr .u64 12 r.Match.Value, .arr .u64 12 r.Match.Care, .sc (.int .i64 r.Prio), .sl 99 (List.map Act.av r.Acts) false, .sc (.int .i64 r.Idle), .sc (.int .i64 r.Hard), .sc (.int .i64 r.Owner), .sc (.bool r.Check)]
structure Event where
 On : ByteArray
 Unit : Int
 Port : Int
 Head : List Int
 deriving DecidableEq, Inhabited
def Event.ch (r : Event) : List AV := [.sc (.string r.On), .sc (.int .i64 r.Unit), .sc (.int .i64 r.Port), .arr .u64 12 r.Head]
def Event.av (r : Event) : AV := .agg [.sc (.string r.On), .sc (.int .i64 r.Unit), .sc (.int .i64 r.Port), .arr .u64 12 r.Head]
structure Change where
 Unit : Int
 Mod : Mod
 deriving DecidableEq, Inhabited
def Change.ch (r : Change) : List AV := [.sc (.int .i64 r.Unit), .sc (.int .i64 r.Mod.Kind), .arr .u64 12 r.Mod.Match.Value, .arr .u64 12 r.Mod.Match.Care, .sc (.int .i64 r.Mod.Prio), .sl 99 (List.map Act.av r.Mod.Acts) false, .sc (.int .i64 r.Mod.Idle), .sc (.int .i64 r.Mod.Hard), .sc (.int .i64 r.Mod.Owner), .sc (.bool r.Mod.Check)]
def Change.av (r : Change) : AV := .agg [.sc (.int .i64 r.Unit), .sc (.int .i64 r.Mod.Kind), .arr .u64 12 r.Mod.Match.Value, .arr .u64 12 r.Mod.Match.Care, .sc (.int .i64 r.Mod.Prio), .sl 99 (List.map Act.av r.Mod.Acts) false, .sc (.int .i64 r.Mod.Idle), .sc (.int .i64 r.Mod.Hard), .sc (.int .i64 r.Mod.Owner), .sc (.bool r.Mod.Check)]
structure Var where
 Name : ByteArray
 N : Int
 deriving DecidableEq, Inhabited
def Var.ch (r : Var) : List AV := [.sc (.string r.Name), .sc (.int .i64 r.N)]
def Var.av (r : Var) : AV := .agg [.sc (.string r.Name), .sc (.int .i64 r.N)]
end Go.Proofs.Yteioljlgcagnnaa
namespace Go.Proofs.Yteioljlgcagnnaa
open Go.Sh
noncomputable def z47_F : Go.Sh.Fn := ⟨47, bodyOf Try.f47, 21⟩
def z47 (c : Int) : Bool :=
 ((((decide (c ≥ 97)) && (decide (c ≤ 122))) || ((decide (c ≥ 65)) && (decide (c ≤ 90)))) || (c == 95))
theorem z47_calls (c : Int) : ACalls Try.prog tab.S 47 [.sc (.int .u8 c)] [] (.sc (.bool (z47 c))) [] := by
 generalize H : z47 c = r
 refine .of_AX z47_F Try.func47 fun c0 hc0 => ?_
 rw [z47] at H
 refine .sg 3 [0] (.rg (.sg 3 [0,5] (.mx 0 [0,8] (.sg 1 [0,9] (.mm 9 ((decide (c ≥ 97)) && (decide (c ≤ 122))) 7 [.pure, .pure, .pure, .pure, .pure, .pure, .pure] [0, 16] 16 (fun z => .sc (.bool (z || ((decide (c ≥ 65)) && (decide (c ≤ 90)))))) ?J3 (fun hb J => ?ht3) (fun hb J => ?hf3))))))
 case ht3 =>
  exact .sg 7 [0,16] (.cl J)
 case hf3 =>
  exact .sg 3 [0,9,12] (.mx 0 [0,9,15] (.sg 1 [0,16] (.cl J)))
 refine .sg 1 [0,17] (.mx 1 [20] (.sg 1 [2] (.dn ?_)))
 subst H
 exact .ret Try.func47 hc0
noncomputable def z48_F : Go.Sh.Fn := ⟨48, bodyOf Try.f48, 9⟩
def z48 (c : Int) : Bool :=
 ((decide (c ≥ 48)) && (decide (c ≤ 57)))
theorem z48_calls (c : Int) : ACalls Try.prog tab.S 48 [.sc (.int .u8 c)] [] (.sc (.bool (z48 c))) [] := by
 generalize H : z48 c = r
 refine .of_AX z48_F Try.func48 fun c0 hc0 => ?_
 rw [z48] at H
 refine .sg 3 [0] (.rg (.sg 3 [0,5] (.mx 0 [8] (.sg 1 [2] (.dn ?_)))))
 subst H
 exact .ret Try.func48 hc0
noncomputable def z51_F : Go.Sh.Fn := ⟨51, bodyOf Try.f51, 2⟩
def z51 : (List ByteArray) :=
 [(ByteArray.mk #[124, 124]), (ByteArray.mk #[38, 38]), (ByteArray.mk #[61, 61]), (ByteArray.mk #[33, 61]), (ByteArray.mk #[60, 61]), (ByteArray.mk #[62, 61]), (ByteArray.mk #[60]), (ByteArray.mk #[62]), (ByteArray.mk #[43]), (ByteArray.mk #[45]), (ByteArray.mk #[42]), (ByteArray.mk #[47]), (ByteArray.mk #[37]), (ByteArray.mk #[33]), (ByteArray.mk #[61]), (ByteArray.mk #[40]), (ByteArray.mk #[41]), (ByteArray.mk #[123]), (ByteArray.mk #[125]), (ByteArray.mk #[91]), (ByteArray.mk #[93]), (ByteArray.mk #[44]), (ByteArray.mk #[59])]
theorem z51_calls : ACalls Try.prog tab.S 51 [] [] (.sl 9 (List.map strA (z51)) true) [] := by
 generalize H : z51 = r
 refine .of_AX z51_F Try.func51 fun c0 hc0 => ?_
 rw [z51] at H
 refine .sg 4 [0] ?_
 subst H
 exact .ret Try.func51 hc0
noncomputable def z49_F : Go.Sh.Fn := ⟨49, bodyOf Try.f49, 34⟩
def z49_l0 (s : ByteArray) : Nat → Int → Option (Sum (Unit) (Bool))
 | 0, _ => none
 | m + 1, i =>
  (bif (decide (i < ((s.size : Nat) : Int))) then
  reqO (decide (0 ≤ i) && decide (i < ((s.size : Nat) : Int))) (
  (bif (!(z47 (byteAt s i))) then
   (bif (i == 0) then
    some (.inr false)
   else
    reqO (decide (0 ≤ i) && decide (i < ((s.size : Nat) : Int))) (
    (bif (!(z48 (byteAt s i))) then
     some (.inr false)
    else
     z49_l0 s m (IntKind.i64.wrap (i + 1)))))
  else
   z49_l0 s m (IntKind.i64.wrap (i + 1))))
 else
  some (.inl ()))
theorem z49_l0_walk (q0 : Nat) (s : ByteArray)  (r : Bool) (c0 : Ctx) (hc0 : c0.m.length = 0) (res : Sum (Unit) (Bool)) (J : ∀ w : Unit, res = .inl w → AX Try.prog tab z49_F c0 (Rp tab.S c0 (.sc (.bool r)) []) (some ⟨[.code [1, 1]], [(0, .sc (.string s))], []⟩)) (Jr : ∀ w, res = .inr w → w = r) :
  ∀ (m : Nat) (i : Int) (H : z49_l0 s m i = some res), AX Try.prog tab z49_F c0 (Rp tab.S c0 (.sc (.bool r)) []) (some ⟨[.code [1, 0, 1, 0, 0], .loop [1, 0, 1, 0], .blk 0, .code [1, 1]], [(0, .sc (.string s)), (3, .sc (.int .i64 i))], []⟩) := by
 intro m
 induction m with
 | zero => intro i H; cases H
 | succ m ih =>
  intro i H
  rw [z49_l0] at H
  refine .sg 3 [0,3,7] (.cd (decide (i < ((s.size : Nat) : Int))) H (fun hb H => ?_) (fun hb H => ?_))
  ·
   refine .sg 4 [0,3] (.rg (.sg 2 [0,3,10,11] (reqH H fun hreq H => (.xs [0,3,12] hreq (.cp [0,3,13] (z47_calls (byteAt s i)) (.sg 2 [0,3,15] (.sp 15 (!(z47 (byteAt s i))) H (fun hb H => ?_) (fun hb H => ?_))))))))
   ·
    refine .sg 3 [0,3,15,18] (.sp 18 (i == 0) H (fun hb H => ?_) (fun hb H => ?_))
    ·
     refine .sg 7 [0,3,25] (.dn (.sg 3 [2] ?_))
     obtain rfl := Option.some.inj H
     obtain rfl := Jr _ rfl
     exact .ret Try.func49 hc0
    ·
     refine .sg 2 [0,3,15,18,19,20] (reqH H fun hreq H => (.xs [0,3,15,18,21] hreq (.cp [0,3,15,18,22] (z48_calls (byteAt s i)) (.sg 3 [0,3,25] (.dn (.cd (!(z48 (byteAt s i))) H (fun hb H => ?_) (fun hb H => ?_)))))))
     ·
      refine .sg 2 [2] ?_
      obtain rfl := Option.some.inj H
      obtain rfl := Jr _ rfl
      exact .ret Try.func49 hc0
     ·
      exact .sg 3 [0,3] (.kp [0,3] (.into (.to (ih (IntKind.i64.wrap (i + 1)) H))))
   ·
    exact .sg 10 [0,3,25] (.dn (.sg 4 [0,3] (.kp [0,3] (.into (.to (ih (IntKind.i64.wrap (i + 1)) H))))))
  ·
   exact .sg 1 [0] (.kp [0] (.to (J () (Option.some.inj H).symm)))
def z49_raw (q0 : Nat) (s : ByteArray) : Option (Bool) :=
 loopO (z49_l0 s q0 0) fun v =>
 some ((decide (((s.size : Nat) : Int) ≥ 1)) && (decide (((s.size : Nat) : Int) ≤ 32)))
theorem z49_walk (q0 : Nat) (s : ByteArray) (r : Bool) (H : z49_raw q0 s = some r) : ACalls Try.prog tab.S 49 [.sc (.string s)] [] (.sc (.bool r)) [] := by
 refine .of_AX z49_F Try.func49 fun c0 hc0 => ?_
 rw [z49_raw] at H
 refine .sg 6 [0,3] ?_
 rcases loopO_some H with ⟨v, hv, H⟩ | hv
 case inr =>
  exact .into (.to (z49_l0_walk q0 s r c0 hc0 (.inr r) (fun _ e => by cases e) (fun _ e => (Sum.inr.inj e).symm) q0 0 hv))
 refine .into (.to (z49_l0_walk q0 s r c0 hc0 (.inl v) (fun w e => ?_) (fun _ e => by cases e) q0 0 hv))
 have e := Sum.inl.inj e
 subst e
 refine .sg 1 [0] (.rg (.sg 4 [0,29] (.mx 0 [33] (.sg 1 [2] (.dn ?_)))))
 obtain rfl := Option.some.inj H
 exact .ret Try.func49 hc0
noncomputable def z50_F : Go.Sh.Fn := ⟨50, bodyOf Try.f50, 35⟩
def z50_l0 (s : ByteArray) : Nat → Int → Int → Option (Sum (Int) (Bool))
 | 0, _, _ => none
 | m + 1, n, i =>
  (bif (decide (i < ((s.size : Nat) : Int))) then
  reqO (decide (0 ≤ i) && decide (i < ((s.size : Nat) : Int))) (
  (bif ((!(z48 (byteAt s i))) || (decide (i ≥ 19))) then
   some (.inr false)
  else
   reqO (decide (0 ≤ i) && decide (i < ((s.size : Nat) : Int))) (
   z50_l0 s m (IntKind.u64.wrap ((IntKind.u64.wrap (n * 10)) + (IntKind.u64.wrap (IntKind.u8.wrap ((byteAt s i) - 48))))) (IntKind.i64.wrap (i + 1)))))
 else
  some (.inl n))
theorem z50_l0_walk (q0 : Nat) (s : ByteArray)  (r : Bool) (c0 : Ctx) (hc0 : c0.m.length = 0) (res : Sum (Int) (Bool)) (J : ∀ w : Int, res = .inl w → AX Try.prog tab z50_F c0 (Rp tab.S c0 (.sc (.bool r)) []) (some ⟨[.code [1, 1, 1]], [(0, .sc (.string s)), (3, .sc (.int .u64 w))], []⟩)) (Jr : ∀ w, res = .inr w → w = r) :
  ∀ (m : Nat) (n : Int) (i : Int) (H : z50_l0 s m n i = some res), AX Try.prog tab z50_F c0 (Rp tab.S c0 (.sc (.bool r)) []) (some ⟨[.code [1, 1, 0, 1, 0, 0], .loop [1, 1, 0, 1, 0], .blk 0, .code [1, 1, 1]], [(0, .sc (.string s)), (3, .sc (.int .u64 n)), (4, .sc (.int .i64 i))], []⟩) := by
 intro m
 induction m with
 | zero => intro n i H; cases H
 | succ m ih =>
  intro n i H
  rw [z50_l0] at H
  refine .sg 3 [0,3,4,8] (.cd (decide (i < ((s.size : Nat) : Int))) H (fun hb H => ?_) (fun hb H => ?_))
  ·
   refine .sg 5 [0,3,4] (.rg (.sg 2 [0,3,4,11,12] (reqH H fun hreq H => (.xs [0,3,4,13] hreq (.cp [0,3,4,14] (z48_calls (byteAt s i)) (.sg 2 [0,3,4,16] (.mx 1 [0,3,4,19] (.dn (.cd ((!(z48 (byteAt s i))) || (decide (i ≥ 19))) H (fun hb H => ?_) (fun hb H => ?_))))))))))
   ·
    refine .sg 2 [2] ?_
    obtain rfl := Option.some.inj H
    obtain rfl := Jr _ rfl
    exact .ret Try.func50 hc0
   ·
    exact .sg 1 [0,3,4] (.rg (.sg 4 [0,4,21,22,23] (reqH H fun hreq H => (.xs [0,4,21,24] hreq (.sg 4 [0,3,4] (.dn (.sg 2 [0,3,4] (.kp [0,3,4] (.into (.to (ih (IntKind.u64.wrap ((IntKind.u64.wrap (n * 10)) + (IntKind.u64.wrap (IntKind.u8.wrap ((byteAt s i) - 48))))) (IntKind.i64.wrap (i + 1)) H)))))))))))
  ·
   exact .sg 1 [0,3] (.kp [0,3] (.to (J n (Option.some.inj H).symm)))
def z50_raw (q0 : Nat) (s : ByteArray) : Option (Bool) :=
 loopO (z50_l0 s q0 0 0) fun v =>
 some ((decide (((s.size : Nat) : Int) ≥ 1)) && (decide (v < 9223372036854775808)))
theorem z50_walk (q0 : Nat) (s : ByteArray) (r : Bool) (H : z50_raw q0 s = some r) : ACalls Try.prog tab.S 50 [.sc (.string s)] [] (.sc (.bool r)) [] := by
 refine .of_AX z50_F Try.func50 fun c0 hc0 => ?_
 rw [z50_raw] at H
 refine .sg 8 [0,3,4] ?_
 rcases loopO_some H with ⟨v, hv, H⟩ | hv
 case inr =>
  exact .into (.to (z50_l0_walk q0 s r c0 hc0 (.inr r) (fun _ e => by cases e) (fun _ e => (Sum.inr.inj e).symm) q0 0 0 hv))
 refine .into (.to (z50_l0_walk q0 s r c0 hc0 (.inl v) (fun w e => ?_) (fun _ e => by cases e) q0 0 0 hv))
 have e := Sum.inl.inj e
 subst e
 refine .sg 1 [0,3] (.rg (.sg 4 [3,31] (.mx 0 [34] (.sg 1 [2] (.dn ?_)))))
 obtain rfl := Option.some.inj H
 exact .ret Try.func50 hc0
noncomputable def z55_F : Go.Sh.Fn := ⟨55, bodyOf Try.f55, 20⟩
def z55_l0 (s : ByteArray) : Nat → Int → Int → Option (Int)
 | 0, _, _ => none
 | m + 1, n, i =>
  (bif (decide (i < ((s.size : Nat) : Int))) then
  reqO (decide (0 ≤ i) && decide (i < ((s.size : Nat) : Int))) (
  z55_l0 s m (IntKind.i64.wrap ((IntKind.i64.wrap (n * 10)) + (IntKind.i64.wrap (IntKind.u8.wrap ((byteAt s i) - 48))))) (IntKind.i64.wrap (i + 1)))
 else
  some n)
theorem z55_l0_walk (q0 : Nat) (s : ByteArray)  (r : Int) (c0 : Ctx) (hc0 : c0.m.length = 0) (res : Int) (J : AX Try.prog tab z55_F c0 (Rp tab.S c0 (.sc (.int .i64 r)) []) (some ⟨[.code [1, 1, 1]], [(3, .sc (.int .i64 res))], []⟩)) :
  ∀ (m : Nat) (n : Int) (i : Int) (H : z55_l0 s m n i = some res), AX Try.prog tab z55_F c0 (Rp tab.S c0 (.sc (.int .i64 r)) []) (some ⟨[.code [1, 1, 0, 1, 0, 0], .loop [1, 1, 0, 1, 0], .blk 0, .code [1, 1, 1]], [(0, .sc (.string s)), (3, .sc (.int .i64 n)), (4, .sc (.int .i64 i))], []⟩) := by
 intro m
 induction m with
 | zero => intro n i H; cases H
 | succ m ih =>
  intro n i H
  rw [z55_l0] at H
  refine .sg 3 [0,3,4,8] (.cd (decide (i < ((s.size : Nat) : Int))) H (fun hb H => ?_) (fun hb H => ?_))
  ·
   exact .sg 3 [0,3,4] (.rg (.sg 4 [0,4,12,13,14] (reqH H fun hreq H => (.xs [0,4,12,15] hreq (.sg 4 [0,3,4] (.dn (.sg 2 [0,3,4] (.kp [0,3,4] (.into (.to (ih (IntKind.i64.wrap ((IntKind.i64.wrap (n * 10)) + (IntKind.i64.wrap (IntKind.u8.wrap ((byteAt s i) - 48))))) (IntKind.i64.wrap (i + 1)) H)))))))))))
  ·
   refine .sg 1 [3] (.kp [3] ?_)
   obtain rfl := Option.some.inj H
   exact .to J
def z55_raw (q0 : Nat) (s : ByteArray) : Option (Int) :=
 (z55_l0 s q0 0 0).bind fun v =>
 some v
theorem z55_walk (q0 : Nat) (s : ByteArray) (r : Int) (H : z55_raw q0 s = some r) : ACalls Try.prog tab.S 55 [.sc (.string s)] [] (.sc (.int .i64 r)) [] := by
 refine .of_AX z55_F Try.func55 fun c0 hc0 => ?_
 rw [z55_raw] at H
 refine .sg 8 [0,3,4] ?_
 refine bndO H fun v hv H => (.into (.to (z55_l0_walk q0 s r c0 hc0 v ?_ q0 0 0 hv)))
 refine .sg 2 [2] ?_
 obtain rfl := Option.some.inj H
 exact .ret Try.func55 hc0
noncomputable def z36_F : Go.Sh.Fn := ⟨36, bodyOf Try.f36, 18⟩
def z36_l0s (s : ByteArray) : List ByteArray → Sum (Unit) (Bool)
 | [] =>
  (.inl ())
 | x :: rest =>
  (bif (x == s) then
   (.inr true)
  else
   z36_l0s s rest )
theorem z36_l0_walk (l : List ByteArray) (s : ByteArray) (f_l : Bool) (r : Bool) (c0 : Ctx) (hc0 : c0.m.length = 0) (res : Sum (Unit) (Bool)) (J : ∀ w : Unit, res = .inl w → AX Try.prog tab z36_F c0 (Rp tab.S c0 (.sc (.bool r)) []) (some ⟨[.code [1, 1]], [], []⟩)) (Jr : ∀ w, res = .inr w → w = r) :
  ∀ (rest : List ByteArray) (i : Nat) (z : Int) (hI : z = ((i : Nat) : Int)) (hd : l.drop i = rest) (H : z36_l0s s rest = res), AX Try.prog tab z36_F c0 (Rp tab.S c0 (.sc (.bool r)) []) (some ⟨[.code [1, 0, 1, 0, 0], .loop [1, 0, 1, 0], .blk 0, .code [1, 1]], [(0, .sl 9 (List.map strA l) f_l), (1, .sc (.string s)), (5, .sc (.int .i64 z))], []⟩) := by
 intro rest
 induction rest with
 | nil =>
  intro i z hI hd  H
  subst hI
  rw [z36_l0s] at H
  refine .facts 0 fun hf => ?_
  have hlen : l.length ≤ 9223372036854775807 := by have hq := len_ok hf.2.1; rw [List.length_map] at hq; exact hq
  have hge : l.length ≤ i := List.drop_eq_nil_iff.1 hd
  have hc : (decide (((i : Nat) : Int) < (((List.map strA l).length : Nat) : Int))) = false := by rw [List.length_map]; exact decide_eq_false (by omega)
  exact .sg 3 [0,1,5,9] (.cdF hc (.sg 1 [] (.kp [] (.to (J () H.symm)))))
 | cons x rest ih =>
  intro i z hI hd  H
  subst hI
  rw [z36_l0s] at H
  refine .facts 0 fun hf => ?_
  have hlen : l.length ≤ 9223372036854775807 := by have hq := len_ok hf.2.1; rw [List.length_map] at hq; exact hq
  obtain ⟨hlt, hv_i, hd2⟩ := drop_cons hd
  have hc : (decide (((i : Nat) : Int) < (((List.map strA l).length : Nat) : Int))) = true := by rw [List.length_map]; exact decide_eq_true (by omega)
  have hw : IntKind.i64.wrap (((i : Nat) : Int) + 1) = ((i + 1 : Nat) : Int) := wrapI_succ (by omega)
  refine .sg 3 [0,1,5,9] (.cdT hc (.sg 4 [0,1,5] (.rg (.sg 2 [0,1,5,12,13] (.xi [0,1,5,14] strA hv_i (.sg 3 [0,1,5,17] (.dn (.cd (x == s) H (fun hb H => ?_) (fun hb H => ?_)))))))))
  ·
   refine .sg 2 [4] ?_
   subst H
   obtain rfl := Jr _ rfl
   exact .ret Try.func36 hc0
  ·
   exact .sg 3 [0,1,5] (.kp [0,1,5] (.into (.cl (ih (i + 1) _ hw hd2 H))))
def z36 (l : List ByteArray) (s : ByteArray) : Bool :=
 sumG (fun q => q) (z36_l0s s l) fun v =>
 false
theorem z36_calls (l : List ByteArray) (s : ByteArray) (f_l : Bool) : ACalls Try.prog tab.S 36 [.sl 9 (List.map strA l) f_l, .sc (.string s)] [] (.sc (.bool (z36 l s))) [] := by
 generalize H : z36 l s = r
 refine .of_AX z36_F Try.func36 fun c0 hc0 => ?_
 rw [z36] at H
 refine .sg 6 [0,1,5] ?_
 rcases sumG_eq H with ⟨v, hv, H⟩ | ⟨r1, hv, hr1⟩
 case inr =>
  refine .into ?_
  replace hr1 : r1 = r := hr1
  subst hr1
  exact .to (z36_l0_walk l s f_l _ c0 hc0 (.inr _) (fun _ e => by cases e) (fun _ e => (Sum.inr.inj e).symm) l 0 _ rfl rfl hv)
 refine .into (.to (z36_l0_walk l s f_l r c0 hc0 (.inl v) (fun w e => ?_) (fun _ e => by cases e) l 0 _ rfl rfl hv))
 have e := Sum.inl.inj e
 subst e
 refine .sg 2 [4] ?_
 subst H
 exact .ret Try.func36 hc0
end Go.Proofs.Yteioljlgcagnnaa
namespace Go.Proofs.Yteioljlgcagnnaa
open Go.Sh
noncomputable def z29_F : Go.Sh.Fn := ⟨29, bodyOf Try.f29, 165⟩
def z29_l1 (s : ByteArray) : Nat → Int → Option (Int)
 | 0, _ => none
 | m + 1, i1 =>
  (bif (decide (i1 < ((s.size : Nat) : Int))) then
  reqO (decide (0 ≤ i1) && decide (i1 < ((s.size : Nat) : Int))) (
  (bif ((byteAt s i1) != 10) then
   z29_l1 s m (IntKind.i64.wrap (i1 + 1))
  else
   some i1))
 else
  some i1)
theorem z29_l1_walk (q0 : Nat) (q1 : Nat) (q2 : Nat) (q3 : Nat) (q4 : Nat) (q5 : Nat) (s : ByteArray) (i : Int) (out : List Token)  (r : (List Token) × Fault) (c0 : Ctx) (hc0 : c0.m.length = 0) (res : Int) (J : AX Try.prog tab z29_F c0 (Rp tab.S c0 (.tup [.sl 105 (List.map Token.av r.1) false, Fault.av r.2]) []) (some ⟨[.code [1, 1, 1, 1, 0, 0, 0, 1, 0, 1, 1, 0, 1, 0, 1], .code [1, 1, 1, 1, 0, 0, 0, 1, 0, 1, 1, 1], .blk 1, .loop [1, 1, 1, 1, 0, 0], .blk 0, .code [1, 1, 1, 1, 1]], [(0, .sc (.string s)), (3, .ptr 0 0 none), (4, .own 1 1000000), (5, .sc (.int .i64 res))], [.box 56 [.sc (.int .i64 0), .sc (.int .i64 0)], .row 105 (List.map Token.av out) 1000000 true]⟩)) :
  ∀ (m : Nat) (i1 : Int) (H : z29_l1 s m i1 = some res), AX Try.prog tab z29_F c0 (Rp tab.S c0 (.tup [.sl 105 (List.map Token.av r.1) false, Fault.av r.2]) []) (some ⟨[.code [1, 1, 1, 1, 0, 0, 0, 1, 0, 1, 1, 0, 1, 0, 0, 0, 0], .loop [1, 1, 1, 1, 0, 0, 0, 1, 0, 1, 1, 0, 1, 0, 0, 0], .blk 2, .code [1, 1, 1, 1, 0, 0, 0, 1, 0, 1, 1, 0, 1, 0, 1], .code [1, 1, 1, 1, 0, 0, 0, 1, 0, 1, 1, 1], .blk 1, .loop [1, 1, 1, 1, 0, 0], .blk 0, .code [1, 1, 1, 1, 1]], [(0, .sc (.string s)), (3, .ptr 0 0 none), (4, .own 1 1000000), (5, .sc (.int .i64 i1))], [.box 56 [.sc (.int .i64 0), .sc (.int .i64 0)], .row 105 (List.map Token.av out) 1000000 true]⟩) := by
 intro m
 induction m with
 | zero => intro i1 H; cases H
 | succ m ih =>
  intro i1 H
  rw [z29_l1] at H
  refine .sg 2 [0,3,4,5] (.rg (.sg 5 [0,3,4,5,44] (.sp 44 (decide (i1 < ((s.size : Nat) : Int))) H (fun hb H => ?_) (fun hb H => ?_))))
  ·
   refine .sg 2 [0,3,4,5,44,45,46] (reqH H fun hreq H => (.xs [0,3,4,5,44,47] hreq (.sg 2 [0,3,4,5,49] (.dn (.cd ((byteAt s i1) != 10) H (fun hb H => ?_) (fun hb H => ?_))))))
   ·
    exact .sg 4 [0,3,4,5] (.kp [0,3,4,5] (.into (.to (ih (IntKind.i64.wrap (i1 + 1)) H))))
   ·
    refine .sg 1 [0,3,4,5] (.kp [0,3,4,5] ?_)
    obtain rfl := Option.some.inj H
    exact .to J
  ·
   refine .sg 5 [0,3,4,5,49] (.dn (.sg 2 [0,3,4,5] (.kp [0,3,4,5] ?_)))
   obtain rfl := Option.some.inj H
   exact .to J
def z29_l2 (s : ByteArray) (i : Int) : Nat → Int → Option (Int)
 | 0, _ => none
 | m + 1, n =>
  (bif (decide ((IntKind.i64.wrap (i + n)) < ((s.size : Nat) : Int))) then
  reqO (decide (0 ≤ (IntKind.i64.wrap (i + n))) && decide ((IntKind.i64.wrap (i + n)) < ((s.size : Nat) : Int))) (
  (bif (z48 (byteAt s (IntKind.i64.wrap (i + n)))) then
   z29_l2 s i m (IntKind.i64.wrap (n + 1))
  else
   (bif (z47 (byteAt s i)) then
    reqO (decide (0 ≤ (IntKind.i64.wrap (i + n))) && decide ((IntKind.i64.wrap (i + n)) < ((s.size : Nat) : Int))) (
    (bif (z47 (byteAt s (IntKind.i64.wrap (i + n)))) then
     z29_l2 s i m (IntKind.i64.wrap (n + 1))
    else
     some n))
   else
    some n)))
 else
  some n)
theorem z29_l2_walk (q0 : Nat) (q1 : Nat) (q2 : Nat) (q3 : Nat) (q4 : Nat) (q5 : Nat) (s : ByteArray) (i : Int) (out : List Token)  (r : (List Token) × Fault) (c0 : Ctx) (hc0 : c0.m.length = 0) (res : Int) (J : AX Try.prog tab z29_F c0 (Rp tab.S c0 (.tup [.sl 105 (List.map Token.av r.1) false, Fault.av r.2]) []) (some ⟨[.code [1, 1, 1, 1, 0, 0, 0, 1, 0, 1, 1, 1, 1, 0, 1, 0, 1], .code [1, 1, 1, 1, 0, 0, 0, 1, 0, 1, 1, 1, 1, 1], .blk 1, .loop [1, 1, 1, 1, 0, 0], .blk 0, .code [1, 1, 1, 1, 1]], [(0, .sc (.string s)), (3, .ptr 0 0 none), (4, .own 1 1000000), (5, .sc (.int .i64 i)), (7, .sc (.int .i64 res))], [.box 56 [.sc (.int .i64 0), .sc (.int .i64 0)], .row 105 (List.map Token.av out) 1000000 true]⟩)) :
  ∀ (m : Nat) (n : Int) (H : z29_l2 s i m n = some res), AX Try.prog tab z29_F c0 (Rp tab.S c0 (.tup [.sl 105 (List.map Token.av r.1) false, Fault.av r.2]) []) (some ⟨[.code [1, 1, 1, 1, 0, 0, 0, 1, 0, 1, 1, 1, 1, 0, 1, 0, 0, 0, 0], .loop [1, 1, 1, 1, 0, 0, 0, 1, 0, 1, 1, 1, 1, 0, 1, 0, 0, 0], .blk 4, .code [1, 1, 1, 1, 0, 0, 0, 1, 0, 1, 1, 1, 1, 0, 1, 0, 1], .code [1, 1, 1, 1, 0, 0, 0, 1, 0, 1, 1, 1, 1, 1], .blk 1, .loop [1, 1, 1, 1, 0, 0], .blk 0, .code [1, 1, 1, 1, 1]], [(0, .sc (.string s)), (3, .ptr 0 0 none), (4, .own 1 1000000), (5, .sc (.int .i64 i)), (6, .sc (.int .u8 (byteAt s i))), (7, .sc (.int .i64 n))], [.box 56 [.sc (.int .i64 0), .sc (.int .i64 0)], .row 105 (List.map Token.av out) 1000000 true]⟩) := by
 intro m
 induction m with
 | zero => intro n H; cases H
 | succ m ih =>
  intro n H
  rw [z29_l2] at H
  refine .sg 2 [0,3,4,5,6,7] (.rg (.sg 7 [0,3,4,5,6,7,64] (.sp 64 (decide ((IntKind.i64.wrap (i + n)) < ((s.size : Nat) : Int))) H (fun hb H => ?_) (fun hb H => ?_))))
  ·
   refine .sg 4 [0,3,4,5,6,7,64,65,68] (reqH H fun hreq H => (.xs [0,3,4,5,6,7,64,69] hreq (.cp [0,3,4,5,6,7,64,70] (z48_calls (byteAt s (IntKind.i64.wrap (i + n)))) (.sg 1 [0,3,4,5,6,7,64,71] (.sp 71 (z48 (byteAt s (IntKind.i64.wrap (i + n)))) H (fun hb H => ?_) (fun hb H => ?_))))))
   ·
    exact .sg 12 [0,3,4,5,6,7,83] (.dn (.sg 5 [0,3,4,5,6,7] (.kp [0,3,4,5,6,7] (.into (.to (ih (IntKind.i64.wrap (n + 1)) H))))))
   ·
    refine .sg 1 [0,3,4,5,6,7,64,71,72] (.cp [0,3,4,5,6,7,64,71,73] (z47_calls (byteAt s i)) (.sg 1 [0,3,4,5,6,7,64,71,74] (.sp 74 (z47 (byteAt s i)) H (fun hb H => ?_) (fun hb H => ?_))))
    ·
     refine .sg 4 [0,3,4,5,6,7,64,71,74,75,78] (reqH H fun hreq H => (.xs [0,3,4,5,6,7,64,71,74,79] hreq (.cp [0,3,4,5,6,7,64,71,74,80] (z47_calls (byteAt s (IntKind.i64.wrap (i + n)))) (.sg 3 [0,3,4,5,6,7,83] (.dn (.cd (z47 (byteAt s (IntKind.i64.wrap (i + n)))) H (fun hb H => ?_) (fun hb H => ?_)))))))
     ·
      exact .sg 4 [0,3,4,5,6,7] (.kp [0,3,4,5,6,7] (.into (.to (ih (IntKind.i64.wrap (n + 1)) H))))
     ·
      refine .sg 1 [0,3,4,5,7] (.kp [0,3,4,5,7] ?_)
      obtain rfl := Option.some.inj H
      exact .to J
    ·
     refine .sg 9 [0,3,4,5,6,7,83] (.dn (.sg 2 [0,3,4,5,7] (.kp [0,3,4,5,7] ?_)))
     obtain rfl := Option.some.inj H
     exact .to J
  ·
   refine .sg 19 [0,3,4,5,6,7,83] (.dn (.sg 2 [0,3,4,5,7] (.kp [0,3,4,5,7] ?_)))
   obtain rfl := Option.some.inj H
   exact .to J
def z29_l3 (s : ByteArray) (i : Int) : Nat → Int → Int → Option (Int)
 | 0, _, _ => none
 | m + 1, n1, k1 =>
  (bif ((decide (k1 < (((List.map strA z51).length : Nat) : Int))) && (n1 == 0)) then
  (ixO z51 k1).bind fun x3 =>
  (bif (decide ((IntKind.i64.wrap (i + ((x3.size : Nat) : Int))) ≤ ((s.size : Nat) : Int))) then
   (ixO z51 k1).bind fun x4 =>
   (subS s (some i) (some (IntKind.i64.wrap (i + ((x4.size : Nat) : Int))))).bind fun x5 =>
   (ixO z51 k1).bind fun x6 =>
   (bif (x5 == x6) then
    (ixO z51 k1).bind fun x7 =>
    z29_l3 s i m ((x7.size : Nat) : Int) (IntKind.i64.wrap (k1 + 1))
   else
    z29_l3 s i m n1 (IntKind.i64.wrap (k1 + 1)))
  else
   z29_l3 s i m n1 (IntKind.i64.wrap (k1 + 1)))
 else
  some n1)
theorem z29_l3_walk (q0 : Nat) (q1 : Nat) (q2 : Nat) (q3 : Nat) (q4 : Nat) (q5 : Nat) (s : ByteArray) (i : Int) (out : List Token) (v1 : Int) (x : ByteArray) (x1 : Bool) (x2 : Bool)  (r : (List Token) × Fault) (c0 : Ctx) (hc0 : c0.m.length = 0) (res : Int) (J : AX Try.prog tab z29_F c0 (Rp tab.S c0 (.tup [.sl 105 (List.map Token.av r.1) false, Fault.av r.2]) []) (some ⟨[.code [1, 1, 1, 1, 0, 0, 0, 1, 0, 1, 1, 1, 1, 1, 1, 1], .blk 1, .loop [1, 1, 1, 1, 0, 0], .blk 0, .code [1, 1, 1, 1, 1]], [(0, .sc (.string s)), (3, .ptr 0 0 none), (4, .own 1 1000000), (5, .sc (.int .i64 i)), (7, .sc (.int .i64 res))], [.box 56 [.sc (.int .i64 0), .sc (.int .i64 0)], .row 105 (List.map Token.av out) 1000000 true]⟩)) :
  ∀ (m : Nat) (n1 : Int) (k1 : Int) (H : z29_l3 s i m n1 k1 = some res), AX Try.prog tab z29_F c0 (Rp tab.S c0 (.tup [.sl 105 (List.map Token.av r.1) false, Fault.av r.2]) []) (some ⟨[.code [1, 1, 1, 1, 0, 0, 0, 1, 0, 1, 1, 1, 1, 1, 1, 0, 1, 0, 0], .loop [1, 1, 1, 1, 0, 0, 0, 1, 0, 1, 1, 1, 1, 1, 1, 0, 1, 0], .blk 6, .code [1, 1, 1, 1, 0, 0, 0, 1, 0, 1, 1, 1, 1, 1, 1, 1], .blk 1, .loop [1, 1, 1, 1, 0, 0], .blk 0, .code [1, 1, 1, 1, 1]], [(0, .sc (.string s)), (3, .ptr 0 0 none), (4, .own 1 1000000), (5, .sc (.int .i64 i)), (7, .sc (.int .i64 n1)), (9, .sl 9 (List.map strA z51) true), (10, .sc (.int .i64 k1))], [.box 56 [.sc (.int .i64 0), .sc (.int .i64 0)], .row 105 (List.map Token.av out) 1000000 true]⟩) := by
 intro m
 induction m with
 | zero => intro n1 k1 H; cases H
 | succ m ih =>
  intro n1 k1 H
  rw [z29_l3] at H
  refine .sg 2 [0,3,4,5,7,9,10] (.rg (.sg 5 [0,3,4,5,7,9,10,107] (.mx 0 [0,3,4,5,7,9,10,110] (.dn (.cd ((decide (k1 < (((List.map strA z51).length : Nat) : Int))) && (n1 == 0)) H (fun hb H => ?_) (fun hb H => ?_))))))
  ·
   refine .sg 4 [0,3,4,5,7,9,10] (.rg (.sg 3 [0,3,4,5,7,9,10,113,114,115] (bndO H fun x3 hv H => (.xi [0,3,4,5,7,9,10,113,116] strA hv (.sg 7 [0,3,4,5,7,9,10,123] (.sp 123 (decide ((IntKind.i64.wrap (i + ((x3.size : Nat) : Int))) ≤ ((s.size : Nat) : Int))) H (fun hb H => ?_) (fun hb H => ?_)))))))
   ·
    refine .sg 5 [0,3,4,5,7,9,10,123,124,125,126,127,128] (bndO H fun x4 hv H => (.xi [0,3,4,5,7,9,10,123,124,125,126,129] strA hv (.sg 3 [0,3,4,5,7,9,10,123,124,125,132] (bndO H fun x5 hv H => (.ss [0,3,4,5,7,9,10,123,133] hv (.sg 2 [0,3,4,5,7,9,10,123,133,134,135] (bndO H fun x6 hv H => (.xi [0,3,4,5,7,9,10,123,133,136] strA hv (.sg 3 [0,3,4,5,7,9,10,139] (.dn (.cd (x5 == x6) H (fun hb H => ?_) (fun hb H => ?_))))))))))))
    ·
     exact .rg (.sg 2 [0,3,4,5,9,10,140,141] (bndO H fun x7 hv H => (.xi [0,3,4,5,9,10,142] strA hv (.sg 3 [0,3,4,5,7,9,10] (.dn (.sg 2 [0,3,4,5,7,9,10] (.kp [0,3,4,5,7,9,10] (.into (.to (ih ((x7.size : Nat) : Int) (IntKind.i64.wrap (k1 + 1)) H))))))))))
    ·
     exact .sg 3 [0,3,4,5,7,9,10] (.kp [0,3,4,5,7,9,10] (.into (.to (ih n1 (IntKind.i64.wrap (k1 + 1)) H))))
   ·
    exact .sg 16 [0,3,4,5,7,9,10,139] (.dn (.sg 4 [0,3,4,5,7,9,10] (.kp [0,3,4,5,7,9,10] (.into (.to (ih n1 (IntKind.i64.wrap (k1 + 1)) H))))))
  ·
   refine .sg 1 [0,3,4,5,7] (.kp [0,3,4,5,7] ?_)
   obtain rfl := Option.some.inj H
   exact .to J
def z29_l4 (s : ByteArray) (i : Int) : Nat → Int → Int → Option (Int)
 | 0, _, _ => none
 | m + 1, n2, k2 =>
  (bif ((decide (k2 < (((List.map strA z51).length : Nat) : Int))) && (n2 == 0)) then
  (ixO z51 k2).bind fun x4 =>
  (bif (decide ((IntKind.i64.wrap (i + ((x4.size : Nat) : Int))) ≤ ((s.size : Nat) : Int))) then
   (ixO z51 k2).bind fun x5 =>
   (subS s (some i) (some (IntKind.i64.wrap (i + ((x5.size : Nat) : Int))))).bind fun x6 =>
   (ixO z51 k2).bind fun x7 =>
   (bif (x6 == x7) then
    (ixO z51 k2).bind fun x8 =>
    z29_l4 s i m ((x8.size : Nat) : Int) (IntKind.i64.wrap (k2 + 1))
   else
    z29_l4 s i m n2 (IntKind.i64.wrap (k2 + 1)))
  else
   z29_l4 s i m n2 (IntKind.i64.wrap (k2 + 1)))
 else
  some n2)
theorem z29_l4_walk (q0 : Nat) (q1 : Nat) (q2 : Nat) (q3 : Nat) (q4 : Nat) (q5 : Nat) (s : ByteArray) (i : Int) (out : List Token) (v1 : Int) (x : ByteArray) (x1 : Bool)  (r : (List Token) × Fault) (c0 : Ctx) (hc0 : c0.m.length = 0) (res : Int) (J : AX Try.prog tab z29_F c0 (Rp tab.S c0 (.tup [.sl 105 (List.map Token.av r.1) false, Fault.av r.2]) []) (some ⟨[.code [1, 1, 1, 1, 0, 0, 0, 1, 0, 1, 1, 1, 1, 1, 1, 1], .blk 1, .loop [1, 1, 1, 1, 0, 0], .blk 0, .code [1, 1, 1, 1, 1]], [(0, .sc (.string s)), (3, .ptr 0 0 none), (4, .own 1 1000000), (5, .sc (.int .i64 i)), (7, .sc (.int .i64 res))], [.box 56 [.sc (.int .i64 0), .sc (.int .i64 0)], .row 105 (List.map Token.av out) 1000000 true]⟩)) :
  ∀ (m : Nat) (n2 : Int) (k2 : Int) (H : z29_l4 s i m n2 k2 = some res), AX Try.prog tab z29_F c0 (Rp tab.S c0 (.tup [.sl 105 (List.map Token.av r.1) false, Fault.av r.2]) []) (some ⟨[.code [1, 1, 1, 1, 0, 0, 0, 1, 0, 1, 1, 1, 1, 1, 1, 0, 1, 0, 0], .loop [1, 1, 1, 1, 0, 0, 0, 1, 0, 1, 1, 1, 1, 1, 1, 0, 1, 0], .blk 6, .code [1, 1, 1, 1, 0, 0, 0, 1, 0, 1, 1, 1, 1, 1, 1, 1], .blk 1, .loop [1, 1, 1, 1, 0, 0], .blk 0, .code [1, 1, 1, 1, 1]], [(0, .sc (.string s)), (3, .ptr 0 0 none), (4, .own 1 1000000), (5, .sc (.int .i64 i)), (7, .sc (.int .i64 n2)), (9, .sl 9 (List.map strA z51) true), (10, .sc (.int .i64 k2))], [.box 56 [.sc (.int .i64 0), .sc (.int .i64 0)], .row 105 (List.map Token.av out) 1000000 true]⟩) := by
 intro m
 induction m with
 | zero => intro n2 k2 H; cases H
 | succ m ih =>
  intro n2 k2 H
  rw [z29_l4] at H
  refine .sg 2 [0,3,4,5,7,9,10] (.rg (.sg 5 [0,3,4,5,7,9,10,107] (.mx 0 [0,3,4,5,7,9,10,110] (.dn (.cd ((decide (k2 < (((List.map strA z51).length : Nat) : Int))) && (n2 == 0)) H (fun hb H => ?_) (fun hb H => ?_))))))
  ·
   refine .sg 4 [0,3,4,5,7,9,10] (.rg (.sg 3 [0,3,4,5,7,9,10,113,114,115] (bndO H fun x4 hv H => (.xi [0,3,4,5,7,9,10,113,116] strA hv (.sg 7 [0,3,4,5,7,9,10,123] (.sp 123 (decide ((IntKind.i64.wrap (i + ((x4.size : Nat) : Int))) ≤ ((s.size : Nat) : Int))) H (fun hb H => ?_) (fun hb H => ?_)))))))
   ·
    refine .sg 5 [0,3,4,5,7,9,10,123,124,125,126,127,128] (bndO H fun x5 hv H => (.xi [0,3,4,5,7,9,10,123,124,125,126,129] strA hv (.sg 3 [0,3,4,5,7,9,10,123,124,125,132] (bndO H fun x6 hv H => (.ss [0,3,4,5,7,9,10,123,133] hv (.sg 2 [0,3,4,5,7,9,10,123,133,134,135] (bndO H fun x7 hv H => (.xi [0,3,4,5,7,9,10,123,133,136] strA hv (.sg 3 [0,3,4,5,7,9,10,139] (.dn (.cd (x6 == x7) H (fun hb H => ?_) (fun hb H => ?_))))))))))))
    ·
     exact .rg (.sg 2 [0,3,4,5,9,10,140,141] (bndO H fun x8 hv H => (.xi [0,3,4,5,9,10,142] strA hv (.sg 3 [0,3,4,5,7,9,10] (.dn (.sg 2 [0,3,4,5,7,9,10] (.kp [0,3,4,5,7,9,10] (.into (.to (ih ((x8.size : Nat) : Int) (IntKind.i64.wrap (k2 + 1)) H))))))))))
    ·
     exact .sg 3 [0,3,4,5,7,9,10] (.kp [0,3,4,5,7,9,10] (.into (.to (ih n2 (IntKind.i64.wrap (k2 + 1)) H))))
   ·
    exact .sg 16 [0,3,4,5,7,9,10,139] (.dn (.sg 4 [0,3,4,5,7,9,10] (.kp [0,3,4,5,7,9,10] (.into (.to (ih n2 (IntKind.i64.wrap (k2 + 1)) H))))))
  ·
   refine .sg 1 [0,3,4,5,7] (.kp [0,3,4,5,7] ?_)
   obtain rfl := Option.some.inj H
   exact .to J
def z29_l5 (s : ByteArray) (i : Int) : Nat → Int → Int → Option (Int)
 | 0, _, _ => none
 | m + 1, n3, k3 =>
  (bif ((decide (k3 < (((List.map strA z51).length : Nat) : Int))) && (n3 == 0)) then
  (ixO z51 k3).bind fun x5 =>
  (bif (decide ((IntKind.i64.wrap (i + ((x5.size : Nat) : Int))) ≤ ((s.size : Nat) : Int))) then
   (ixO z51 k3).bind fun x6 =>
   (subS s (some i) (some (IntKind.i64.wrap (i + ((x6.size : Nat) : Int))))).bind fun x7 =>
   (ixO z51 k3).bind fun x8 =>
   (bif (x7 == x8) then
    (ixO z51 k3).bind fun x9 =>
    z29_l5 s i m ((x9.size : Nat) : Int) (IntKind.i64.wrap (k3 + 1))
   else
    z29_l5 s i m n3 (IntKind.i64.wrap (k3 + 1)))
  else
   z29_l5 s i m n3 (IntKind.i64.wrap (k3 + 1)))
 else
  some n3)
theorem z29_l5_walk (q0 : Nat) (q1 : Nat) (q2 : Nat) (q3 : Nat) (q4 : Nat) (q5 : Nat) (s : ByteArray) (i : Int) (out : List Token)  (r : (List Token) × Fault) (c0 : Ctx) (hc0 : c0.m.length = 0) (res : Int) (J : AX Try.prog tab z29_F c0 (Rp tab.S c0 (.tup [.sl 105 (List.map Token.av r.1) false, Fault.av r.2]) []) (some ⟨[.code [1, 1, 1, 1, 0, 0, 0, 1, 0, 1, 1, 1, 1, 1, 1, 1], .blk 1, .loop [1, 1, 1, 1, 0, 0], .blk 0, .code [1, 1, 1, 1, 1]], [(0, .sc (.string s)), (3, .ptr 0 0 none), (4, .own 1 1000000), (5, .sc (.int .i64 i)), (7, .sc (.int .i64 res))], [.box 56 [.sc (.int .i64 0), .sc (.int .i64 0)], .row 105 (List.map Token.av out) 1000000 true]⟩)) :
  ∀ (m : Nat) (n3 : Int) (k3 : Int) (H : z29_l5 s i m n3 k3 = some res), AX Try.prog tab z29_F c0 (Rp tab.S c0 (.tup [.sl 105 (List.map Token.av r.1) false, Fault.av r.2]) []) (some ⟨[.code [1, 1, 1, 1, 0, 0, 0, 1, 0, 1, 1, 1, 1, 1, 1, 0, 1, 0, 0], .loop [1, 1, 1, 1, 0, 0, 0, 1, 0, 1, 1, 1, 1, 1, 1, 0, 1, 0], .blk 6, .code [1, 1, 1, 1, 0, 0, 0, 1, 0, 1, 1, 1, 1, 1, 1, 1], .blk 1, .loop [1, 1, 1, 1, 0, 0], .blk 0, .code [1, 1, 1, 1, 1]], [(0, .sc (.string s)), (3, .ptr 0 0 none), (4, .own 1 1000000), (5, .sc (.int .i64 i)), (7, .sc (.int .i64 n3)), (9, .sl 9 (List.map strA z51) true), (10, .sc (.int .i64 k3))], [.box 56 [.sc (.int .i64 0), .sc (.int .i64 0)], .row 105 (List.map Token.av out) 1000000 true]⟩) := by
 intro m
 induction m with
 | zero => intro n3 k3 H; cases H
 | succ m ih =>
  intro n3 k3 H
  rw [z29_l5] at H
  refine .sg 2 [0,3,4,5,7,9,10] (.rg (.sg 5 [0,3,4,5,7,9,10,107] (.mx 0 [0,3,4,5,7,9,10,110] (.dn (.cd ((decide (k3 < (((List.map strA z51).length : Nat) : Int))) && (n3 == 0)) H (fun hb H => ?_) (fun hb H => ?_))))))
  ·
   refine .sg 4 [0,3,4,5,7,9,10] (.rg (.sg 3 [0,3,4,5,7,9,10,113,114,115] (bndO H fun x5 hv H => (.xi [0,3,4,5,7,9,10,113,116] strA hv (.sg 7 [0,3,4,5,7,9,10,123] (.sp 123 (decide ((IntKind.i64.wrap (i + ((x5.size : Nat) : Int))) ≤ ((s.size : Nat) : Int))) H (fun hb H => ?_) (fun hb H => ?_)))))))
   ·
    refine .sg 5 [0,3,4,5,7,9,10,123,124,125,126,127,128] (bndO H fun x6 hv H => (.xi [0,3,4,5,7,9,10,123,124,125,126,129] strA hv (.sg 3 [0,3,4,5,7,9,10,123,124,125,132] (bndO H fun x7 hv H => (.ss [0,3,4,5,7,9,10,123,133] hv (.sg 2 [0,3,4,5,7,9,10,123,133,134,135] (bndO H fun x8 hv H => (.xi [0,3,4,5,7,9,10,123,133,136] strA hv (.sg 3 [0,3,4,5,7,9,10,139] (.dn (.cd (x7 == x8) H (fun hb H => ?_) (fun hb H => ?_))))))))))))
    ·
     exact .rg (.sg 2 [0,3,4,5,9,10,140,141] (bndO H fun x9 hv H => (.xi [0,3,4,5,9,10,142] strA hv (.sg 3 [0,3,4,5,7,9,10] (.dn (.sg 2 [0,3,4,5,7,9,10] (.kp [0,3,4,5,7,9,10] (.into (.to (ih ((x9.size : Nat) : Int) (IntKind.i64.wrap (k3 + 1)) H))))))))))
    ·
     exact .sg 3 [0,3,4,5,7,9,10] (.kp [0,3,4,5,7,9,10] (.into (.to (ih n3 (IntKind.i64.wrap (k3 + 1)) H))))
   ·
    exact .sg 16 [0,3,4,5,7,9,10,139] (.dn (.sg 4 [0,3,4,5,7,9,10] (.kp [0,3,4,5,7,9,10] (.into (.to (ih n3 (IntKind.i64.wrap (k3 + 1)) H))))))
  ·
   refine .sg 1 [0,3,4,5,7] (.kp [0,3,4,5,7] ?_)
   obtain rfl := Option.some.inj H
   exact .to J
def z29_l0 (q1 : Nat) (q2 : Nat) (q3 : Nat) (q4 : Nat) (q5 : Nat) (s : ByteArray) : Nat → Int → List Token → Option (Sum ((List Token)) ((List Token) × Fault))
 | 0, _, _ => none
 | m + 1, i, out =>
  (bif (decide (i < ((s.size : Nat) : Int))) then
  reqO (decide (0 ≤ i) && decide (i < ((s.size : Nat) : Int))) (
  (bif (((((byteAt s i) == 32) || ((byteAt s i) == 9)) || ((byteAt s i) == 10)) || ((byteAt s i) == 13)) then
   z29_l0 q1 q2 q3 q4 q5 s m (IntKind.i64.wrap (i + 1)) out
  else
   (bif ((byteAt s i) == 35) then
    (z29_l1 s q1 i).bind fun v =>
    z29_l0 q1 q2 q3 q4 q5 s m v out
   else
    (bif ((z47 (byteAt s i)) || (z48 (byteAt s i))) then
     (z29_l2 s i q2 0).bind fun v1 =>
     (subS s (some i) (some (IntKind.i64.wrap (i + v1)))).bind fun x =>
     (z49_raw 20000 x).bind fun x1 =>
     (bif (!x1) then
      (z50_raw 20000 x).bind fun x2 =>
      (bif (!x2) then
       some (.inr ([], ({ E := 15, At := i } : Fault)))
      else
       (z29_l3 s i q3 v1 0).bind fun v2 =>
       (bif (v2 == 0) then
        some (.inr ([], ({ E := 15, At := i } : Fault)))
       else
        (subS s (some i) (some (IntKind.i64.wrap (i + v2)))).bind fun x3 =>
        fitO (out.length + [({ Text := x3, At := i } : Token)].length) 24 (
        z29_l0 q1 q2 q3 q4 q5 s m (IntKind.i64.wrap (i + v2)) (out ++ [({ Text := x3, At := i } : Token)]))))
     else
      (z29_l4 s i q4 v1 0).bind fun v3 =>
      (bif (v3 == 0) then
       some (.inr ([], ({ E := 15, At := i } : Fault)))
      else
       (subS s (some i) (some (IntKind.i64.wrap (i + v3)))).bind fun x4 =>
       fitO (out.length + [({ Text := x4, At := i } : Token)].length) 24 (
       z29_l0 q1 q2 q3 q4 q5 s m (IntKind.i64.wrap (i + v3)) (out ++ [({ Text := x4, At := i } : Token)]))))
    else
     (z29_l5 s i q5 0 0).bind fun v4 =>
     (bif (v4 == 0) then
      some (.inr ([], ({ E := 15, At := i } : Fault)))
     else
      (subS s (some i) (some (IntKind.i64.wrap (i + v4)))).bind fun x5 =>
      fitO (out.length + [({ Text := x5, At := i } : Token)].length) 24 (
      z29_l0 q1 q2 q3 q4 q5 s m (IntKind.i64.wrap (i + v4)) (out ++ [({ Text := x5, At := i } : Token)])))))))
 else
  some (.inl out))
theorem z29_l0_walk (q0 : Nat) (q1 : Nat) (q2 : Nat) (q3 : Nat) (q4 : Nat) (q5 : Nat) (s : ByteArray)  (r : (List Token) × Fault) (c0 : Ctx) (hc0 : c0.m.length = 0) (res : Sum ((List Token)) ((List Token) × Fault)) (J : ∀ w : (List Token), res = .inl w → AX Try.prog tab z29_F c0 (Rp tab.S c0 (.tup [.sl 105 (List.map Token.av r.1) false, Fault.av r.2]) []) (some ⟨[.code [1, 1, 1, 1, 1]], [(3, .ptr 0 0 none), (4, .own 1 1000000)], [.box 56 [.sc (.int .i64 0), .sc (.int .i64 0)], .row 105 (List.map Token.av w) 1000000 true]⟩)) (Jr : ∀ w, res = .inr w → w = r) :
  ∀ (m : Nat) (i : Int) (out : List Token) (H : z29_l0 q1 q2 q3 q4 q5 s m i out = some res), AX Try.prog tab z29_F c0 (Rp tab.S c0 (.tup [.sl 105 (List.map Token.av r.1) false, Fault.av r.2]) []) (some ⟨[.code [1, 1, 1, 1, 0, 0, 0], .loop [1, 1, 1, 1, 0, 0], .blk 0, .code [1, 1, 1, 1, 1]], [(0, .sc (.string s)), (3, .ptr 0 0 none), (4, .own 1 1000000), (5, .sc (.int .i64 i))], [.box 56 [.sc (.int .i64 0), .sc (.int .i64 0)], .row 105 (List.map Token.av out) 1000000 true]⟩) := by
 intro m
 induction m with
 | zero => intro i out H; cases H
 | succ m ih =>
  intro i out H
  rw [z29_l0] at H
  refine .sg 3 [0,3,4,5,18] (.cd (decide (i < ((s.size : Nat) : Int))) H (fun hb H => ?_) (fun hb H => ?_))
  ·
   refine .sg 3 [0,3,4,5] (.rg (.sg 2 [0,3,4,5,19,20] (reqH H fun hreq H => (.xs [0,3,4,5,21] hreq (.sg 1 [0,3,4,5,6] (.dn (.sg 2 [0,3,4,5,6] (.rg (.sg 3 [0,3,4,5,6,24] (.mx 1 [0,3,4,5,6,27] (.sg 1 [0,3,4,5,6,28] (.mx 1 [0,3,4,5,6,31] (.sg 1 [0,3,4,5,6,32] (.mx 1 [0,3,4,5,6,35] (.dn (.cd (((((byteAt s i) == 32) || ((byteAt s i) == 9)) || ((byteAt s i) == 10)) || ((byteAt s i) == 13)) H (fun hb H => ?_) (fun hb H => ?_)))))))))))))))))
   ·
    exact .sg 3 [0,3,4,5] (.kp [0,3,4,5] (.into (.to (ih (IntKind.i64.wrap (i + 1)) out H))))
   ·
    refine .sg 4 [0,3,4,5,6,39] (.cd ((byteAt s i) == 35) H (fun hb H => ?_) (fun hb H => ?_))
    ·
     refine .sg 2 [0,3,4,5] ?_
     refine bndO H fun v hv H => (.into (.to (z29_l1_walk q0 q1 q2 q3 q4 q5 s i out r c0 hc0 v ?_ q1 i hv)))
     exact .sg 1 [0,3,4,5] (.kp [0,3,4,5] (.into (.to (ih v out H))))
    ·
     refine .sg 5 [0,3,4,5,6,7] (.rg (.sg 1 [0,3,4,5,6,7,52] (.cp [0,3,4,5,6,7,53] (z47_calls (byteAt s i)) (.sg 1 [0,3,4,5,6,7,54] (.mm 54 (z47 (byteAt s i)) 3 [.pure, .pure, .pure] [0, 3, 4, 5, 6, 7, 57] 57 (fun z => .sc (.bool (z || (z48 (byteAt s i))))) ?J37 (fun hb J => ?ht37) (fun hb J => ?hf37))))))
     case ht37 =>
      exact .sg 3 [0,3,4,5,6,7,57] (.cl J)
     case hf37 =>
      exact .sg 1 [0,3,4,5,6,7,54,55] (.cp [0,3,4,5,6,7,54,56] (z48_calls (byteAt s i)) (.sg 1 [0,3,4,5,6,7,57] (.cl J)))
     refine .dn (.cd ((z47 (byteAt s i)) || (z48 (byteAt s i))) H (fun hb H => ?_) (fun hb H => ?_))
     ·
      refine .sg 2 [0,3,4,5,6,7] ?_
      refine bndO H fun v1 hv H => (.into (.to (z29_l2_walk q0 q1 q2 q3 q4 q5 s i out r c0 hc0 v1 ?_ q2 0 hv)))
      refine .sg 1 [0,3,4,5,7] (.rg (.sg 5 [0,3,4,5,7,86,87,90] (bndO H fun x hv H => (.ss [0,3,4,5,7,91] hv (.sg 1 [0,3,4,5,7,8] (.dn (.sg 1 [0,3,4,5,7,8] (.rg (.sg 1 [0,3,4,5,7,8,92] (bndO H fun x1 hv H => (.cp [0,3,4,5,7,8,93] ((z49_walk 20000) _ x1 hv) (.sg 2 [0,3,4,5,7,8,95] (.sp 95 (!x1) H (fun hb H => ?_) (fun hb H => ?_))))))))))))))
      ·
       refine .sg 1 [0,3,4,5,7,95,96] (bndO H fun x2 hv H => (.cp [0,3,4,5,7,95,97] ((z50_walk 20000) _ x2 hv) (.sg 2 [0,3,4,5,7,99] (.dn (.cd (!x2) H (fun hb H => ?_) (fun hb H => ?_))))))
       ·
        refine .sg 2 [2,3] ?_
        obtain rfl := Option.some.inj H
        obtain rfl := Jr _ rfl
        exact .ret Try.func29 hc0 [] [(105, false)]
       ·
        refine .sg 2 [0,3,4,5,7] (.rg (.cp [0,3,4,5,7,102] (z51_calls) (.sg 1 [0,3,4,5,7,9] (.dn (.sg 4 [0,3,4,5,7,9,10] ?_)))))
        refine bndO H fun v2 hv H => (.into (.to (z29_l3_walk q0 q1 q2 q3 q4 q5 s i out v1 x x1 x2 r c0 hc0 v2 ?_ q3 v1 0 hv)))
        refine .sg 3 [0,3,4,5,7,146] (.cd (v2 == 0) H (fun hb H => ?_) (fun hb H => ?_))
        ·
         refine .sg 2 [2,3] ?_
         obtain rfl := Option.some.inj H
         obtain rfl := Jr _ rfl
         exact .ret Try.func29 hc0 [] [(105, false)]
        ·
         exact .sg 2 [0,3,4,5,7] (.rg (.sg 6 [0,3,5,7,149,150,151,154] (bndO H fun x3 hv H => (.ss [0,3,5,7,149,155] hv (.sg 3 [0,3,5,7,149,158] (fitH H fun hfit H => (.ap [0,3,5,7,159] Token.av hfit (.sg 1 [0,3,4,5,7] (.dn (.sg 2 [0,3,4,5] (.tl hc0 [0,1] [0,3,4,5] (.into (.to (ih (IntKind.i64.wrap (i + v2)) (out ++ [({ Text := x3, At := i } : Token)]) H))))))))))))))
      ·
       refine .sg 4 [0,3,4,5,7,99] (.dn (.sg 3 [0,3,4,5,7] (.rg (.cp [0,3,4,5,7,102] (z51_calls) (.sg 1 [0,3,4,5,7,9] (.dn (.sg 4 [0,3,4,5,7,9,10] ?_)))))))
       refine bndO H fun v3 hv H => (.into (.to (z29_l4_walk q0 q1 q2 q3 q4 q5 s i out v1 x x1 r c0 hc0 v3 ?_ q4 v1 0 hv)))
       refine .sg 3 [0,3,4,5,7,146] (.cd (v3 == 0) H (fun hb H => ?_) (fun hb H => ?_))
       ·
        refine .sg 2 [2,3] ?_
        obtain rfl := Option.some.inj H
        obtain rfl := Jr _ rfl
        exact .ret Try.func29 hc0 [] [(105, false)]
       ·
        exact .sg 2 [0,3,4,5,7] (.rg (.sg 6 [0,3,5,7,149,150,151,154] (bndO H fun x4 hv H => (.ss [0,3,5,7,149,155] hv (.sg 3 [0,3,5,7,149,158] (fitH H fun hfit H => (.ap [0,3,5,7,159] Token.av hfit (.sg 1 [0,3,4,5,7] (.dn (.sg 2 [0,3,4,5] (.tl hc0 [0,1] [0,3,4,5] (.into (.to (ih (IntKind.i64.wrap (i + v3)) (out ++ [({ Text := x4, At := i } : Token)]) H))))))))))))))
     ·
      refine .sg 2 [0,3,4,5,7] (.rg (.cp [0,3,4,5,7,102] (z51_calls) (.sg 1 [0,3,4,5,7,9] (.dn (.sg 4 [0,3,4,5,7,9,10] ?_)))))
      refine bndO H fun v4 hv H => (.into (.to (z29_l5_walk q0 q1 q2 q3 q4 q5 s i out r c0 hc0 v4 ?_ q5 0 0 hv)))
      refine .sg 3 [0,3,4,5,7,146] (.cd (v4 == 0) H (fun hb H => ?_) (fun hb H => ?_))
      ·
       refine .sg 2 [2,3] ?_
       obtain rfl := Option.some.inj H
       obtain rfl := Jr _ rfl
       exact .ret Try.func29 hc0 [] [(105, false)]
      ·
       exact .sg 2 [0,3,4,5,7] (.rg (.sg 6 [0,3,5,7,149,150,151,154] (bndO H fun x5 hv H => (.ss [0,3,5,7,149,155] hv (.sg 3 [0,3,5,7,149,158] (fitH H fun hfit H => (.ap [0,3,5,7,159] Token.av hfit (.sg 1 [0,3,4,5,7] (.dn (.sg 2 [0,3,4,5] (.tl hc0 [0,1] [0,3,4,5] (.into (.to (ih (IntKind.i64.wrap (i + v4)) (out ++ [({ Text := x5, At := i } : Token)]) H))))))))))))))
  ·
   exact .sg 1 [3,4] (.kp [3,4] (.to (J out (Option.some.inj H).symm)))
def z29_raw (q0 : Nat) (q1 : Nat) (q2 : Nat) (q3 : Nat) (q4 : Nat) (q5 : Nat) (s : ByteArray) : Option ((List Token) × Fault) :=
 (bif (decide (((s.size : Nat) : Int) > 16384)) then
  some ([], ({ E := 13, At := 16384 } : Fault))
 else
  loopO (z29_l0 q1 q2 q3 q4 q5 s q0 0 ([] : List Token)) fun v =>
  some (v, ({ E := 0, At := 0 } : Fault)))
theorem z29_walk (q0 : Nat) (q1 : Nat) (q2 : Nat) (q3 : Nat) (q4 : Nat) (q5 : Nat) (s : ByteArray) (r : (List Token) × Fault) (H : z29_raw q0 q1 q2 q3 q4 q5 s = some r) : ACalls Try.prog tab.S 29 [.sc (.string s)] [] (.tup [.sl 105 (List.map Token.av r.1) false, Fault.av r.2]) [] := by
 refine .of_AX z29_F Try.func29 fun c0 hc0 => ?_
 rw [z29_raw] at H
 refine .sg 5 [0,3,13] (.cd (decide (((s.size : Nat) : Int) > 16384)) H (fun hb H => ?_) (fun hb H => ?_))
 ·
  refine .sg 2 [2,3] ?_
  obtain rfl := Option.some.inj H
  exact .ret Try.func29 hc0 [] [(105, false)]
 ·
  refine .sg 7 [0,3,4,5] ?_
  refine .ad 4 105 true (.kp [0,3,4,5] ?_)
  rcases loopO_some H with ⟨v, hv, H⟩ | hv
  case inr =>
   exact .into (.to (z29_l0_walk q0 q1 q2 q3 q4 q5 s r c0 hc0 (.inr r) (fun _ e => by cases e) (fun _ e => (Sum.inr.inj e).symm) q0 0 ([] : List Token) hv))
  refine .into (.to (z29_l0_walk q0 q1 q2 q3 q4 q5 s r c0 hc0 (.inl v) (fun w e => ?_) (fun _ e => by cases e) q0 0 ([] : List Token) hv))
  have e := Sum.inl.inj e
  subst e
  refine .sg 2 [2,3] ?_
  obtain rfl := Option.some.inj H
  exact .ret Try.func29 hc0
structure Eye where
 L : List Token
 I : Int
 End : Int
 Deep : Int
 F : Fault
 deriving DecidableEq, Inhabited
end Go.Proofs.Yteioljlgcagnnaa
namespace Go.Proofs.Yteioljlgcagnnaa
open Go.Sh
structure Node where
 Kind : Int
 Text : ByteArray
 Num : Int
 Kids : List Node
 At : Int
mutual
def Node.av : Node → AV
 | ⟨r_Kind, r_Text, r_Num, r_Kids, r_At⟩ => .agg [.sc (.int .i64 r_Kind), .sc (.string r_Text), .sc (.int .i64 r_Num), .sl 30 (Node.avs r_Kids) false, .sc (.int .i64 r_At)]
def Node.avs : List Node → List AV
 | [] => []
 | x :: l => Node.av x :: Node.avs l
end
theorem Node.avs_map : ∀ l : List Node, Node.avs l = l.map Node.av
 | [] => by rw [Node.avs]; rfl
 | x :: l => by rw [Node.avs, Node.avs_map l]; rfl
def Node.ch (r : Node) : List AV := [.sc (.int .i64 r.Kind), .sc (.string r.Text), .sc (.int .i64 r.Num), .sl 30 (List.map Node.av r.Kids) false, .sc (.int .i64 r.At)]
def Node.ag (r : Node) : AV := .agg [.sc (.int .i64 r.Kind), .sc (.string r.Text), .sc (.int .i64 r.Num), .sl 30 (List.map Node.av r.Kids) false, .sc (.int .i64 r.At)]
theorem Node.av_eq (r : Node) : Node.av r = Node.ag r := by
 cases r
 rw [Node.av, Node.avs_map]
 rfl
noncomputable def z53_F : Go.Sh.Fn := ⟨53, bodyOf Try.f53, 6⟩
def z53 (s : ByteArray) : Bool :=
 (z36 [(ByteArray.mk #[118, 97, 114]), (ByteArray.mk #[111, 110]), (ByteArray.mk #[105, 102]), (ByteArray.mk #[101, 108, 115, 101]), (ByteArray.mk #[119, 104, 105, 108, 101]), (ByteArray.mk #[97, 98, 111, 114, 116]), (ByteArray.mk #[97, 100, 100]), (ByteArray.mk #[100, 101, 108]), (ByteArray.mk #[109, 111, 100]), (ByteArray.mk #[112, 114, 105, 111]), (ByteArray.mk #[105, 100, 108, 101]), (ByteArray.mk #[104, 97, 114, 100]), (ByteArray.mk #[99, 104, 101, 99, 107]), (ByteArray.mk #[100, 111]), (ByteArray.mk #[100, 114, 111, 112]), (ByteArray.mk #[111, 117, 116]), (ByteArray.mk #[115, 101, 116]), (ByteArray.mk #[116, 101, 108, 108])] s)
theorem z53_calls (s : ByteArray) : ACalls Try.prog tab.S 53 [.sc (.string s)] [] (.sc (.bool (z53 s))) [] := by
 generalize H : z53 s = r
 refine .of_AX z53_F Try.func53 fun c0 hc0 => ?_
 rw [z53] at H
 refine .sg 3 [0] (.rg (.sg 2 [3,4] (.cp [5] (z36_calls [(ByteArray.mk #[118, 97, 114]), (ByteArray.mk #[111, 110]), (ByteArray.mk #[105, 102]), (ByteArray.mk #[101, 108, 115, 101]), (ByteArray.mk #[119, 104, 105, 108, 101]), (ByteArray.mk #[97, 98, 111, 114, 116]), (ByteArray.mk #[97, 100, 100]), (ByteArray.mk #[100, 101, 108]), (ByteArray.mk #[109, 111, 100]), (ByteArray.mk #[112, 114, 105, 111]), (ByteArray.mk #[105, 100, 108, 101]), (ByteArray.mk #[104, 97, 114, 100]), (ByteArray.mk #[99, 104, 101, 99, 107]), (ByteArray.mk #[100, 111]), (ByteArray.mk #[100, 114, 111, 112]), (ByteArray.mk #[111, 117, 116]), (ByteArray.mk #[115, 101, 116]), (ByteArray.mk #[116, 101, 108, 108])] s true) (.sg 1 [2] (.dn ?_)))))
 subst H
 exact .ret Try.func53 hc0
noncomputable def z30_F : Go.Sh.Fn := ⟨30, bodyOf Try.f30, 28⟩
def z30_raw (x : Eye) : Option (Int × Eye) :=
 (bif (decide (x.I < (((List.map Token.av x.L).length : Nat) : Int))) then
  (ixO x.L x.I).bind fun x1 =>
  some (x1.At, x)
 else
  some (x.End, x))
theorem z30_walk (x : Eye) (r : Int × Eye) (H : z30_raw x = some r) : ACalls Try.prog tab.S 30 [.ptr 0 0 none] [.box 85 [.sl 105 (List.map Token.av x.L) false, .sc (.int .i64 x.I), .sc (.int .i64 x.End), .sc (.int .i64 x.Deep), .sc (.int .i64 x.F.E), .sc (.int .i64 x.F.At)]] (.sc (.int .i64 r.1)) [.box 85 [.sl 105 (List.map Token.av r.2.L) false, .sc (.int .i64 r.2.I), .sc (.int .i64 r.2.End), .sc (.int .i64 r.2.Deep), .sc (.int .i64 r.2.F.E), .sc (.int .i64 r.2.F.At)]] := by
 refine .of_AX z30_F Try.func30 fun c0 hc0 => ?_
 rw [z30_raw] at H
 refine .sg 5 [0,12] (.cd (decide (x.I < (((List.map Token.av x.L).length : Nat) : Int))) H (fun hb H => ?_) (fun hb H => ?_))
 ·
  refine .sg 1 [0] (.rg (.sg 8 [16,20] (bndO H fun x1 hv H => (.xi [21] Token.av hv (.sg 3 [2] (.dn ?_))))))
  obtain rfl := Option.some.inj H
  exact .ret Try.func30 hc0 [0]
 ·
  refine .sg 3 [2] ?_
  obtain rfl := Option.some.inj H
  exact .ret Try.func30 hc0 [0]
noncomputable def z54_F : Go.Sh.Fn := ⟨54, bodyOf Try.f54, 17⟩
def z54_raw (x : Eye) (e1 : Int) : Option (Eye) :=
 (bif (x.F.E == 0) then
  (z30_raw x).bind fun v =>
  some ({ v.2 with F := ({ E := e1, At := v.1 } : Fault) } : Eye)
 else
  some x)
theorem z54_walk (x : Eye) (e1 : Int) (r : Eye) (H : z54_raw x e1 = some r) : ACalls Try.prog tab.S 54 [.ptr 0 0 none, .sc (.int .i64 e1)] [.box 85 [.sl 105 (List.map Token.av x.L) false, .sc (.int .i64 x.I), .sc (.int .i64 x.End), .sc (.int .i64 x.Deep), .sc (.int .i64 x.F.E), .sc (.int .i64 x.F.At)]] (.tup []) [.box 85 [.sl 105 (List.map Token.av r.L) false, .sc (.int .i64 r.I), .sc (.int .i64 r.End), .sc (.int .i64 r.Deep), .sc (.int .i64 r.F.E), .sc (.int .i64 r.F.At)]] := by
 refine .of_AX z54_F Try.func54 fun c0 hc0 => ?_
 rw [z54_raw] at H
 refine .sg 2 [0,1,9] (.cd (x.F.E == 0) H (fun hb H => ?_) (fun hb H => ?_))
 ·
  refine .rg (.sg 3 [10,11,12] (bndO H fun v hv H => (.ch [10,11,13] [0] (z30_walk _ v hv) (.sg 4 [] (.dn ?_)))))
  obtain rfl := Option.some.inj H
  exact .ret Try.func54 hc0 [0]
 ·
  refine .sg 1 [] ?_
  obtain rfl := Option.some.inj H
  exact .ret Try.func54 hc0 [0]
noncomputable def z52_F : Go.Sh.Fn := ⟨52, bodyOf Try.f52, 32⟩
def z52_raw (x : Eye) : Option (ByteArray × Eye) :=
 (bif ((x.F.E == 0) && (decide (x.I < (((List.map Token.av x.L).length : Nat) : Int)))) then
  (ixO x.L x.I).bind fun x1 =>
  some (x1.Text, x)
 else
  some ((ByteArray.mk #[]), x))
theorem z52_walk (x : Eye) (r : ByteArray × Eye) (H : z52_raw x = some r) : ACalls Try.prog tab.S 52 [.ptr 0 0 none] [.box 85 [.sl 105 (List.map Token.av x.L) false, .sc (.int .i64 x.I), .sc (.int .i64 x.End), .sc (.int .i64 x.Deep), .sc (.int .i64 x.F.E), .sc (.int .i64 x.F.At)]] (.sc (.string r.1)) [.box 85 [.sl 105 (List.map Token.av r.2.L) false, .sc (.int .i64 r.2.I), .sc (.int .i64 r.2.End), .sc (.int .i64 r.2.Deep), .sc (.int .i64 r.2.F.E), .sc (.int .i64 r.2.F.At)]] := by
 refine .of_AX z52_F Try.func52 fun c0 hc0 => ?_
 rw [z52_raw] at H
 refine .sg 4 [0] (.rg (.sg 7 [0,9] (.mx 0 [0,20] (.dn (.cd ((x.F.E == 0) && (decide (x.I < (((List.map Token.av x.L).length : Nat) : Int)))) H (fun hb H => ?_) (fun hb H => ?_))))))
 ·
  refine .sg 1 [0] (.rg (.sg 8 [24,28] (bndO H fun x1 hv H => (.xi [29] Token.av hv (.sg 3 [2] (.dn ?_))))))
  obtain rfl := Option.some.inj H
  exact .ret Try.func52 hc0 [0]
 ·
  refine .sg 3 [2] ?_
  obtain rfl := Option.some.inj H
  exact .ret Try.func52 hc0 [0]
noncomputable def z31_F : Go.Sh.Fn := ⟨31, bodyOf Try.f31, 20⟩
def z31_raw (x : Eye) (s : ByteArray) : Option (Bool × Eye) :=
 (z52_raw x).bind fun v =>
 (bif ((v.1 == s) && (s != (ByteArray.mk #[]))) then
  some (true, ({ v.2 with I := (IntKind.i64.wrap (v.2.I + 1)) } : Eye))
 else
  some (false, v.2))
theorem z31_walk (x : Eye) (s : ByteArray) (r : Bool × Eye) (H : z31_raw x s = some r) : ACalls Try.prog tab.S 31 [.ptr 0 0 none, .sc (.string s)] [.box 85 [.sl 105 (List.map Token.av x.L) false, .sc (.int .i64 x.I), .sc (.int .i64 x.End), .sc (.int .i64 x.Deep), .sc (.int .i64 x.F.E), .sc (.int .i64 x.F.At)]] (.sc (.bool r.1)) [.box 85 [.sl 105 (List.map Token.av r.2.L) false, .sc (.int .i64 r.2.I), .sc (.int .i64 r.2.End), .sc (.int .i64 r.2.Deep), .sc (.int .i64 r.2.F.E), .sc (.int .i64 r.2.F.At)]] := by
 refine .of_AX z31_F Try.func31 fun c0 hc0 => ?_
 rw [z31_raw] at H
 refine .sg 4 [0,1] (.rg (.sg 1 [0,1,5] (bndO H fun v hv H => (.ch [0,1,6] [0] (z52_walk _ v hv) (.sg 3 [0,1,9] (.mx 0 [0,12] (.dn (.cd ((v.1 == s) && (s != (ByteArray.mk #[]))) H (fun hb H => ?_) (fun hb H => ?_)))))))))
 ·
  refine .sg 4 [4] ?_
  obtain rfl := Option.some.inj H
  exact .ret Try.func31 hc0 [0]
 ·
  refine .sg 3 [4] ?_
  obtain rfl := Option.some.inj H
  exact .ret Try.func31 hc0 [0]
noncomputable def z33_F : Go.Sh.Fn := ⟨33, bodyOf Try.f33, 10⟩
def z33_raw (x : Eye) (s : ByteArray) : Option (Eye) :=
 (z31_raw x s).bind fun v =>
 (bif (!v.1) then
  (z54_raw v.2 15).bind fun v1 =>
  some v1
 else
  some v.2)
theorem z33_walk (x : Eye) (s : ByteArray) (r : Eye) (H : z33_raw x s = some r) : ACalls Try.prog tab.S 33 [.ptr 0 0 none, .sc (.string s)] [.box 85 [.sl 105 (List.map Token.av x.L) false, .sc (.int .i64 x.I), .sc (.int .i64 x.End), .sc (.int .i64 x.Deep), .sc (.int .i64 x.F.E), .sc (.int .i64 x.F.At)]] (.tup []) [.box 85 [.sl 105 (List.map Token.av r.L) false, .sc (.int .i64 r.I), .sc (.int .i64 r.End), .sc (.int .i64 r.Deep), .sc (.int .i64 r.F.E), .sc (.int .i64 r.F.At)]] := by
 refine .of_AX z33_F Try.func33 fun c0 hc0 => ?_
 rw [z33_raw] at H
 refine .sg 1 [0,1] (.rg (.sg 2 [0,4,5] (bndO H fun v hv H => (.ch [0,6] [0] (z31_walk _ _ v hv) (.sg 1 [0,7] (.dn (.cd (!v.1) H (fun hb H => ?_) (fun hb H => ?_))))))))
 ·
  refine .rg (.sg 1 [8] (bndO H fun v1 hv H => (.ch [] [0] (z54_walk _ _ v1 hv) (.dn ?_))))
  obtain rfl := Option.some.inj H
  exact .ret Try.func33 hc0 [0]
 ·
  refine .sg 1 [] ?_
  obtain rfl := Option.some.inj H
  exact .ret Try.func33 hc0 [0]
noncomputable def z32_F : Go.Sh.Fn := ⟨32, bodyOf Try.f32, 23⟩
def z32_raw (x : Eye) : Option (ByteArray × Eye) :=
 (z52_raw x).bind fun v =>
 (z49_raw 20000 v.1).bind fun x1 =>
 (bif ((!x1) || (z53 v.1)) then
  (z54_raw v.2 15).bind fun v1 =>
  some ((ByteArray.mk #[]), v1)
 else
  some (v.1, ({ v.2 with I := (IntKind.i64.wrap (v.2.I + 1)) } : Eye)))
theorem z32_walk (x : Eye) (r : ByteArray × Eye) (H : z32_raw x = some r) : ACalls Try.prog tab.S 32 [.ptr 0 0 none] [.box 85 [.sl 105 (List.map Token.av x.L) false, .sc (.int .i64 x.I), .sc (.int .i64 x.End), .sc (.int .i64 x.Deep), .sc (.int .i64 x.F.E), .sc (.int .i64 x.F.At)]] (.sc (.string r.1)) [.box 85 [.sl 105 (List.map Token.av r.2.L) false, .sc (.int .i64 r.2.I), .sc (.int .i64 r.2.End), .sc (.int .i64 r.2.Deep), .sc (.int .i64 r.2.F.E), .sc (.int .i64 r.2.F.At)]] := by
 refine .of_AX z32_F Try.func32 fun c0 hc0 => ?_
 rw [z32_raw] at H
 refine .sg 3 [0] (.rg (.sg 1 [0,4] (bndO H fun v hv H => (.ch [0,5] [0] (z52_walk _ v hv) (.sg 1 [0,3] (.dn (.sg 2 [0,3] (.rg (.sg 1 [0,3,6] (bndO H fun x1 hv H => (.cp [0,3,7] ((z49_walk 20000) _ x1 hv) (.sg 2 [0,3,9] (.mm 9 (!x1) 3 [.pure, .pure, .pure] [0, 3, 12] 12 (fun z => .sc (.bool (z || (z53 v.1)))) ?J1 (fun hb J => ?ht1) (fun hb J => ?hf1))))))))))))))
 case ht1 =>
  exact .sg 3 [0,3,12] (.cl J)
 case hf1 =>
  exact .sg 1 [0,3,9,10] (.cp [0,3,9,11] (z53_calls v.1) (.sg 1 [0,3,12] (.cl J)))
 refine .dn (.cd ((!x1) || (z53 v.1)) H (fun hb H => ?_) (fun hb H => ?_))
 ·
  refine .sg 1 [0] (.rg (.sg 1 [13] (bndO H fun v1 hv H => (.ch [] [0] (z54_walk _ _ v1 hv) (.dn (.sg 2 [2] ?_))))))
  obtain rfl := Option.some.inj H
  exact .ret Try.func32 hc0 [0]
 ·
  refine .sg 5 [2] ?_
  obtain rfl := Option.some.inj H
  exact .ret Try.func32 hc0 [0]
noncomputable def z34_F : Go.Sh.Fn := ⟨34, bodyOf Try.f34, 20⟩
def z34_raw (x : Eye) : Option (Int × Eye) :=
 (z52_raw x).bind fun v =>
 (z50_raw 20000 v.1).bind fun x1 =>
 (bif (!x1) then
  (z54_raw v.2 15).bind fun v1 =>
  some (0, v1)
 else
  (z55_raw 20000 v.1).bind fun x2 =>
  some (x2, ({ v.2 with I := (IntKind.i64.wrap (v.2.I + 1)) } : Eye)))
theorem z34_walk (x : Eye) (r : Int × Eye) (H : z34_raw x = some r) : ACalls Try.prog tab.S 34 [.ptr 0 0 none] [.box 85 [.sl 105 (List.map Token.av x.L) false, .sc (.int .i64 x.I), .sc (.int .i64 x.End), .sc (.int .i64 x.Deep), .sc (.int .i64 x.F.E), .sc (.int .i64 x.F.At)]] (.sc (.int .i64 r.1)) [.box 85 [.sl 105 (List.map Token.av r.2.L) false, .sc (.int .i64 r.2.I), .sc (.int .i64 r.2.End), .sc (.int .i64 r.2.Deep), .sc (.int .i64 r.2.F.E), .sc (.int .i64 r.2.F.At)]] := by
 refine .of_AX z34_F Try.func34 fun c0 hc0 => ?_
 rw [z34_raw] at H
 refine .sg 3 [0] (.rg (.sg 1 [0,4] (bndO H fun v hv H => (.ch [0,5] [0] (z52_walk _ v hv) (.sg 1 [0,3] (.dn (.sg 2 [0,3] (.rg (.sg 1 [0,3,6] (bndO H fun x1 hv H => (.cp [0,3,7] ((z50_walk 20000) _ x1 hv) (.sg 1 [0,3,8] (.dn (.cd (!x1) H (fun hb H => ?_) (fun hb H => ?_)))))))))))))))
 ·
  refine .sg 1 [0] (.rg (.sg 1 [9] (bndO H fun v1 hv H => (.ch [] [0] (z54_walk _ _ v1 hv) (.dn (.sg 2 [2] ?_))))))
  obtain rfl := Option.some.inj H
  exact .ret Try.func34 hc0 [0]
 ·
  refine .sg 4 [3] (.rg (.sg 1 [18] (bndO H fun x2 hv H => (.cp [19] ((z55_walk 20000) _ x2 hv) (.sg 1 [2] (.dn ?_))))))
  obtain rfl := Option.some.inj H
  exact .ret Try.func34 hc0 [0]
noncomputable def z71_F : Go.Sh.Fn := ⟨71, bodyOf Try.f71, 17⟩
def z71_raw (x : Eye) : Option (Bool × Eye) :=
 (bif (decide (x.Deep ≥ 40)) then
  (z54_raw x 13).bind fun v =>
  some (false, v)
 else
  some (true, ({ x with Deep := (IntKind.i64.wrap (x.Deep + 1)) } : Eye)))
theorem z71_walk (x : Eye) (r : Bool × Eye) (H : z71_raw x = some r) : ACalls Try.prog tab.S 71 [.ptr 0 0 none] [.box 85 [.sl 105 (List.map Token.av x.L) false, .sc (.int .i64 x.I), .sc (.int .i64 x.End), .sc (.int .i64 x.Deep), .sc (.int .i64 x.F.E), .sc (.int .i64 x.F.At)]] (.sc (.bool r.1)) [.box 85 [.sl 105 (List.map Token.av r.2.L) false, .sc (.int .i64 r.2.I), .sc (.int .i64 r.2.End), .sc (.int .i64 r.2.Deep), .sc (.int .i64 r.2.F.E), .sc (.int .i64 r.2.F.At)]] := by
 refine .of_AX z71_F Try.func71 fun c0 hc0 => ?_
 rw [z71_raw] at H
 refine .sg 5 [0,7] (.cd (decide (x.Deep ≥ 40)) H (fun hb H => ?_) (fun hb H => ?_))
 ·
  refine .sg 1 [0] (.rg (.sg 1 [8] (bndO H fun v hv H => (.ch [] [0] (z54_walk _ _ v hv) (.dn (.sg 2 [2] ?_))))))
  obtain rfl := Option.some.inj H
  exact .ret Try.func71 hc0 [0]
 ·
  refine .sg 5 [2] ?_
  obtain rfl := Option.some.inj H
  exact .ret Try.func71 hc0 [0]
end Go.Proofs.Yteioljlgcagnnaa