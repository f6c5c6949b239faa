import Derived.Test.YthfidfjogecnpaaProg
import Derived.Test.YthfidfjogecnpaaM3CodeTurned
set_option linter.unusedVariables false
set_option linter.unusedSimpArgs false
set_option maxRecDepth 100000
set_option maxHeartbeats 4000000
namespace Go.Proofs.Ythfidfjogecnpaa
open Go.Sh
def tab : Go.Sh.Tab := [
  (1, ⟨.other, 1, 8, [.sc .nilFunc]⟩),
  (2, ⟨.int .i64, 1, 8, [.sc (.int .i64 0)]⟩),
  (3, ⟨.int .i64, 1, 8, [.sc (.int .i64 0)]⟩),
  (4, ⟨.bool, 1, 1, [.sc (.bool false)]⟩),
  (5, ⟨.int .u8, 1, 1, [.sc (.int .u8 0)]⟩),
  (9, ⟨.str, 1, 16, [.sc (.string ⟨#[]⟩)]⟩),
  (12, ⟨.int .u64, 1, 8, [.sc (.int .u64 0)]⟩),
  (13, ⟨.struct [(0, 9), (1, 12)], 2, 24, [.sc (.string ⟨#[]⟩), .sc (.int .u64 0)]⟩),
  (21, ⟨.int .i32, 1, 4, [.sc (.int .i32 0)]⟩),
  (22, ⟨.slice 5, 1, 24, [.sl 0 [] true]⟩),
  (23, ⟨.other, 1, 8, [.sc .nilFunc]⟩),
  (24, ⟨.int .i64, 1, 8, [.sc (.int .i64 0)]⟩),
  (25, ⟨.int .u64, 1, 8, [.sc (.int .u64 0)]⟩),
  (26, ⟨.arr 12 25, 12, 96, [.arr .u64 12 [0, 0, 0, 0, 0, 0, 0, 0, 0, 0, 0, 0]]⟩),
  (27, ⟨.arr 12 25, 12, 96, [.arr .u64 12 [0, 0, 0, 0, 0, 0, 0, 0, 0, 0, 0, 0]]⟩),
  (28, ⟨.struct [(0, 27), (12, 27)], 24, 192, [.arr .u64 12 [0, 0, 0, 0, 0, 0, 0, 0, 0, 0, 0, 0], .arr .u64 12 [0, 0, 0, 0, 0, 0, 0, 0, 0, 0, 0, 0]]⟩),
  (29, ⟨.struct [(0, 27), (12, 27)], 24, 192, [.arr .u64 12 [0, 0, 0, 0, 0, 0, 0, 0, 0, 0, 0, 0], .arr .u64 12 [0, 0, 0, 0, 0, 0, 0, 0, 0, 0, 0, 0]]⟩),
  (30, ⟨.slice 87, 1, 24, [.sl 0 [] true]⟩),
  (31, ⟨.struct [(0, 3), (1, 29), (25, 3), (26, 30), (27, 3), (28, 3), (29, 3), (30, 4)], 31, 264, [.sc (.int .i64 0), .arr .u64 12 [0, 0, 0, 0, 0, 0, 0, 0, 0, 0, 0, 0], .arr .u64 12 [0, 0, 0, 0, 0, 0, 0, 0, 0, 0, 0, 0], .sc (.int .i64 0), .sl 0 [] true, .sc (.int .i64 0), .sc (.int .i64 0), .sc (.int .i64 0), .sc (.bool false)]⟩),
  (32, ⟨.struct [(0, 3), (1, 29), (25, 3), (26, 30), (27, 3), (28, 3), (29, 3), (30, 4)], 31, 264, [.sc (.int .i64 0), .arr .u64 12 [0, 0, 0, 0, 0, 0, 0, 0, 0, 0, 0, 0], .arr .u64 12 [0, 0, 0, 0, 0, 0, 0, 0, 0, 0, 0, 0], .sc (.int .i64 0), .sl 0 [] true, .sc (.int .i64 0), .sc (.int .i64 0), .sc (.int .i64 0), .sc (.bool false)]⟩),
  (33, ⟨.slice 68, 1, 24, [.sl 0 [] true]⟩),
  (34, ⟨.struct [(0, 3), (1, 3), (2, 24), (3, 32), (34, 3), (35, 27), (47, 33)], 48, 416, [.sc (.int .i64 0), .sc (.int .i64 0), .sc (.int .i64 0), .sc (.int .i64 0), .arr .u64 12 [0, 0, 0, 0, 0, 0, 0, 0, 0, 0, 0, 0], .arr .u64 12 [0, 0, 0, 0, 0, 0, 0, 0, 0, 0, 0, 0], .sc (.int .i64 0), .sl 0 [] true, .sc (.int .i64 0), .sc (.int .i64 0), .sc (.int .i64 0), .sc (.bool false), .sc (.int .i64 0), .arr .u64 12 [0, 0, 0, 0, 0, 0, 0, 0, 0, 0, 0, 0], .sl 0 [] true]⟩),
  (35, ⟨.struct [(0, 3), (1, 3), (2, 24), (3, 32), (34, 3), (35, 27), (47, 33)], 48, 416, [.sc (.int .i64 0), .sc (.int .i64 0), .sc (.int .i64 0), .sc (.int .i64 0), .arr .u64 12 [0, 0, 0, 0, 0, 0, 0, 0, 0, 0, 0, 0], .arr .u64 12 [0, 0, 0, 0, 0, 0, 0, 0, 0, 0, 0, 0], .sc (.int .i64 0), .sl 0 [] true, .sc (.int .i64 0), .sc (.int .i64 0), .sc (.int .i64 0), .sc (.bool false), .sc (.int .i64 0), .arr .u64 12 [0, 0, 0, 0, 0, 0, 0, 0, 0, 0, 0, 0], .sl 0 [] true]⟩),
  (37, ⟨.other, 1, 8, [.sc .nilFunc]⟩),
  (38, ⟨.other, 1, 8, [.sc .nilFunc]⟩),
  (39, ⟨.slice 35, 1, 24, [.sl 0 [] true]⟩),
  (41, ⟨.other, 1, 8, [.sc .nilFunc]⟩),
  (42, ⟨.other, 1, 8, [.sc .nilFunc]⟩),
  (43, ⟨.other, 1, 8, [.sc .nilFunc]⟩),
  (44, ⟨.int .u16, 1, 2, [.sc (.int .u16 0)]⟩),
  (45, ⟨.other, 1, 8, [.sc .nilFunc]⟩),
  (46, ⟨.other, 1, 8, [.sc .nilFunc]⟩),
  (47, ⟨.other, 1, 8, [.sc .nilFunc]⟩),
  (48, ⟨.int .u32, 1, 4, [.sc (.int .u32 0)]⟩),
  (49, ⟨.slice 3, 1, 24, [.sl 0 [] true]⟩),
  (50, ⟨.int .u64, 1, 8, [.sc (.int .u64 0)]⟩),
  (51, ⟨.other, 1, 8, [.sc .nilFunc]⟩),
  (52, ⟨.other, 1, 8, [.sc .nilFunc]⟩),
  (53, ⟨.other, 1, 8, [.sc .nilFunc]⟩),
  (54, ⟨.ptr 56, 1, 8, [.sc (.pointer none)]⟩),
  (55, ⟨.struct [(0, 22), (1, 4)], 2, 32, [.sl 0 [] true, .sc (.bool false)]⟩),
  (56, ⟨.struct [(0, 22), (1, 4)], 2, 32, [.sl 0 [] true, .sc (.bool false)]⟩),
  (57, ⟨.other, 1, 8, [.sc .nilFunc]⟩),
  (59, ⟨.other, 1, 8, [.sc .nilFunc]⟩),
  (60, ⟨.other, 1, 8, [.sc .nilFunc]⟩),
  (61, ⟨.other, 1, 8, [.sc .nilFunc]⟩),
  (62, ⟨.ptr 64, 1, 8, [.sc (.pointer none)]⟩),
  (63, ⟨.struct [(0, 22), (1, 3), (2, 4)], 3, 40, [.sl 0 [] true, .sc (.int .i64 0), .sc (.bool false)]⟩),
  (64, ⟨.struct [(0, 22), (1, 3), (2, 4)], 3, 40, [.sl 0 [] true, .sc (.int .i64 0), .sc (.bool false)]⟩),
  (65, ⟨.other, 1, 8, [.sc .nilFunc]⟩),
  (66, ⟨.other, 1, 8, [.sc .nilFunc]⟩),
  (67, ⟨.struct [(0, 29), (24, 3), (25, 30), (26, 3), (27, 3), (28, 3), (29, 3), (30, 3), (31, 3)], 32, 272, [.arr .u64 12 [0, 0, 0, 0, 0, 0, 0, 0, 0, 0, 0, 0], .arr .u64 12 [0, 0, 0, 0, 0, 0, 0, 0, 0, 0, 0, 0], .sc (.int .i64 0), .sl 0 [] true, .sc (.int .i64 0), .sc (.int .i64 0), .sc (.int .i64 0), .sc (.int .i64 0), .sc (.int .i64 0), .sc (.int .i64 0)]⟩),
  (68, ⟨.struct [(0, 29), (24, 3), (25, 30), (26, 3), (27, 3), (28, 3), (29, 3), (30, 3), (31, 3)], 32, 272, [.arr .u64 12 [0, 0, 0, 0, 0, 0, 0, 0, 0, 0, 0, 0], .arr .u64 12 [0, 0, 0, 0, 0, 0, 0, 0, 0, 0, 0, 0], .sc (.int .i64 0), .sl 0 [] true, .sc (.int .i64 0), .sc (.int .i64 0), .sc (.int .i64 0), .sc (.int .i64 0), .sc (.int .i64 0), .sc (.int .i64 0)]⟩),
  (69, ⟨.other, 1, 8, [.sc .nilFunc]⟩),
  (70, ⟨.other, 1, 8, [.sc .nilFunc]⟩),
  (71, ⟨.ptr 73, 1, 8, [.sc (.pointer none)]⟩),
  (72, ⟨.struct [(0, 22)], 1, 24, [.sl 0 [] true]⟩),
  (73, ⟨.struct [(0, 22)], 1, 24, [.sl 0 [] true]⟩),
  (74, ⟨.other, 1, 8, [.sc .nilFunc]⟩),
  (75, ⟨.other, 1, 8, [.sc .nilFunc]⟩),
  (76, ⟨.other, 1, 8, [.sc .nilFunc]⟩),
  (77, ⟨.other, 1, 8, [.sc .nilFunc]⟩),
  (78, ⟨.other, 1, 8, [.sc .nilFunc]⟩),
  (79, ⟨.other, 1, 8, [.sc .nilFunc]⟩),
  (80, ⟨.other, 1, 8, [.sc .nilFunc]⟩),
  (81, ⟨.other, 1, 8, [.sc .nilFunc]⟩),
  (82, ⟨.other, 1, 8, [.sc .nilFunc]⟩),
  (83, ⟨.other, 1, 8, [.sc .nilFunc]⟩),
  (84, ⟨.other, 1, 8, [.sc .nilFunc]⟩),
  (85, ⟨.other, 1, 8, [.sc .nilFunc]⟩),
  (86, ⟨.struct [(0, 3), (1, 3), (2, 3), (3, 25)], 4, 32, [.sc (.int .i64 0), .sc (.int .i64 0), .sc (.int .i64 0), .sc (.int .u64 0)]⟩),
  (87, ⟨.struct [(0, 3), (1, 3), (2, 3), (3, 25)], 4, 32, [.sc (.int .i64 0), .sc (.int .i64 0), .sc (.int .i64 0), .sc (.int .u64 0)]⟩),
  (88, ⟨.other, 1, 8, [.sc .nilFunc]⟩),
  (89, ⟨.other, 1, 8, [.sc .nilFunc]⟩),
  (90, ⟨.other, 1, 8, [.sc .nilFunc]⟩),
  (91, ⟨.other, 1, 8, [.sc .nilFunc]⟩),
  (92, ⟨.arr 3 3, 3, 24, [.arr .i64 3 [0, 0, 0]]⟩),
  (93, ⟨.other, 1, 8, [.sc .nilFunc]⟩),
  (94, ⟨.other, 1, 8, [.sc .nilFunc]⟩),
  (95, ⟨.other, 1, 8, [.sc .nilFunc]⟩),
  (96, ⟨.other, 1, 8, [.sc .nilFunc]⟩),
  (97, ⟨.other, 1, 8, [.sc .nilFunc]⟩),
  (99, ⟨.other, 1, 8, [.sc .nilFunc]⟩),
  (100, ⟨.other, 1, 8, [.sc .nilFunc]⟩),
  (101, ⟨.other, 1, 8, [.sc .nilFunc]⟩),
  (102, ⟨.slice 4, 1, 24, [.sl 0 [] true]⟩),
  (103, ⟨.other, 1, 8, [.sc .nilFunc]⟩),
  (104, ⟨.other, 1, 8, [.sc .nilFunc]⟩),
  (105, ⟨.other, 1, 8, [.sc .nilFunc]⟩),
  (106, ⟨.other, 1, 8, [.sc .nilFunc]⟩),
  (107, ⟨.other, 1, 8, [.sc .nilFunc]⟩),
  (108, ⟨.other, 1, 8, [.sc .nilFunc]⟩),
  (110, ⟨.other, 1, 8, [.sc .nilFunc]⟩),
  (111, ⟨.other, 1, 8, [.sc .nilFunc]⟩),
  (112, ⟨.struct [(0, 9), (1, 3)], 2, 24, [.sc (.string ⟨#[]⟩), .sc (.int .i64 0)]⟩),
  (113, ⟨.struct [(0, 9), (1, 3)], 2, 24, [.sc (.string ⟨#[]⟩), .sc (.int .i64 0)]⟩),
  (114, ⟨.arr 12 113, 24, 288, [.sc (.string ⟨#[]⟩), .sc (.int .i64 0), .sc (.string ⟨#[]⟩), .sc (.int .i64 0), .sc (.string ⟨#[]⟩), .sc (.int .i64 0), .sc (.string ⟨#[]⟩), .sc (.int .i64 0), .sc (.string ⟨#[]⟩), .sc (.int .i64 0), .sc (.string ⟨#[]⟩), .sc (.int .i64 0), .sc (.string ⟨#[]⟩), .sc (.int .i64 0), .sc (.string ⟨#[]⟩), .sc (.int .i64 0), .sc (.string ⟨#[]⟩), .sc (.int .i64 0), .sc (.string ⟨#[]⟩), .sc (.int .i64 0), .sc (.string ⟨#[]⟩), .sc (.int .i64 0), .sc (.string ⟨#[]⟩), .sc (.int .i64 0)]⟩),
  (115, ⟨.other, 1, 8, [.sc .nilFunc]⟩),
  (116, ⟨.other, 1, 8, [.sc .nilFunc]⟩),
  (117, ⟨.other, 1, 8, [.sc .nilFunc]⟩),
  (118, ⟨.slice 25, 1, 24, [.sl 0 [] true]⟩),
  (119, ⟨.other, 1, 8, [.sc .nilFunc]⟩),
  (120, ⟨.other, 1, 8, [.sc .nilFunc]⟩),
  (121, ⟨.other, 1, 8, [.sc .nilFunc]⟩),
  (127, ⟨.other, 1, 8, [.sc .nilFunc]⟩),
  (130, ⟨.other, 1, 8, [.sc .nilFunc]⟩),
  (131, ⟨.ptr 5, 1, 8, [.sc (.pointer none)]⟩)]

theorem tab_ok : tab.ok Try.prog := Tab.ok_of (by kernel_rfl)
theorem mixed : Try.prog.follows .mixedOrders = true := by kernel_rfl
end Go.Proofs.Ythfidfjogecnpaa

set_option linter.unusedVariables false
set_option linter.unusedSimpArgs false
set_option maxRecDepth 100000
set_option maxHeartbeats 4000000
namespace Go.Proofs.Ythfidfjogecnpaa
open Go.Sh
instance : Ok Try.prog tab := ⟨tab_ok, mixed⟩
theorem wrap_eq {n : Int} (h1 : -9223372036854775808 ≤ n) (h2 : n ≤ 9223372036854775807) : IntKind.i64.wrap n = n := by
  rw [IntKind.wrap_i64]; omega
theorem wrap_succ {i : Nat} (h : i < 9223372036854775807) : IntKind.i64.wrap ((i : Int) + 1) = ((i + 1 : Nat) : Int) := by
  rw [wrap_eq (by omega) (by omega)]; rfl
theorem ixO_lt {α : Type} {xs : List α} {i : Nat} (h : i < xs.length) : ixO xs (i : Int) = some xs[i] := by
  unfold ixO
  rw [if_pos (by omega), Int.toNat_natCast, List.getElem?_eq_getElem h]
theorem fitO_eq {α : Type} {n b : Nat} {r : Option α} (h : n * b ≤ 140737488355328) : fitO n b r = r := by
  unfold fitO; rw [if_pos h]
theorem reqO_eq {α : Type} {b : Bool} {r : Option α} (h : b = true) : reqO b r = r := by
  subst h; rfl
theorem zero_nat : (0 : Int) = ((0 : Nat) : Int) := rfl
def idxF {α : Type} (f : α → Bool) (l : List α) : Int := match l.findIdx? f with | some i => (i : Int) | none => -1
theorem idxF_any {α : Type} (f : α → Bool) (l : List α) : decide (idxF f l ≥ 0) = l.any f := by
  unfold idxF
  cases h : l.findIdx? f with
  | none =>
    have : l.any f = false := by
      rw [Bool.eq_false_iff]
      intro ha
      obtain ⟨x, hx, hf⟩ := List.any_eq_true.1 ha
      have := List.findIdx?_eq_none_iff.1 h x hx
      rw [hf] at this
      cases this
    rw [this]
    rfl
  | some i =>
    have : l.any f = true := by
      obtain ⟨hlt, hp, _⟩ := List.findIdx?_eq_some_iff_getElem.1 h
      exact List.any_eq_true.2 ⟨l[i], List.getElem_mem hlt, hp⟩
    rw [this]
    simp
theorem findIdx_drop {α : Type} (f : α → Bool) {l : List α} {i : Nat} (h : i < l.length) : (l.drop i).findIdx? f = if f l[i] then some 0 else ((l.drop (i + 1)).findIdx? f).map (· + 1) := by
  rw [List.drop_eq_getElem_cons h, List.findIdx?_cons]
def zipAll {α β : Type} (f : α → β → Bool) : List α → List β → Bool
  | [], [] => true
  | x :: l, y :: r => f x y && zipAll f l r
  | _, _ => false
theorem zipAll_beq {α : Type} [DecidableEq α] : ∀ (l r : List α), zipAll (fun x y => x == y) l r = (l == r)
  | [], [] => rfl
  | x :: l, y :: r => by
      rw [zipAll, zipAll_beq l r]
      rfl
  | [], _ :: _ => rfl
  | _ :: _, [] => rfl
theorem zipAll_len {α β : Type} {f : α → β → Bool} : ∀ {l : List α} {r : List β}, zipAll f l r = true → l.length = r.length
  | [], [], _ => rfl
  | x :: l, y :: r, h => by
      rw [zipAll, Bool.and_eq_true] at h
      rw [List.length_cons, List.length_cons, zipAll_len h.2]
  | [], _ :: _, h => by cases h
  | _ :: _, [], h => by cases h
/-- two lists side by side -/
theorem cmp_loop {α β ε ρ : Type} {e : ε} {v : ρ} (L : List α → Nat → Option (Sum ε ρ)) (s2 : List β) (f : α → β → Bool) (h0 : ∀ i, L [] i = some (.inl e)) (h1 : ∀ x rest i, L (x :: rest) i = (ixO s2 ((i : Nat) : Int)).bind fun x1 => bif (!(f x x1)) then some (.inr v) else L rest (i + 1)) :
    ∀ (l : List α) (i : Nat), l.length + i = s2.length → L l i = some (if zipAll f l (s2.drop i) then .inl e else .inr v)
  | [], i, q => by
      rw [h0, List.drop_eq_nil_of_le (by simp at q; omega)]
      rfl
  | x :: l, i, q => by
      have hlt : i < s2.length := by simp at q; omega
      rw [h1, ixO_lt hlt, Option.bind_some, cmp_loop L s2 f h0 h1 l (i + 1) (by simp at q; omega), List.drop_eq_getElem_cons hlt, zipAll]
      cases f x s2[i]
      · rfl
      · simp only [Bool.not_true, cond_false, Bool.true_and]
theorem len_bne {α β : Type} (f : α → AV) (g : β → AV) (a : List α) (b : List β) : ((((List.map f a).length : Nat) : Int) != (((List.map g b).length : Nat) : Int)) = !decide (a.length = b.length) := by
  rw [List.length_map, List.length_map]
  by_cases h : a.length = b.length
  · rw [h]; simp
  · simp [h]; omega
theorem nil_app {α : Type} (l : List α) : ([] : List α) ++ l = l := rfl
theorem zipAll_refl {α : Type} {f : α → α → Bool} : ∀ {l : List α}, (∀ x ∈ l, f x x = true) → zipAll f l l = true
  | [], _ => rfl
  | x :: l, h => by
      rw [zipAll, h x (by simp), zipAll_refl fun y hy => h y (by simp [hy])]
      rfl

/-! ### The fields' sizes -/
def sizes : List Int := [16, 48, 48, 16, 12, 4, 32, 32, 8, 8, 12, 12]
def sizeT (n : Int) : Int := if 0 ≤ n ∧ n < 12 then sizes.getD n.toNat 0 else 0
theorem sizeT_cases (n : Int) : (¬ (0 ≤ n ∧ n < 12) ∧ sizeT n = 0) ∨ (0 ≤ n ∧ n < 12 ∧ ∃ k : Nat, n = k ∧ k < 12 ∧ sizeT n = sizes.getD k 0) := by
  by_cases h : 0 ≤ n ∧ n < 12
  · refine .inr ⟨h.1, h.2, n.toNat, by omega, by omega, ?_⟩
    unfold sizeT; rw [if_pos h]
  · refine .inl ⟨h, ?_⟩
    unfold sizeT; rw [if_neg h]
theorem sizes_in : ∀ k : Nat, 0 ≤ sizes.getD k 0 ∧ sizes.getD k 0 ≤ 48
  | 0 | 1 | 2 | 3 | 4 | 5 | 6 | 7 | 8 | 9 | 10 | 11 => by decide
  | n + 12 => by
    have : sizes.getD (n + 12) 0 = 0 := rfl
    rw [this]; decide
theorem sizeT_in (n : Int) : 0 ≤ sizeT n ∧ sizeT n ≤ 48 := by
  unfold sizeT
  split
  · exact sizes_in _
  · decide
/-- a number fits a field -/
def fitsT (n v : Int) : Bool := decide (v < 2 ^ (sizeT n).toNat)
theorem pow_le48 {k : Nat} (h : k ≤ 48) : (2 : Int) ^ k ≤ 281474976710656 := by
  have : (2 : Nat) ^ k ≤ 2 ^ 48 := Nat.pow_le_pow_right (by omega) h
  have e : ((2 ^ k : Nat) : Int) = (2 : Int) ^ k := by push_cast; rfl
  rw [← e]
  omega
theorem pow_pos2 (k : Nat) : (0 : Int) < (2 : Int) ^ k := Int.pow_pos (by decide)
theorem wrapU_eq {n : Int} (h1 : 0 ≤ n) (h2 : n < 18446744073709551616) : IntKind.u64.wrap n = n := by
  unfold IntKind.wrap
  simp only [IntKind.signed, IntKind.bits, Bool.false_and, Bool.false_eq_true, if_false]
  omega

structure Act where
  Kind : Int
  Port : Int
  Field : Int
  Value : Int
  deriving DecidableEq, Inhabited
def Act.ch (r : Act) : List AV := [.sc (.int .i64 r.Kind), .sc (.int .i64 r.Port), .sc (.int .i64 r.Field), .sc (.int .u64 r.Value)]
def Act.av (r : Act) : AV := .agg [.sc (.int .i64 r.Kind), .sc (.int .i64 r.Port), .sc (.int .i64 r.Field), .sc (.int .u64 r.Value)]
structure Cube where
  Value : List Int
  Care : List Int
  deriving DecidableEq, Inhabited
def Cube.ch (r : Cube) : List AV := [.arr .u64 12 r.Value, .arr .u64 12 r.Care]
def Cube.av (r : Cube) : AV := .agg [.arr .u64 12 r.Value, .arr .u64 12 r.Care]
structure Rule where
  Match : Cube
  Prio : Int
  Acts : List Act
  Idle : Int
  Hard : Int
  Owner : Int
  Hits : Int
  Quiet : Int
  Age : Int
  deriving DecidableEq, Inhabited
def Rule.ch (r : Rule) : List AV := [.arr .u64 12 r.Match.Value, .arr .u64 12 r.Match.Care, .sc (.int .i64 r.Prio), .sl 87 (List.map Act.av r.Acts) false, .sc (.int .i64 r.Idle), .sc (.int .i64 r.Hard), .sc (.int .i64 r.Owner), .sc (.int .i64 r.Hits), .sc (.int .i64 r.Quiet), .sc (.int .i64 r.Age)]
def Rule.av (r : Rule) : AV := .agg [.arr .u64 12 r.Match.Value, .arr .u64 12 r.Match.Care, .sc (.int .i64 r.Prio), .sl 87 (List.map Act.av r.Acts) false, .sc (.int .i64 r.Idle), .sc (.int .i64 r.Hard), .sc (.int .i64 r.Owner), .sc (.int .i64 r.Hits), .sc (.int .i64 r.Quiet), .sc (.int .i64 r.Age)]
structure Mod where
  Kind : Int
  Match : Cube
  Prio : Int
  Acts : List Act
  Idle : Int
  Hard : Int
  Owner : Int
  Check : Bool
  deriving DecidableEq, Inhabited
def Mod.ch (r : Mod) : List AV := [.sc (.int .i64 r.Kind), .arr .u64 12 r.Match.Value, .arr .u64 12 r.Match.Care, .sc (.int .i64 r.Prio), .sl 87 (List.map Act.av r.Acts) false, .sc (.int .i64 r.Idle), .sc (.int .i64 r.Hard), .sc (.int .i64 r.Owner), .sc (.bool r.Check)]
def Mod.av (r : Mod) : AV := .agg [.sc (.int .i64 r.Kind), .arr .u64 12 r.Match.Value, .arr .u64 12 r.Match.Care, .sc (.int .i64 r.Prio), .sl 87 (List.map Act.av r.Acts) false, .sc (.int .i64 r.Idle), .sc (.int .i64 r.Hard), .sc (.int .i64 r.Owner), .sc (.bool r.Check)]
structure Msg where
  Kind : Int
  Txn : Int
  E : Int
  Mod : Mod
  Port : Int
  Head : List Int
  Rules : List Rule
  deriving DecidableEq, Inhabited
def Msg.ch (r : Msg) : List AV := [.sc (.int .i64 r.Kind), .sc (.int .i64 r.Txn), .sc (.int .i64 r.E), .sc (.int .i64 r.Mod.Kind), .arr .u64 12 r.Mod.Match.Value, .arr .u64 12 r.Mod.Match.Care, .sc (.int .i64 r.Mod.Prio), .sl 87 (List.map Act.av r.Mod.Acts) false, .sc (.int .i64 r.Mod.Idle), .sc (.int .i64 r.Mod.Hard), .sc (.int .i64 r.Mod.Owner), .sc (.bool r.Mod.Check), .sc (.int .i64 r.Port), .arr .u64 12 r.Head, .sl 68 (List.map Rule.av r.Rules) false]
def Msg.av (r : Msg) : AV := .agg [.sc (.int .i64 r.Kind), .sc (.int .i64 r.Txn), .sc (.int .i64 r.E), .sc (.int .i64 r.Mod.Kind), .arr .u64 12 r.Mod.Match.Value, .arr .u64 12 r.Mod.Match.Care, .sc (.int .i64 r.Mod.Prio), .sl 87 (List.map Act.av r.Mod.Acts) false, .sc (.int .i64 r.Mod.Idle), .sc (.int .i64 r.Mod.Hard), .sc (.int .i64 r.Mod.Owner), .sc (.bool r.Mod.Check), .sc (.int .i64 r.Port), .arr .u64 12 r.Head, .sl 68 (List.map Rule.av r.Rules) false]
structure Field where
  name : ByteArray
  size : Int
  deriving DecidableEq, Inhabited
def Field.ch (r : Field) : List AV := [.sc (.string r.name), .sc (.int .i64 r.size)]
def Field.av (r : Field) : AV := .agg [.sc (.string r.name), .sc (.int .i64 r.size)]

end Go.Proofs.Ythfidfjogecnpaa

set_option linter.unusedVariables false
set_option linter.unusedSimpArgs false
set_option maxRecDepth 100000
set_option maxHeartbeats 4000000
namespace Go.Proofs.Ythfidfjogecnpaa
open Go.Sh
structure Writer where
  b : List Int
  deriving DecidableEq, Inhabited
structure Reader where
  b : List Int
  end_ : Bool
  deriving DecidableEq, Inhabited
def Reader.ch (r : Reader) : List AV := [.sl 5 (List.map (intA .u8) r.b) false, .sc (.bool r.end_)]
def Reader.av (r : Reader) : AV := .agg [.sl 5 (List.map (intA .u8) r.b) false, .sc (.bool r.end_)]
structure Eye where
  B : List Int
  At : Int
  Short : Bool
  deriving DecidableEq, Inhabited
def Eye.ch (r : Eye) : List AV := [.sl 5 (List.map (intA .u8) r.B) false, .sc (.int .i64 r.At), .sc (.bool r.Short)]
def Eye.av (r : Eye) : AV := .agg [.sl 5 (List.map (intA .u8) r.B) false, .sc (.int .i64 r.At), .sc (.bool r.Short)]

/-! ### (*podesta/code.writer).put: function 29 -/
noncomputable def code_writer_put_F : Go.Sh.Fn := ⟨29, bodyOf Try.f29, 27⟩
def code_writer_put_l0 (n : Int) : Nat → Int → List Int → Option ((List Int))
  | 0, _, _ => none
  | m + 1, k1, o1 =>
    (bif (decide (k1 ≥ 0)) then
    reqO (decide (0 ≤ (IntKind.i64.wrap (8 * k1)))) (
    fitO (o1.length + [(IntKind.u8.wrap (Int.fdiv n (2 ^ (min ((IntKind.i64.wrap (8 * k1)) : Int).toNat (IntKind.u64).bits))))].length) 1 (
    code_writer_put_l0 n m (IntKind.i64.wrap (k1 - 1)) (o1 ++ [(IntKind.u8.wrap (Int.fdiv n (2 ^ (min ((IntKind.i64.wrap (8 * k1)) : Int).toNat (IntKind.u64).bits))))])))
  else
    some o1)
theorem code_writer_put_l0_walk (q0 : Nat) (w1 : Writer) (n : Int) (size : Int)  (r : Writer) (c0 : Ctx) (hc0 : c0.m.length = 2) (res : (List Int)) (J : AX Try.prog tab code_writer_put_F c0 (Rp tab.S c0 (.tup []) [.box 73 [.own 1 1000000], .row 5 (List.map (intA .u8) r.b) 1000000 true]) (some ⟨[], [], [.box 73 [.own 1 1000000], .row 5 (List.map (intA .u8) res) 1000000 true]⟩)) :
    ∀ (m : Nat) (k1 : Int) (o1 : List Int) (H : code_writer_put_l0 n m k1 o1 = some res), AX Try.prog tab code_writer_put_F c0 (Rp tab.S c0 (.tup []) [.box 73 [.own 1 1000000], .row 5 (List.map (intA .u8) r.b) 1000000 true]) (some ⟨[.code [1, 0, 0], .loop [1, 0], .blk 0], [(0, .ptr 0 0 none), (1, .sc (.int .u64 n)), (6, .sc (.int .i64 k1))], [.box 73 [.own 1 1000000], .row 5 (List.map (intA .u8) o1) 1000000 true]⟩) := by
  intro m
  induction m with
  | zero => intro k1 o1 H; cases H
  | succ m ih =>
    intro k1 o1 H
    rw [code_writer_put_l0] at H
    refine .sg 3 [0,1,6,10] (.cd (decide (k1 ≥ 0)) H (fun hb H => ?_) (fun hb H => ?_))
    ·
      exact .sg 3 [0,1,6] (.rg (.sg 8 [0,1,6,13,17,18,20] (reqH H fun hreq H => (.sr_ [0,1,6,13,17,21] (b := (IntKind.i64.wrap (8 * k1))) hreq (.sg 2 [0,1,6,13,17,23] (fitH H fun hfit H => (.ap [0,1,6,13,24] (intA .u8) hfit (.sg 3 [0,1,6] (.dn (.sg 2 [0,1,6] (.tl hc0 [0,1] [0,1,6] (.into (.to (ih (IntKind.i64.wrap (k1 - 1)) (o1 ++ [(IntKind.u8.wrap (Int.fdiv n (2 ^ (min ((IntKind.i64.wrap (8 * k1)) : Int).toNat (IntKind.u64).bits))))]) H))))))))))))))
    ·
      refine .sg 1 [] (.kp [] ?_)
      obtain rfl := Option.some.inj H
      exact .to J
def code_writer_put_raw (q0 : Nat) (w1 : Writer) (n : Int) (size : Int) : Option (Writer) :=
  (code_writer_put_l0 n q0 (IntKind.i64.wrap (size - 1)) w1.b).bind fun v =>
  some ({ b := v } : Writer)
theorem code_writer_put_walk (q0 : Nat) (w1 : Writer) (n : Int) (size : Int) (r : Writer) (H : code_writer_put_raw q0 w1 n size = some r) : ACalls Try.prog tab.S 29 [.ptr 0 0 none, .sc (.int .u64 n), .sc (.int .i64 size)] [.box 73 [.own 1 1000000], .row 5 (List.map (intA .u8) w1.b) 1000000 true] (.tup []) [.box 73 [.own 1 1000000], .row 5 (List.map (intA .u8) r.b) 1000000 true] := by
  refine .of_AX code_writer_put_F Try.func29 fun c0 hc0 => ?_
  rw [code_writer_put_raw] at H
  refine .sg 3 [0,1,6] ?_
  refine bndO H fun v hv H => (.into (.to (code_writer_put_l0_walk q0 w1 n size r c0 hc0 v ?_ q0 (IntKind.i64.wrap (size - 1)) w1.b hv)))
  obtain rfl := Option.some.inj H
  exact .ret Try.func29 hc0 [0,1]

def beB (n : Int) : Nat → List Int
  | 0 => []
  | k + 1 => IntKind.u8.wrap (Int.fdiv n (2 ^ (8 * k))) :: beB n k
theorem beB_length (n : Int) : ∀ k, (beB n k).length = k
  | 0 => rfl
  | k + 1 => by rw [beB, List.length_cons, beB_length n k]
theorem put_l0_eq (n : Int) : ∀ (k : Nat) (o : List Int), k ≤ 8 → o.length + k ≤ 140737488355328 → code_writer_put_l0 n (k + 1) ((k : Int) - 1) o = some (o ++ beB n k)
  | 0, o, _, _ => by
    rw [code_writer_put_l0, decide_eq_false (by omega), cond_false, beB, List.append_nil]
  | k + 1, o, h, hl => by
    have hw : IntKind.i64.wrap (8 * (((k + 1 : Nat) : Int) - 1)) = ((8 * k : Nat) : Int) := by rw [wrap_eq (by omega) (by omega)]; omega
    have hw2 : IntKind.i64.wrap (((k + 1 : Nat) : Int) - 1 - 1) = (k : Int) - 1 := by rw [wrap_eq (by omega) (by omega)]; omega
    have hm : min (8 * k) (IntKind.u64).bits = 8 * k := Nat.min_eq_left (by show 8 * k ≤ 64; omega)
    rw [code_writer_put_l0, decide_eq_true (by omega), cond_true, hw, reqO_eq (decide_eq_true (by omega)), fitO_eq (by simp only [List.length_singleton]; omega), Int.toNat_natCast, hm, hw2, put_l0_eq n k _ (by omega) (by simp only [List.length_append, List.length_singleton]; omega), beB, List.append_assoc]
    rfl
def putW (w : Writer) (n size : Int) : Option Writer := if 0 ≤ size ∧ size ≤ 8 ∧ w.b.length + 8 ≤ 140737488355328 then some ⟨w.b ++ beB n size.toNat⟩ else none
theorem put_eq (w : Writer) (n size : Int) (r : Writer) (H : putW w n size = some r) : code_writer_put_raw (size.toNat + 1) w n size = some r := by
  unfold putW at H
  split at H
  · rename_i h
    obtain ⟨h1, h2, h3⟩ := h
    injection H with H
    subst H
    have hw : IntKind.i64.wrap (size - 1) = (size.toNat : Int) - 1 := by rw [wrap_eq (by omega) (by omega)]; omega
    rw [code_writer_put_raw, hw, put_l0_eq n size.toNat w.b (by omega) (by omega)]
    rfl
  · cases H

theorem code_writer_put_ok (w1 : Writer) (n : Int) (size : Int) (r : Writer) (H : putW w1 n size = some r) : ACalls Try.prog tab.S 29 [.ptr 0 0 none, .sc (.int .u64 n), .sc (.int .i64 size)] [.box 73 [.own 1 1000000], .row 5 (List.map (intA .u8) w1.b) 1000000 true] (.tup []) [.box 73 [.own 1 1000000], .row 5 (List.map (intA .u8) r.b) 1000000 true] :=
 code_writer_put_walk (size.toNat + 1) w1 n size r (put_eq w1 n size r H)
/-! ### (*podesta/code.writer).head: function 31 -/
noncomputable def code_writer_head_F : Go.Sh.Fn := ⟨31, bodyOf Try.f31, 14⟩
def code_writer_head_l0s (h1 : List Int) : Nat → Nat → List Int → Option ((List Int))
  | 0, t7, o1 =>
    some o1
  | rest + 1, t7, o1 =>
    (putW ({ b := o1 } : Writer) (h1.getD t7 0) 8).bind fun v =>
    code_writer_head_l0s h1 rest (t7 + 1) v.b
theorem code_writer_head_l0_walk (w1 : Writer) (h1 : List Int) (r : Writer) (c0 : Ctx) (hc0 : c0.m.length = 2) (res : (List Int)) (J : AX Try.prog tab code_writer_head_F c0 (Rp tab.S c0 (.tup []) [.box 73 [.own 1 1000000], .row 5 (List.map (intA .u8) r.b) 1000000 true]) (some ⟨[], [], [.box 73 [.own 1 1000000], .row 5 (List.map (intA .u8) res) 1000000 true, .box 27 [.arr .u64 12 h1]]⟩)) :
    ∀ (rest : Nat) (t7 : Nat) (z : Int) (hI : z = ((t7 : Nat) : Int)) (hd : t7 + rest = 12) (o1 : List Int) (H : code_writer_head_l0s h1 rest t7 o1 = some res), AX Try.prog tab code_writer_head_F c0 (Rp tab.S c0 (.tup []) [.box 73 [.own 1 1000000], .row 5 (List.map (intA .u8) r.b) 1000000 true]) (some ⟨[.code [1, 1, 0, 0], .loop [1, 1, 0], .blk 0], [(0, .ptr 0 0 none), (6, .arr .u64 12 h1), (7, .sc (.int .i64 z))], [.box 73 [.own 1 1000000], .row 5 (List.map (intA .u8) o1) 1000000 true, .box 27 [.arr .u64 12 h1]]⟩) := by
  intro rest
  induction rest with
  | zero =>
    intro t7 z hI hd o1 H
    subst hI
    rw [code_writer_head_l0s] at H
    have hc : (decide (((t7 : Nat) : Int) < 12)) = false := decide_eq_false (by omega)
    refine .sg 3 [0,6,7,8] (.cdF hc (.sg 1 [] (.kp [] ?_)))
    obtain rfl := Option.some.inj H
    exact .to J
  | succ rest ih =>
    intro t7 z hI hd o1 H
    subst hI
    rw [code_writer_head_l0s] at H
    have hlt_t7 : t7 < 12 := by omega
    have hc : (decide (((t7 : Nat) : Int) < 12)) = true := decide_eq_true (by omega)
    have hw : IntKind.i64.wrap (((t7 : Nat) : Int) + 1) = ((t7 + 1 : Nat) : Int) := wrapI_succ (by omega)
    refine .sg 3 [0,6,7,8] (.cdT hc (.sg 4 [0,6,7] (.rg ?_)))
    have hreq := idx_in 12 hlt_t7 (by decide)
    exact .xv [0,6,7,9] hreq (.sg 1 [0,5,6,7] (.dn (.rg (.sg 2 [0,6,7,10,11] (bndO H fun v hv H => (.ch [0,6,7] [0,1] (code_writer_put_ok ({ b := o1 } : Writer) (h1.getD t7 0) 8 v hv) (.dn (.sg 2 [0,6,7] (.tl hc0 [0,1,2] [0,6,7] (.into (.cl (ih (t7 + 1) _ hw (by omega) v.b H))))))))))))

def code_writer_head_raw (w1 : Writer) (h1 : List Int) : Option (Writer) :=
  (code_writer_head_l0s h1 12 0 w1.b).bind fun v =>
  some ({ b := v } : Writer)
theorem code_writer_head_walk (w1 : Writer) (h1 : List Int) (r : Writer) (H : code_writer_head_raw w1 h1 = some r) : ACalls Try.prog tab.S 31 [.ptr 0 0 none, .arr .u64 12 h1] [.box 73 [.own 1 1000000], .row 5 (List.map (intA .u8) w1.b) 1000000 true] (.tup []) [.box 73 [.own 1 1000000], .row 5 (List.map (intA .u8) r.b) 1000000 true] := by
  refine .of_AX code_writer_head_F Try.func31 fun c0 hc0 => ?_
  rw [code_writer_head_raw] at H
  refine .sg 5 [0,6,7] ?_
  refine bndO H fun v hv H => (.into (.to (code_writer_head_l0_walk w1 h1 r c0 hc0 v ?_ 12 0 _ rfl rfl w1.b hv)))
  obtain rfl := Option.some.inj H
  exact .ret Try.func31 hc0 [0,1]

/-! ### (*podesta/code.writer).acts: function 49 -/
noncomputable def code_writer_acts_F : Go.Sh.Fn := ⟨49, bodyOf Try.f49, 37⟩
def code_writer_acts_l0s : List Act → List Int → Option ((List Int))
  | [], o1 =>
    some o1
  | x :: rest, o1 =>
    (putW ({ b := o1 } : Writer) (IntKind.u64.wrap x.Kind) 1).bind fun v1 =>
    (putW v1 (IntKind.u64.wrap x.Port) 1).bind fun v2 =>
    (putW v2 (IntKind.u64.wrap x.Field) 1).bind fun v3 =>
    (putW v3 x.Value 8).bind fun v4 =>
    code_writer_acts_l0s rest v4.b
theorem code_writer_acts_l0_walk (w1 : Writer) (list : List Act) (v : Writer) (f_list : Bool) (r : Writer) (c0 : Ctx) (hc0 : c0.m.length = 2) (res : (List Int)) (J : AX Try.prog tab code_writer_acts_F c0 (Rp tab.S c0 (.tup []) [.box 73 [.own 1 1000000], .row 5 (List.map (intA .u8) r.b) 1000000 true]) (some ⟨[], [], [.box 73 [.own 1 1000000], .row 5 (List.map (intA .u8) res) 1000000 true]⟩)) :
    ∀ (rest : List Act) (t13 : Nat) (z : Int) (hI : z = ((t13 : Nat) : Int)) (hd : list.drop t13 = rest) (o1 : List Int) (H : code_writer_acts_l0s rest o1 = some res), AX Try.prog tab code_writer_acts_F c0 (Rp tab.S c0 (.tup []) [.box 73 [.own 1 1000000], .row 5 (List.map (intA .u8) r.b) 1000000 true]) (some ⟨[.code [1, 1, 0, 0], .loop [1, 1, 0], .blk 0], [(0, .ptr 0 0 none), (11, .sl 87 (List.map Act.av list) f_list), (12, .sc (.int .i64 (((List.map Act.av list).length : Nat) : Int))), (13, .sc (.int .i64 z))], [.box 73 [.own 1 1000000], .row 5 (List.map (intA .u8) o1) 1000000 true]⟩) := by
  intro rest
  induction rest with
  | nil =>
    intro t13 z hI hd o1 H
    subst hI
    rw [code_writer_acts_l0s] at H
    refine .facts 11 fun hf => ?_
    have hlen : list.length ≤ 9223372036854775807 := by have hq := len_ok hf.2.1; rw [List.length_map] at hq; exact hq
    have hge : list.length ≤ t13 := List.drop_eq_nil_iff.1 hd
    have hc : (decide (((t13 : Nat) : Int) < (((List.map Act.av list).length : Nat) : Int))) = false := by rw [List.length_map]; exact decide_eq_false (by omega)
    refine .sg 3 [0,11,12,13,14] (.cdF hc (.sg 1 [] (.kp [] ?_)))
    obtain rfl := Option.some.inj H
    exact .to J
  | cons x rest ih =>
    intro t13 z hI hd o1 H
    subst hI
    rw [code_writer_acts_l0s] at H
    refine .facts 11 fun hf => ?_
    have hlen : list.length ≤ 9223372036854775807 := by have hq := len_ok hf.2.1; rw [List.length_map] at hq; exact hq
    obtain ⟨hlt, hv_t13, hd2⟩ := drop_cons hd
    have hc : (decide (((t13 : Nat) : Int) < (((List.map Act.av list).length : Nat) : Int))) = true := by rw [List.length_map]; exact decide_eq_true (by omega)
    have hw : IntKind.i64.wrap (((t13 : Nat) : Int) + 1) = ((t13 + 1 : Nat) : Int) := wrapI_succ (by omega)
    exact .sg 3 [0,11,12,13,14] (.cdT hc (.sg 4 [0,11,12,13] (.rg (.xi [0,11,12,13,15] Act.av hv_t13 (.sg 3 [0,5,11,12,13] (.dn (.sg 1 [0,5,11,12,13] (.rg (.sg 4 [0,5,11,12,13,17,20] (bndO H fun v1 hv H => (.ch [0,5,11,12,13] [0,1] (code_writer_put_ok ({ b := o1 } : Writer) (IntKind.u64.wrap x.Kind) 1 v1 hv) (.dn (.sg 1 [0,5,11,12,13] (.rg (.sg 4 [0,5,11,12,13,22,25] (bndO H fun v2 hv H => (.ch [0,5,11,12,13] [0,1] (code_writer_put_ok v1 (IntKind.u64.wrap x.Port) 1 v2 hv) (.dn (.sg 1 [0,5,11,12,13] (.rg (.sg 4 [0,5,11,12,13,27,30] (bndO H fun v3 hv H => (.ch [0,5,11,12,13] [0,1] (code_writer_put_ok v2 (IntKind.u64.wrap x.Field) 1 v3 hv) (.dn (.rg (.sg 3 [0,11,12,13,32,34] (bndO H fun v4 hv H => (.ch [0,11,12,13] [0,1] (code_writer_put_ok v3 x.Value 8 v4 hv) (.dn (.sg 2 [0,11,12,13] (.tl hc0 [0,1] [0,11,12,13] (.into (.cl (ih (t13 + 1) _ hw hd2 v4.b H))))))))))))))))))))))))))))))))))

def code_writer_acts_raw (w1 : Writer) (list : List Act) : Option (Writer) :=
  (putW w1 (IntKind.u64.wrap (((List.map Act.av list).length : Nat) : Int)) 1).bind fun v =>
  (code_writer_acts_l0s list v.b).bind fun v1 =>
  some ({ b := v1 } : Writer)
theorem code_writer_acts_walk (w1 : Writer) (list : List Act) (f_list : Bool) (r : Writer) (H : code_writer_acts_raw w1 list = some r) : ACalls Try.prog tab.S 49 [.ptr 0 0 none, .sl 87 (List.map Act.av list) f_list] [.box 73 [.own 1 1000000], .row 5 (List.map (intA .u8) w1.b) 1000000 true] (.tup []) [.box 73 [.own 1 1000000], .row 5 (List.map (intA .u8) r.b) 1000000 true] := by
  refine .of_AX code_writer_acts_F Try.func49 fun c0 hc0 => ?_
  rw [code_writer_acts_raw] at H
  refine .sg 1 [0,1] (.rg (.sg 4 [0,1,6,9] (bndO H fun v hv H => (.ch [0,1] [0,1] (code_writer_put_ok w1 (IntKind.u64.wrap (((List.map Act.av list).length : Nat) : Int)) 1 v hv) (.dn (.sg 3 [0,11,12,13] (.tl hc0 [0,1] [0,11,12,13] ?_)))))))
  refine bndO H fun v1 hv H => (.into (.to (code_writer_acts_l0_walk w1 list v f_list r c0 hc0 v1 ?_ list 0 _ rfl rfl v.b hv)))
  obtain rfl := Option.some.inj H
  exact .ret Try.func49 hc0 [0,1]

/-! ### (*podesta/code.writer).match: function 48 -/
noncomputable def code_writer_match_F : Go.Sh.Fn := ⟨48, bodyOf Try.f48, 36⟩
def code_writer_match_raw (w1 : Writer) (c : Cube) (prio : Int) (idle : Int) (hard : Int) (owner : Int) : Option (Writer) :=
  (code_writer_head_raw w1 c.Value).bind fun v =>
  (code_writer_head_raw v c.Care).bind fun v1 =>
  (putW v1 (IntKind.u64.wrap prio) 2).bind fun v2 =>
  (putW v2 (IntKind.u64.wrap idle) 4).bind fun v3 =>
  (putW v3 (IntKind.u64.wrap hard) 4).bind fun v4 =>
  (putW v4 (IntKind.u64.wrap owner) 1).bind fun v5 =>
  some v5
theorem code_writer_match_walk (w1 : Writer) (c : Cube) (prio : Int) (idle : Int) (hard : Int) (owner : Int) (r : Writer) (H : code_writer_match_raw w1 c prio idle hard owner = some r) : ACalls Try.prog tab.S 48 [.ptr 0 0 none, Cube.av c, .sc (.int .i64 prio), .sc (.int .i64 idle), .sc (.int .i64 hard), .sc (.int .i64 owner)] [.box 73 [.own 1 1000000], .row 5 (List.map (intA .u8) w1.b) 1000000 true] (.tup []) [.box 73 [.own 1 1000000], .row 5 (List.map (intA .u8) r.b) 1000000 true] := by
  refine .of_AX code_writer_match_F Try.func48 fun c0 hc0 => ?_
  rw [code_writer_match_raw] at H
  refine .sg 3 [0,2,3,4,5,7] (.rg (.sg 3 [0,2,3,4,5,7,12,14] (bndO H fun v hv H => (.ch [0,2,3,4,5,7] [0,1] (code_writer_head_walk w1 c.Value v hv) (.dn (.sg 1 [0,2,3,4,5,7] (.rg (.sg 3 [0,2,3,4,5,16,18] (bndO H fun v1 hv H => (.ch [0,2,3,4,5] [0,1] (code_writer_head_walk v c.Care v1 hv) (.dn (.sg 1 [0,2,3,4,5] (.rg (.sg 3 [0,3,4,5,20,22] (bndO H fun v2 hv H => (.ch [0,3,4,5] [0,1] (code_writer_put_ok v1 (IntKind.u64.wrap prio) 2 v2 hv) (.dn (.sg 1 [0,3,4,5] (.rg (.sg 3 [0,4,5,24,26] (bndO H fun v3 hv H => (.ch [0,4,5] [0,1] (code_writer_put_ok v2 (IntKind.u64.wrap idle) 4 v3 hv) (.dn (.sg 1 [0,4,5] (.rg (.sg 3 [0,5,28,30] (bndO H fun v4 hv H => (.ch [0,5] [0,1] (code_writer_put_ok v3 (IntKind.u64.wrap hard) 4 v4 hv) (.dn (.rg (.sg 3 [32,34] (bndO H fun v5 hv H => (.ch [] [0,1] (code_writer_put_ok v4 (IntKind.u64.wrap owner) 1 v5 hv) (.dn ?_))))))))))))))))))))))))))))))))))
  obtain rfl := Option.some.inj H
  exact .ret Try.func48 hc0 [0,1]

/-! ### (*podesta/code.writer).mod: function 30 -/
noncomputable def code_writer_mod_F : Go.Sh.Fn := ⟨30, bodyOf Try.f30, 31⟩
def code_writer_mod_raw (w1 : Writer) (m1 : Mod) : Option (Writer) :=
  (putW w1 (IntKind.u64.wrap m1.Kind) 1).bind fun v =>
  (code_writer_match_raw v m1.Match m1.Prio m1.Idle m1.Hard m1.Owner).bind fun v1 =>
  (putW v1 (bif m1.Check then 1 else 0) 1).bind fun v2 =>
  (code_writer_acts_raw v2 m1.Acts).bind fun v3 =>
  some v3
theorem code_writer_mod_walk (w1 : Writer) (m1 : Mod) (r : Writer) (H : code_writer_mod_raw w1 m1 = some r) : ACalls Try.prog tab.S 30 [.ptr 0 0 none, Mod.av m1] [.box 73 [.own 1 1000000], .row 5 (List.map (intA .u8) w1.b) 1000000 true] (.tup []) [.box 73 [.own 1 1000000], .row 5 (List.map (intA .u8) r.b) 1000000 true] := by
  refine .of_AX code_writer_mod_F Try.func30 fun c0 hc0 => ?_
  rw [code_writer_mod_raw] at H
  refine .sg 3 [0,3] (.rg (.sg 4 [0,3,5,8] (bndO H fun v hv H => (.ch [0,3] [0,1] (code_writer_put_ok w1 (IntKind.u64.wrap m1.Kind) 1 v hv) (.dn (.sg 1 [0,3] (.rg (.sg 11 [0,3,10,12,14,16,18,20] (bndO H fun v1 hv H => (.ch [0,3] [0,1] (code_writer_match_walk v m1.Match m1.Prio m1.Idle m1.Hard m1.Owner v1 hv) (.dn (.sg 5 [0,3,4,23] (.jn m1.Check [0, 3, 4] (fun z => [(4, .sc (.int .u64 (bif z then 1 else 0)))]) ?J1 (fun hb J => ?ht1) (fun hb J => ?hf1))))))))))))))
  case ht1 =>
    exact .sg 1 [0,3,4] (.cl J)
  case hf1 =>
    exact .sg 1 [0,3,4] (.cl J)
  refine .sg 1 [0,3,4] (.rg (.sg 2 [0,3,24,25] (bndO H fun v2 hv H => (.ch [0,3] [0,1] (code_writer_put_ok v1 (bif m1.Check then 1 else 0) 1 v2 hv) (.dn (.rg (.sg 3 [27,29] (bndO H fun v3 hv H => (.ch [] [0,1] (code_writer_acts_walk v2 m1.Acts false v3 hv) (.dn ?_))))))))))
  obtain rfl := Option.some.inj H
  exact .ret Try.func30 hc0 [0,1]

/-! ### (*podesta/code.writer).rules: function 32 -/
noncomputable def code_writer_rules_F : Go.Sh.Fn := ⟨32, bodyOf Try.f32, 51⟩
def code_writer_rules_l1s (x : Rule) : Nat → Nat → List Int → Option ((List Int))
  | 0, t38, o11 =>
    some o11
  | rest1 + 1, t38, o11 =>
    (putW ({ b := o11 } : Writer) (IntKind.u64.wrap ([x.Hits, x.Quiet, x.Age].getD t38 0)) 8).bind fun v2 =>
    code_writer_rules_l1s x rest1 (t38 + 1) v2.b
theorem code_writer_rules_l1_walk (w1 : Writer) (list : List Rule) (v : Writer) (t15 : Nat) (o1 : List Int) (x : Rule) (hv_t15 : ixO list ((t15 : Nat) : Int) = some x) (v1 : Writer) (f_list : Bool) (r : Writer) (c0 : Ctx) (hc0 : c0.m.length = 2) (res : (List Int)) (J : AX Try.prog tab code_writer_rules_F c0 (Rp tab.S c0 (.tup []) [.box 73 [.own 1 1000000], .row 5 (List.map (intA .u8) r.b) 1000000 true]) (some ⟨[.code [1, 1, 0, 0, 1, 1, 0, 0, 1, 1, 1], .blk 1, .code [1, 1, 0, 0, 1, 1, 1], .loop [1, 1, 0], .blk 0], [(0, .ptr 0 0 none), (5, .ptr 2 0 none), (13, .sl 68 (List.map Rule.av list) f_list), (14, .sc (.int .i64 (((List.map Rule.av list).length : Nat) : Int))), (15, .sc (.int .i64 ((t15 : Nat) : Int)))], [.box 73 [.own 1 1000000], .row 5 (List.map (intA .u8) res) 1000000 true, .box 68 (Rule.ch x)]⟩)) :
    ∀ (rest1 : Nat) (t38 : Nat) (z : Int) (hI : z = ((t38 : Nat) : Int)) (hd : t38 + rest1 = 3) (o11 : List Int) (H : code_writer_rules_l1s x rest1 t38 o11 = some res), AX Try.prog tab code_writer_rules_F c0 (Rp tab.S c0 (.tup []) [.box 73 [.own 1 1000000], .row 5 (List.map (intA .u8) r.b) 1000000 true]) (some ⟨[.code [1, 1, 0, 0, 1, 1, 0, 0, 1, 1, 0, 1, 0, 0], .loop [1, 1, 0, 0, 1, 1, 0, 0, 1, 1, 0, 1, 0], .blk 2, .code [1, 1, 0, 0, 1, 1, 0, 0, 1, 1, 1], .blk 1, .code [1, 1, 0, 0, 1, 1, 1], .loop [1, 1, 0], .blk 0], [(0, .ptr 0 0 none), (5, .ptr 2 0 none), (13, .sl 68 (List.map Rule.av list) f_list), (14, .sc (.int .i64 (((List.map Rule.av list).length : Nat) : Int))), (15, .sc (.int .i64 ((t15 : Nat) : Int))), (37, .arr .i64 3 [x.Hits, x.Quiet, x.Age]), (38, .sc (.int .i64 z))], [.box 73 [.own 1 1000000], .row 5 (List.map (intA .u8) o11) 1000000 true, .box 68 (Rule.ch x)]⟩) := by
  intro rest1
  induction rest1 with
  | zero =>
    intro t38 z hI hd o11 H
    subst hI
    rw [code_writer_rules_l1s] at H
    have hc : (decide (((t38 : Nat) : Int) < 3)) = false := decide_eq_false (by omega)
    refine .sg 3 [0,5,13,14,15,37,38,39] (.cdF hc (.sg 1 [0,5,13,14,15] (.kp [0,5,13,14,15] ?_)))
    obtain rfl := Option.some.inj H
    exact .to J
  | succ rest1 ih =>
    intro t38 z hI hd o11 H
    subst hI
    rw [code_writer_rules_l1s] at H
    have hlt_t38 : t38 < 3 := by omega
    have hc : (decide (((t38 : Nat) : Int) < 3)) = true := decide_eq_true (by omega)
    have hw : IntKind.i64.wrap (((t38 : Nat) : Int) + 1) = ((t38 + 1 : Nat) : Int) := wrapI_succ (by omega)
    refine .sg 3 [0,5,13,14,15,37,38,39] (.cdT hc (.sg 4 [0,5,13,14,15,37,38] (.rg ?_)))
    have hreq := idx_in 3 hlt_t38 (by decide)
    exact .xv [0,5,13,14,15,37,38,40] hreq (.sg 1 [0,5,7,13,14,15,37,38] (.dn (.rg (.sg 3 [0,5,13,14,15,37,38,41,43] (bndO H fun v2 hv H => (.ch [0,5,13,14,15,37,38] [0,1] (code_writer_put_ok ({ b := o11 } : Writer) (IntKind.u64.wrap ([x.Hits, x.Quiet, x.Age].getD t38 0)) 8 v2 hv) (.dn (.sg 2 [0,5,13,14,15,37,38] (.tl hc0 [0,1,2] [0,5,13,14,15,37,38] (.into (.cl (ih (t38 + 1) _ hw (by omega) v2.b H))))))))))))

def code_writer_rules_l0s : List Rule → List Int → Option ((List Int))
  | [], o1 =>
    some o1
  | x :: rest, o1 =>
    (code_writer_match_raw ({ b := o1 } : Writer) x.Match x.Prio x.Idle x.Hard x.Owner).bind fun v1 =>
    (code_writer_rules_l1s x 3 0 v1.b).bind fun v2 =>
    (code_writer_acts_raw ({ b := v2 } : Writer) x.Acts).bind fun v3 =>
    code_writer_rules_l0s rest v3.b
theorem code_writer_rules_l0_walk (w1 : Writer) (list : List Rule) (v : Writer) (f_list : Bool) (r : Writer) (c0 : Ctx) (hc0 : c0.m.length = 2) (res : (List Int)) (J : AX Try.prog tab code_writer_rules_F c0 (Rp tab.S c0 (.tup []) [.box 73 [.own 1 1000000], .row 5 (List.map (intA .u8) r.b) 1000000 true]) (some ⟨[], [], [.box 73 [.own 1 1000000], .row 5 (List.map (intA .u8) res) 1000000 true]⟩)) :
    ∀ (rest : List Rule) (t15 : Nat) (z : Int) (hI : z = ((t15 : Nat) : Int)) (hd : list.drop t15 = rest) (o1 : List Int) (H : code_writer_rules_l0s rest o1 = some res), AX Try.prog tab code_writer_rules_F c0 (Rp tab.S c0 (.tup []) [.box 73 [.own 1 1000000], .row 5 (List.map (intA .u8) r.b) 1000000 true]) (some ⟨[.code [1, 1, 0, 0], .loop [1, 1, 0], .blk 0], [(0, .ptr 0 0 none), (13, .sl 68 (List.map Rule.av list) f_list), (14, .sc (.int .i64 (((List.map Rule.av list).length : Nat) : Int))), (15, .sc (.int .i64 z))], [.box 73 [.own 1 1000000], .row 5 (List.map (intA .u8) o1) 1000000 true]⟩) := by
  intro rest
  induction rest with
  | nil =>
    intro t15 z hI hd o1 H
    subst hI
    rw [code_writer_rules_l0s] at H
    refine .facts 13 fun hf => ?_
    have hlen : list.length ≤ 9223372036854775807 := by have hq := len_ok hf.2.1; rw [List.length_map] at hq; exact hq
    have hge : list.length ≤ t15 := List.drop_eq_nil_iff.1 hd
    have hc : (decide (((t15 : Nat) : Int) < (((List.map Rule.av list).length : Nat) : Int))) = false := by rw [List.length_map]; exact decide_eq_false (by omega)
    refine .sg 3 [0,13,14,15,16] (.cdF hc (.sg 1 [] (.kp [] ?_)))
    obtain rfl := Option.some.inj H
    exact .to J
  | cons x rest ih =>
    intro t15 z hI hd o1 H
    subst hI
    rw [code_writer_rules_l0s] at H
    refine .facts 13 fun hf => ?_
    have hlen : list.length ≤ 9223372036854775807 := by have hq := len_ok hf.2.1; rw [List.length_map] at hq; exact hq
    obtain ⟨hlt, hv_t15, hd2⟩ := drop_cons hd
    have hc : (decide (((t15 : Nat) : Int) < (((List.map Rule.av list).length : Nat) : Int))) = true := by rw [List.length_map]; exact decide_eq_true (by omega)
    have hw : IntKind.i64.wrap (((t15 : Nat) : Int) + 1) = ((t15 + 1 : Nat) : Int) := wrapI_succ (by omega)
    refine .sg 3 [0,13,14,15,16] (.cdT hc (.sg 4 [0,13,14,15] (.rg (.xi [0,13,14,15,17] Rule.av hv_t15 (.sg 3 [0,5,13,14,15] (.dn (.sg 1 [0,5,13,14,15] (.rg (.sg 11 [0,5,13,14,15,19,21,23,25,27,29] (bndO H fun v1 hv H => (.ch [0,5,13,14,15] [0,1] (code_writer_match_walk ({ b := o1 } : Writer) x.Match x.Prio x.Idle x.Hard x.Owner v1 hv) (.dn (.sg 2 [0,5,13,14,15] (.rg (.sg 6 [0,5,13,14,15,32,34,36] (.ba [0,5,13,14,15,37] .i64 3 [x.Hits, x.Quiet, x.Age] (.sg 1 [0,5,13,14,15,37,38] (.dn (.sg 1 [0,5,13,14,15,37,38] (.tl hc0 [0,1,2] [0,5,13,14,15,37,38] ?_))))))))))))))))))))
    refine bndO H fun v2 hv H => (.into (.to (code_writer_rules_l1_walk w1 list v t15 o1 x hv_t15 v1 f_list r c0 hc0 v2 ?_ 3 0 _ rfl rfl v1.b hv)))
    exact .rg (.sg 3 [0,13,14,15,46,48] (bndO H fun v3 hv H => (.ch [0,13,14,15] [0,1] (code_writer_acts_walk ({ b := v2 } : Writer) x.Acts false v3 hv) (.dn (.sg 2 [0,13,14,15] (.tl hc0 [0,1] [0,13,14,15] (.into (.cl (ih (t15 + 1) _ hw hd2 v3.b H)))))))))

def code_writer_rules_raw (w1 : Writer) (list : List Rule) : Option (Writer) :=
  (putW w1 (IntKind.u64.wrap (((List.map Rule.av list).length : Nat) : Int)) 2).bind fun v =>
  (code_writer_rules_l0s list v.b).bind fun v1 =>
  some ({ b := v1 } : Writer)
theorem code_writer_rules_walk (w1 : Writer) (list : List Rule) (f_list : Bool) (r : Writer) (H : code_writer_rules_raw w1 list = some r) : ACalls Try.prog tab.S 32 [.ptr 0 0 none, .sl 68 (List.map Rule.av list) f_list] [.box 73 [.own 1 1000000], .row 5 (List.map (intA .u8) w1.b) 1000000 true] (.tup []) [.box 73 [.own 1 1000000], .row 5 (List.map (intA .u8) r.b) 1000000 true] := by
  refine .of_AX code_writer_rules_F Try.func32 fun c0 hc0 => ?_
  rw [code_writer_rules_raw] at H
  refine .sg 1 [0,1] (.rg (.sg 4 [0,1,8,11] (bndO H fun v hv H => (.ch [0,1] [0,1] (code_writer_put_ok w1 (IntKind.u64.wrap (((List.map Rule.av list).length : Nat) : Int)) 2 v hv) (.dn (.sg 3 [0,13,14,15] (.tl hc0 [0,1] [0,13,14,15] ?_)))))))
  refine bndO H fun v1 hv H => (.into (.to (code_writer_rules_l0_walk w1 list v f_list r c0 hc0 v1 ?_ list 0 _ rfl rfl v.b hv)))
  obtain rfl := Option.some.inj H
  exact .ret Try.func32 hc0 [0,1]

end Go.Proofs.Ythfidfjogecnpaa

set_option linter.unusedVariables false
set_option linter.unusedSimpArgs false
set_option maxRecDepth 100000
set_option maxHeartbeats 4000000
namespace Go.Proofs.Ythfidfjogecnpaa
open Go.Sh
/-! ### (*podesta/code.reader).get: function 43 -/
noncomputable def code_reader_get_F : Go.Sh.Fn := ⟨43, bodyOf Try.f43, 51⟩
def code_reader_get_l0s : List Int → Int → Int
  | [], n =>
    n
  | x1 :: rest, n =>
    code_reader_get_l0s rest (IntKind.u64.wrap ((BitVec.ofInt 64 (IntKind.u64.wrap (n * 2 ^ (min (8 : Int).toNat (IntKind.u64).bits))) ||| BitVec.ofInt 64 (IntKind.u64.wrap x1)).toNat))
theorem code_reader_get_l0_walk (r2 : Reader) (size : Int) (x : List Int) (r : Int × Reader) (c0 : Ctx) (hc0 : c0.m.length = 1) (res : Int) (J : AX Try.prog tab code_reader_get_F c0 (Rp tab.S c0 (.sc (.int .u64 r.1)) [.box 56 [.sl 5 (List.map (intA .u8) r.2.b) false, .sc (.bool r.2.end_)]]) (some ⟨[.code [1, 1, 1, 1]], [(0, .ptr 0 0 none), (1, .sc (.int .i64 size)), (5, .sc (.int .u64 res))], [.box 56 (Reader.ch r2)]⟩)) :
    ∀ (rest : List Int) (t31 : Nat) (z : Int) (hI : z = ((t31 : Nat) : Int)) (hd : x.drop t31 = rest) (n : Int) (H : code_reader_get_l0s rest n = res), AX Try.prog tab code_reader_get_F c0 (Rp tab.S c0 (.sc (.int .u64 r.1)) [.box 56 [.sl 5 (List.map (intA .u8) r.2.b) false, .sc (.bool r.2.end_)]]) (some ⟨[.code [1, 1, 1, 0, 1, 0, 0], .loop [1, 1, 1, 0, 1, 0], .blk 0, .code [1, 1, 1, 1]], [(0, .ptr 0 0 none), (1, .sc (.int .i64 size)), (5, .sc (.int .u64 n)), (29, .sl 5 (List.map (intA .u8) x) false), (30, .sc (.int .i64 (((List.map (intA .u8) x).length : Nat) : Int))), (31, .sc (.int .i64 z))], [.box 56 (Reader.ch r2)]⟩) := by
  intro rest
  induction rest with
  | nil =>
    intro t31 z hI hd n H
    subst hI
    rw [code_reader_get_l0s] at H
    refine .facts 29 fun hf => ?_
    have hlen : x.length ≤ 9223372036854775807 := by have hq := len_ok hf.2.1; rw [List.length_map] at hq; exact hq
    have hge : x.length ≤ t31 := List.drop_eq_nil_iff.1 hd
    have hc : (decide (((t31 : Nat) : Int) < (((List.map (intA .u8) x).length : Nat) : Int))) = false := by rw [List.length_map]; exact decide_eq_false (by omega)
    refine .sg 3 [0,1,5,29,30,31,32] (.cdF hc (.sg 1 [0,1,5] (.kp [0,1,5] ?_)))
    subst H
    exact .to J
  | cons x1 rest ih =>
    intro t31 z hI hd n H
    subst hI
    rw [code_reader_get_l0s] at H
    refine .facts 29 fun hf => ?_
    have hlen : x.length ≤ 9223372036854775807 := by have hq := len_ok hf.2.1; rw [List.length_map] at hq; exact hq
    obtain ⟨hlt, hv_t31, hd2⟩ := drop_cons hd
    have hc : (decide (((t31 : Nat) : Int) < (((List.map (intA .u8) x).length : Nat) : Int))) = true := by rw [List.length_map]; exact decide_eq_true (by omega)
    have hw : IntKind.i64.wrap (((t31 : Nat) : Int) + 1) = ((t31 + 1 : Nat) : Int) := wrapI_succ (by omega)
    exact .sg 3 [0,1,5,29,30,31,32] (.cdT hc (.sg 4 [0,1,5,29,30,31] (.rg (.xi [0,1,5,29,30,31,33] (intA .u8) hv_t31 (.sg 2 [0,1,5,7,29,30,31] (.dn (.rg (.sg 1 [0,1,7,29,30,31,35] (.sl_ [0,1,7,29,30,31,36] (b := 8) (by decide) (.sg 4 [0,1,5,29,30,31] (.dn (.sg 2 [0,1,5,29,30,31] (.kp [0,1,5,29,30,31] (.into (.cl (ih (t31 + 1) _ hw hd2 (IntKind.u64.wrap ((BitVec.ofInt 64 (IntKind.u64.wrap (n * 2 ^ (min (8 : Int).toNat (IntKind.u64).bits))) ||| BitVec.ofInt 64 (IntKind.u64.wrap x1)).toNat)) H))))))))))))))))

def code_reader_get_raw (r2 : Reader) (size : Int) : Option (Int × Reader) :=
  (bif (r2.end_ || (decide ((((List.map (intA .u8) r2.b).length : Nat) : Int) < size))) then
    some (0, ({ b := r2.b, end_ := true } : Reader))
  else
    (sliceO r2.b none (some size) none).bind fun x =>
    letT (code_reader_get_l0s x 0) fun v =>
    (sliceO r2.b (some size) none none).bind fun x2 =>
    some (v, ({ b := x2, end_ := r2.end_ } : Reader)))
theorem code_reader_get_walk (r2 : Reader) (size : Int) (r : Int × Reader) (H : code_reader_get_raw r2 size = some r) : ACalls Try.prog tab.S 43 [.ptr 0 0 none, .sc (.int .i64 size)] [.box 56 [.sl 5 (List.map (intA .u8) r2.b) false, .sc (.bool r2.end_)]] (.sc (.int .u64 r.1)) [.box 56 [.sl 5 (List.map (intA .u8) r.2.b) false, .sc (.bool r.2.end_)]] := by
  refine .of_AX code_reader_get_F Try.func43 fun c0 hc0 => ?_
  rw [code_reader_get_raw] at H
  refine .sg 4 [0,1] (.rg (.sg 5 [0,1,12] (.mx 1 [0,1,20] (.dn (.cd (r2.end_ || (decide ((((List.map (intA .u8) r2.b).length : Nat) : Int) < size))) H (fun hb H => ?_) (fun hb H => ?_))))))
  ·
    refine .sg 4 [4] ?_
    obtain rfl := Option.some.inj H
    exact .ret Try.func43 hc0 [0]
  ·
    refine .sg 5 [0,1,5] (.rg (.sg 5 [0,1,5,27,28] (bndO H fun x hv H => (.so [0,1,5,29] (intA .u8) hv (.sg 2 [0,1,5,29,30,31] (.dn (.sg 1 [0,1,5,29,30,31] ?_)))))))
    refine letH H fun v hv H => (.into (.to (code_reader_get_l0_walk r2 size x r c0 hc0 v ?_ x 0 _ rfl rfl 0 hv)))
    refine .sg 1 [0,1,5] (.rg (.sg 6 [5,41,45,46] (bndO H fun x2 hv H => (.so [5,41,47] (intA .u8) hv (.sg 3 [5] (.dn (.sg 2 [4] ?_)))))))
    obtain rfl := Option.some.inj H
    exact .ret Try.func43 hc0 [0]

/-! ### (*podesta/code.reader).num: function 20 -/
noncomputable def code_reader_num_F : Go.Sh.Fn := ⟨20, bodyOf Try.f20, 9⟩
def code_reader_num_raw (r2 : Reader) (size : Int) : Option (Int × Reader) :=
  (code_reader_get_raw r2 size).bind fun v =>
  some ((IntKind.i64.wrap v.1), v.2)
theorem code_reader_num_walk (r2 : Reader) (size : Int) (r : Int × Reader) (H : code_reader_num_raw r2 size = some r) : ACalls Try.prog tab.S 20 [.ptr 0 0 none, .sc (.int .i64 size)] [.box 56 [.sl 5 (List.map (intA .u8) r2.b) false, .sc (.bool r2.end_)]] (.sc (.int .i64 r.1)) [.box 56 [.sl 5 (List.map (intA .u8) r.2.b) false, .sc (.bool r.2.end_)]] := by
  refine .of_AX code_reader_num_F Try.func20 fun c0 hc0 => ?_
  rw [code_reader_num_raw] at H
  refine .sg 3 [0,1] (.rg (.sg 2 [5,6] (bndO H fun v hv H => (.ch [7] [0] (code_reader_get_walk r2 size v hv) (.sg 2 [4] (.dn ?_))))))
  obtain rfl := Option.some.inj H
  exact .ret Try.func20 hc0 [0]

/-! ### (*podesta/code.reader).head: function 22 -/
noncomputable def code_reader_head_F : Go.Sh.Fn := ⟨22, bodyOf Try.f22, 14⟩
def code_reader_head_l0s : Nat → Nat → List Int → Bool → List Int → Option ((List Int) × Bool × (List Int))
  | 0, t5, r_0, r_1, h1 =>
    some (r_0, r_1, h1)
  | rest + 1, t5, r_0, r_1, h1 =>
    (code_reader_get_raw ({ b := r_0, end_ := r_1 } : Reader) 8).bind fun v =>
    code_reader_head_l0s rest (t5 + 1) v.2.b v.2.end_ (h1.set (t5) v.1)
theorem code_reader_head_l0_walk (r2 : Reader) (r : (List Int) × Reader) (c0 : Ctx) (hc0 : c0.m.length = 1) (res : (List Int) × Bool × (List Int)) (J : AX Try.prog tab code_reader_head_F c0 (Rp tab.S c0 (.arr .u64 12 r.1) [.box 56 [.sl 5 (List.map (intA .u8) r.2.b) false, .sc (.bool r.2.end_)]]) (some ⟨[.code [1, 1, 1]], [(2, .ptr 1 0 none), (3, .ptr 2 0 none)], [.box 56 [.sl 5 (List.map (intA .u8) res.1) false, .sc (.bool res.2.1)], .box 27 [.arr .u64 12 [0, 0, 0, 0, 0, 0, 0, 0, 0, 0, 0, 0]], .box 27 [.arr .u64 12 res.2.2]]⟩)) :
    ∀ (rest : Nat) (t5 : Nat) (z : Int) (hI : z = ((t5 : Nat) : Int)) (hd : t5 + rest = 12) (r_0 : List Int) (r_1 : Bool) (h1 : List Int) (H : code_reader_head_l0s rest t5 r_0 r_1 h1 = some res), AX Try.prog tab code_reader_head_F c0 (Rp tab.S c0 (.arr .u64 12 r.1) [.box 56 [.sl 5 (List.map (intA .u8) r.2.b) false, .sc (.bool r.2.end_)]]) (some ⟨[.code [1, 1, 0, 1, 0, 0], .loop [1, 1, 0, 1, 0], .blk 0, .code [1, 1, 1]], [(0, .ptr 0 0 none), (2, .ptr 1 0 none), (3, .ptr 2 0 none), (5, .sc (.int .i64 z))], [.box 56 [.sl 5 (List.map (intA .u8) r_0) false, .sc (.bool r_1)], .box 27 [.arr .u64 12 [0, 0, 0, 0, 0, 0, 0, 0, 0, 0, 0, 0]], .box 27 [.arr .u64 12 h1]]⟩) := by
  intro rest
  induction rest with
  | zero =>
    intro t5 z hI hd r_0 r_1 h1 H
    subst hI
    rw [code_reader_head_l0s] at H
    have hc : (decide (((t5 : Nat) : Int) < 12)) = false := decide_eq_false (by omega)
    refine .sg 3 [0,2,3,5,6] (.cdF hc (.sg 1 [2,3] (.kp [2,3] ?_)))
    obtain rfl := Option.some.inj H
    exact .to J
  | succ rest ih =>
    intro t5 z hI hd r_0 r_1 h1 H
    subst hI
    rw [code_reader_head_l0s] at H
    have hlt_t5 : t5 < 12 := by omega
    have hc : (decide (((t5 : Nat) : Int) < 12)) = true := decide_eq_true (by omega)
    have hw : IntKind.i64.wrap (((t5 : Nat) : Int) + 1) = ((t5 + 1 : Nat) : Int) := wrapI_succ (by omega)
    refine .sg 3 [0,2,3,5,6] (.cdT hc (.sg 5 [0,2,3,4,5] (.rg (.sg 2 [0,2,3,5,8,9] (bndO H fun v hv H => (.ch [0,2,3,5,8,10] [0] (code_reader_get_walk ({ b := r_0, end_ := r_1 } : Reader) 8 v hv) ?_))))))
    have hreq := idx_in 12 hlt_t5 (by decide)
    exact .xa [0,2,3,5,10,11] hreq (.sg 1 [0,2,3,5] (.dn (.sg 2 [0,2,3,5] (.kp [0,2,3,5] (.into (.cl (ih (t5 + 1) _ hw (by omega) v.2.b v.2.end_ (h1.set (t5) v.1) H)))))))

def code_reader_head_raw (r2 : Reader) : Option ((List Int) × Reader) :=
  (code_reader_head_l0s 12 0 r2.b r2.end_ [0, 0, 0, 0, 0, 0, 0, 0, 0, 0, 0, 0]).bind fun v =>
  some (v.2.2, ({ b := v.1, end_ := v.2.1 } : Reader))
theorem code_reader_head_walk (r2 : Reader) (r : (List Int) × Reader) (H : code_reader_head_raw r2 = some r) : ACalls Try.prog tab.S 22 [.ptr 0 0 none] [.box 56 [.sl 5 (List.map (intA .u8) r2.b) false, .sc (.bool r2.end_)]] (.arr .u64 12 r.1) [.box 56 [.sl 5 (List.map (intA .u8) r.2.b) false, .sc (.bool r.2.end_)]] := by
  refine .of_AX code_reader_head_F Try.func22 fun c0 hc0 => ?_
  rw [code_reader_head_raw] at H
  refine .sg 8 [0,2,3,5] ?_
  refine bndO H fun v hv H => (.into (.to (code_reader_head_l0_walk r2 r c0 hc0 v ?_ 12 0 _ rfl rfl r2.b r2.end_ [0, 0, 0, 0, 0, 0, 0, 0, 0, 0, 0, 0] hv)))
  refine .sg 2 [2] ?_
  obtain rfl := Option.some.inj H
  exact .ret Try.func22 hc0 [0]

/-! ### (*podesta/code.reader).cube: function 44 -/
noncomputable def code_reader_cube_F : Go.Sh.Fn := ⟨44, bodyOf Try.f44, 8⟩
def code_reader_cube_raw (r2 : Reader) : Option (Cube × Reader) :=
  (code_reader_head_raw r2).bind fun v =>
  (code_reader_head_raw v.2).bind fun v1 =>
  some (({ Value := v.1, Care := v1.1 } : Cube), v1.2)
theorem code_reader_cube_walk (r2 : Reader) (r : Cube × Reader) (H : code_reader_cube_raw r2 = some r) : ACalls Try.prog tab.S 44 [.ptr 0 0 none] [.box 56 [.sl 5 (List.map (intA .u8) r2.b) false, .sc (.bool r2.end_)]] (Cube.av r.1) [.box 56 [.sl 5 (List.map (intA .u8) r.2.b) false, .sc (.bool r.2.end_)]] := by
  refine .of_AX code_reader_cube_F Try.func44 fun c0 hc0 => ?_
  rw [code_reader_cube_raw] at H
  refine .sg 3 [0,2] (.rg (.sg 1 [0,2,3] (bndO H fun v hv H => (.ch [0,2,4] [0] (code_reader_head_walk r2 v hv) (.sg 1 [2,4,5] (bndO H fun v1 hv H => (.ch [2,4,6] [0] (code_reader_head_walk v.2 v1 hv) (.sg 2 [2] (.dn ?_)))))))))
  obtain rfl := Option.some.inj H
  exact .ret Try.func44 hc0 [0]

/-! ### (*podesta/code.reader).acts: function 45 -/
noncomputable def code_reader_acts_F : Go.Sh.Fn := ⟨45, bodyOf Try.f45, 31⟩
def code_reader_acts_l0  : Nat → Int → List Int → Bool → List Act → Option ((List Int) × Bool × (List Act))
  | 0, _, _, _, _ => none
  | m + 1, n, r_0, r_1, out =>
    (bif ((decide (n > 0)) && (!r_1)) then
    (code_reader_num_raw ({ b := r_0, end_ := r_1 } : Reader) 1).bind fun v1 =>
    (code_reader_num_raw v1.2 1).bind fun v2 =>
    (code_reader_num_raw v2.2 1).bind fun v3 =>
    (code_reader_get_raw v3.2 8).bind fun v4 =>
    fitO (out.length + [({ Kind := v1.1, Port := v2.1, Field := v3.1, Value := v4.1 } : Act)].length) 32 (
    code_reader_acts_l0 m (IntKind.i64.wrap (n - 1)) v4.2.b v4.2.end_ (out ++ [({ Kind := v1.1, Port := v2.1, Field := v3.1, Value := v4.1 } : Act)]))
  else
    some (r_0, r_1, out))
theorem code_reader_acts_l0_walk (q0 : Nat) (r2 : Reader) (v : Int × Reader)  (r : (List Act) × Reader) (c0 : Ctx) (hc0 : c0.m.length = 1) (res : (List Int) × Bool × (List Act)) (J : AX Try.prog tab code_reader_acts_F c0 (Rp tab.S c0 (.sl 87 (List.map Act.av r.1) false) [.box 56 [.sl 5 (List.map (intA .u8) r.2.b) false, .sc (.bool r.2.end_)]]) (some ⟨[.code [1, 1, 1]], [(3, .own 1 1000000)], [.box 56 [.sl 5 (List.map (intA .u8) res.1) false, .sc (.bool res.2.1)], .row 87 (List.map Act.av res.2.2) 1000000 true]⟩)) :
    ∀ (m : Nat) (n : Int) (r_0 : List Int) (r_1 : Bool) (out : List Act) (H : code_reader_acts_l0  m n r_0 r_1 out = some res), AX Try.prog tab code_reader_acts_F c0 (Rp tab.S c0 (.sl 87 (List.map Act.av r.1) false) [.box 56 [.sl 5 (List.map (intA .u8) r.2.b) false, .sc (.bool r.2.end_)]]) (some ⟨[.code [1, 1, 0, 1, 0, 0], .loop [1, 1, 0, 1, 0], .blk 0, .code [1, 1, 1]], [(0, .ptr 0 0 none), (3, .own 1 1000000), (4, .sc (.int .i64 n))], [.box 56 [.sl 5 (List.map (intA .u8) r_0) false, .sc (.bool r_1)], .row 87 (List.map Act.av out) 1000000 true]⟩) := by
  intro m
  induction m with
  | zero => intro n r_0 r_1 out H; cases H
  | succ m ih =>
    intro n r_0 r_1 out H
    rw [code_reader_acts_l0] at H
    refine .sg 2 [0,3,4] (.rg (.sg 3 [0,3,4,9] (.mx 0 [0,3,4,15] (.dn (.cd ((decide (n > 0)) && (!r_1)) H (fun hb H => ?_) (fun hb H => ?_))))))
    ·
      exact .sg 3 [0,3,4] (.rg (.sg 2 [0,4,18,19] (bndO H fun v1 hv H => (.ch [0,4,18,20] [0] (code_reader_num_walk ({ b := r_0, end_ := r_1 } : Reader) 1 v1 hv) (.sg 1 [0,4,18,20,21] (bndO H fun v2 hv H => (.ch [0,4,18,20,22] [0] (code_reader_num_walk v1.2 1 v2 hv) (.sg 1 [0,4,18,20,22,23] (bndO H fun v3 hv H => (.ch [0,4,18,20,22,24] [0] (code_reader_num_walk v2.2 1 v3 hv) (.sg 1 [0,4,18,20,22,24,25] (bndO H fun v4 hv H => (.ch [0,4,18,20,22,24,26] [0] (code_reader_get_walk v3.2 8 v4 hv) (.sg 2 [0,4,18,28] (fitH H fun hfit H => (.ap [0,4,29] Act.av hfit (.sg 1 [0,3,4] (.dn (.sg 2 [0,3,4] (.tl hc0 [0,1] [0,3,4] (.into (.to (ih (IntKind.i64.wrap (n - 1)) v4.2.b v4.2.end_ (out ++ [({ Kind := v1.1, Port := v2.1, Field := v3.1, Value := v4.1 } : Act)]) H)))))))))))))))))))))))
    ·
      refine .sg 1 [3] (.kp [3] ?_)
      obtain rfl := Option.some.inj H
      exact .to J
def code_reader_acts_raw (q0 : Nat) (r2 : Reader) : Option ((List Act) × Reader) :=
  (code_reader_num_raw r2 1).bind fun v =>
  (code_reader_acts_l0 q0 v.1 v.2.b v.2.end_ ([] : List Act)).bind fun v1 =>
  some (v1.2.2, ({ b := v1.1, end_ := v1.2.1 } : Reader))
theorem code_reader_acts_walk (q0 : Nat) (r2 : Reader) (r : (List Act) × Reader) (H : code_reader_acts_raw q0 r2 = some r) : ACalls Try.prog tab.S 45 [.ptr 0 0 none] [.box 56 [.sl 5 (List.map (intA .u8) r2.b) false, .sc (.bool r2.end_)]] (.sl 87 (List.map Act.av r.1) false) [.box 56 [.sl 5 (List.map (intA .u8) r.2.b) false, .sc (.bool r.2.end_)]] := by
  refine .of_AX code_reader_acts_F Try.func45 fun c0 hc0 => ?_
  rw [code_reader_acts_raw] at H
  refine .sg 6 [0,3] (.rg (.sg 1 [0,3,5] (bndO H fun v hv H => (.ch [0,3,6] [0] (code_reader_num_walk r2 1 v hv) (.sg 1 [0,3,4] (.dn (.sg 1 [0,3,4] (.ad 3 87 true (.kp [0,3,4] ?_)))))))))
  refine bndO H fun v1 hv H => (.into (.to (code_reader_acts_l0_walk q0 r2 v r c0 hc0 v1 ?_ q0 v.1 v.2.b v.2.end_ ([] : List Act) hv)))
  refine .sg 2 [2] ?_
  obtain rfl := Option.some.inj H
  exact .ret Try.func45 hc0 [0]

/-! ### (*podesta/code.reader).mod: function 21 -/
noncomputable def code_reader_mod_F : Go.Sh.Fn := ⟨21, bodyOf Try.f21, 30⟩
def code_reader_mod_raw (r2 : Reader) : Option (Mod × Bool × Reader) :=
  (code_reader_num_raw r2 1).bind fun v =>
  (code_reader_cube_raw v.2).bind fun v1 =>
  (code_reader_num_raw v1.2 2).bind fun v2 =>
  (code_reader_num_raw v2.2 4).bind fun v3 =>
  (code_reader_num_raw v3.2 4).bind fun v4 =>
  (code_reader_num_raw v4.2 1).bind fun v5 =>
  (code_reader_num_raw v5.2 1).bind fun v6 =>
  (code_reader_acts_raw 300 v6.2).bind fun v7 =>
  some (({ Kind := v.1, Match := v1.1, Prio := v2.1, Acts := v7.1, Idle := v3.1, Hard := v4.1, Owner := v5.1, Check := (v6.1 == 1) } : Mod), (decide (v6.1 ≤ 1)), v7.2)
theorem code_reader_mod_walk (r2 : Reader) (r : Mod × Bool × Reader) (H : code_reader_mod_raw r2 = some r) : ACalls Try.prog tab.S 21 [.ptr 0 0 none] [.box 56 [.sl 5 (List.map (intA .u8) r2.b) false, .sc (.bool r2.end_)]] (.tup [Mod.av r.1, .sc (.bool r.2.1)]) [.box 56 [.sl 5 (List.map (intA .u8) r.2.2.b) false, .sc (.bool r.2.2.end_)]] := by
  refine .of_AX code_reader_mod_F Try.func21 fun c0 hc0 => ?_
  rw [code_reader_mod_raw] at H
  refine .sg 3 [0,2] (.rg (.sg 1 [0,2,6] (bndO H fun v hv H => (.ch [0,2,7] [0] (code_reader_num_walk r2 1 v hv) (.sg 1 [0,2,7,8] (bndO H fun v1 hv H => (.ch [0,2,7,9] [0] (code_reader_cube_walk v.2 v1 hv) (.sg 1 [0,2,7,9,10] (bndO H fun v2 hv H => (.ch [0,2,7,9,11] [0] (code_reader_num_walk v1.2 2 v2 hv) (.sg 1 [0,2,7,9,11,12] (bndO H fun v3 hv H => (.ch [0,2,7,9,11,13] [0] (code_reader_num_walk v2.2 4 v3 hv) (.sg 1 [0,2,7,9,11,13,14] (bndO H fun v4 hv H => (.ch [0,2,7,9,11,13,15] [0] (code_reader_num_walk v3.2 4 v4 hv) (.sg 1 [0,2,7,9,11,13,15,16] (bndO H fun v5 hv H => (.ch [0,2,7,9,11,13,15,17] [0] (code_reader_num_walk v4.2 1 v5 hv) (.sg 3 [0,2,4] (.dn (.sg 1 [0,2,4] (.rg (.sg 1 [0,2,4,19] (bndO H fun v6 hv H => (.ch [0,2,4,20] [0] (code_reader_num_walk v5.2 1 v6 hv) (.sg 1 [0,2,4,5] (.dn (.sg 3 [0,2,4,5] (.rg (.sg 1 [2,4,5,24] (bndO H fun v7 hv H => (.ch [2,4,5,25] [0] ((code_reader_acts_walk 300) v6.2 v7 hv) (.sg 2 [2,4,5] (.dn (.sg 2 [2,3] ?_))))))))))))))))))))))))))))))))))))
  obtain rfl := Option.some.inj H
  exact .ret Try.func21 hc0 [0]

/-! ### (*podesta/code.reader).rules: function 23 -/
noncomputable def code_reader_rules_F : Go.Sh.Fn := ⟨23, bodyOf Try.f23, 44⟩
def code_reader_rules_l0  : Nat → Int → List Int → Bool → List Rule → Option ((List Int) × Bool × (List Rule))
  | 0, _, _, _, _ => none
  | m + 1, n, r_0, r_1, out =>
    (bif ((decide (n > 0)) && (!r_1)) then
    (code_reader_cube_raw ({ b := r_0, end_ := r_1 } : Reader)).bind fun v1 =>
    (code_reader_num_raw v1.2 2).bind fun v2 =>
    (code_reader_num_raw v2.2 4).bind fun v3 =>
    (code_reader_num_raw v3.2 4).bind fun v4 =>
    (code_reader_num_raw v4.2 1).bind fun v5 =>
    (code_reader_num_raw v5.2 8).bind fun v6 =>
    (code_reader_num_raw v6.2 8).bind fun v7 =>
    (code_reader_num_raw v7.2 8).bind fun v8 =>
    (code_reader_acts_raw 300 v8.2).bind fun v9 =>
    fitO (out.length + [({ Match := v1.1, Prio := v2.1, Acts := v9.1, Idle := v3.1, Hard := v4.1, Owner := v5.1, Hits := v6.1, Quiet := v7.1, Age := v8.1 } : Rule)].length) 272 (
    code_reader_rules_l0 m (IntKind.i64.wrap (n - 1)) v9.2.b v9.2.end_ (out ++ [({ Match := v1.1, Prio := v2.1, Acts := v9.1, Idle := v3.1, Hard := v4.1, Owner := v5.1, Hits := v6.1, Quiet := v7.1, Age := v8.1 } : Rule)]))
  else
    some (r_0, r_1, out))
theorem code_reader_rules_l0_walk (q0 : Nat) (r2 : Reader) (v : Int × Reader)  (r : (List Rule) × Reader) (c0 : Ctx) (hc0 : c0.m.length = 1) (res : (List Int) × Bool × (List Rule)) (J : AX Try.prog tab code_reader_rules_F c0 (Rp tab.S c0 (.sl 68 (List.map Rule.av r.1) false) [.box 56 [.sl 5 (List.map (intA .u8) r.2.b) false, .sc (.bool r.2.end_)]]) (some ⟨[.code [1, 1, 1]], [(3, .own 1 1000000)], [.box 56 [.sl 5 (List.map (intA .u8) res.1) false, .sc (.bool res.2.1)], .row 68 (List.map Rule.av res.2.2) 1000000 true]⟩)) :
    ∀ (m : Nat) (n : Int) (r_0 : List Int) (r_1 : Bool) (out : List Rule) (H : code_reader_rules_l0  m n r_0 r_1 out = some res), AX Try.prog tab code_reader_rules_F c0 (Rp tab.S c0 (.sl 68 (List.map Rule.av r.1) false) [.box 56 [.sl 5 (List.map (intA .u8) r.2.b) false, .sc (.bool r.2.end_)]]) (some ⟨[.code [1, 1, 0, 1, 0, 0], .loop [1, 1, 0, 1, 0], .blk 0, .code [1, 1, 1]], [(0, .ptr 0 0 none), (3, .own 1 1000000), (4, .sc (.int .i64 n))], [.box 56 [.sl 5 (List.map (intA .u8) r_0) false, .sc (.bool r_1)], .row 68 (List.map Rule.av out) 1000000 true]⟩) := by
  intro m
  induction m with
  | zero => intro n r_0 r_1 out H; cases H
  | succ m ih =>
    intro n r_0 r_1 out H
    rw [code_reader_rules_l0] at H
    refine .sg 2 [0,3,4] (.rg (.sg 3 [0,3,4,10] (.mx 0 [0,3,4,16] (.dn (.cd ((decide (n > 0)) && (!r_1)) H (fun hb H => ?_) (fun hb H => ?_))))))
    ·
      exact .sg 4 [0,3,4] (.rg (.sg 1 [0,3,4,19] (bndO H fun v1 hv H => (.ch [0,3,4,20] [0] (code_reader_cube_walk ({ b := r_0, end_ := r_1 } : Reader) v1 hv) (.sg 1 [0,3,4,20,21] (bndO H fun v2 hv H => (.ch [0,3,4,20,22] [0] (code_reader_num_walk v1.2 2 v2 hv) (.sg 1 [0,3,4,20,22,23] (bndO H fun v3 hv H => (.ch [0,3,4,20,22,24] [0] (code_reader_num_walk v2.2 4 v3 hv) (.sg 1 [0,3,4,20,22,24,25] (bndO H fun v4 hv H => (.ch [0,3,4,20,22,24,26] [0] (code_reader_num_walk v3.2 4 v4 hv) (.sg 1 [0,3,4,20,22,24,26,27] (bndO H fun v5 hv H => (.ch [0,3,4,20,22,24,26,28] [0] (code_reader_num_walk v4.2 1 v5 hv) (.sg 1 [0,3,4,20,22,24,26,28,29] (bndO H fun v6 hv H => (.ch [0,3,4,20,22,24,26,28,30] [0] (code_reader_num_walk v5.2 8 v6 hv) (.sg 1 [0,3,4,20,22,24,26,28,30,31] (bndO H fun v7 hv H => (.ch [0,3,4,20,22,24,26,28,30,32] [0] (code_reader_num_walk v6.2 8 v7 hv) (.sg 1 [0,3,4,20,22,24,26,28,30,32,33] (bndO H fun v8 hv H => (.ch [0,3,4,20,22,24,26,28,30,32,34] [0] (code_reader_num_walk v7.2 8 v8 hv) (.sg 3 [0,3,4,5] (.dn (.sg 1 [0,3,4,5] (.rg (.sg 1 [0,3,4,5,36] (bndO H fun v9 hv H => (.ch [0,3,4,5,37] [0] ((code_reader_acts_walk 300) v8.2 v9 hv) (.sg 2 [0,3,4,5] (.dn (.rg (.sg 3 [0,4,39,41] (fitH H fun hfit H => (.ap [0,4,42] Rule.av hfit (.sg 1 [0,3,4] (.dn (.sg 2 [0,3,4] (.tl hc0 [0,1] [0,3,4] (.into (.to (ih (IntKind.i64.wrap (n - 1)) v9.2.b v9.2.end_ (out ++ [({ Match := v1.1, Prio := v2.1, Acts := v9.1, Idle := v3.1, Hard := v4.1, Owner := v5.1, Hits := v6.1, Quiet := v7.1, Age := v8.1 } : Rule)]) H)))))))))))))))))))))))))))))))))))))))))))))
    ·
      refine .sg 1 [3] (.kp [3] ?_)
      obtain rfl := Option.some.inj H
      exact .to J
def code_reader_rules_raw (q0 : Nat) (r2 : Reader) : Option ((List Rule) × Reader) :=
  (code_reader_num_raw r2 2).bind fun v =>
  (code_reader_rules_l0 q0 v.1 v.2.b v.2.end_ ([] : List Rule)).bind fun v1 =>
  some (v1.2.2, ({ b := v1.1, end_ := v1.2.1 } : Reader))
theorem code_reader_rules_walk (q0 : Nat) (r2 : Reader) (r : (List Rule) × Reader) (H : code_reader_rules_raw q0 r2 = some r) : ACalls Try.prog tab.S 23 [.ptr 0 0 none] [.box 56 [.sl 5 (List.map (intA .u8) r2.b) false, .sc (.bool r2.end_)]] (.sl 68 (List.map Rule.av r.1) false) [.box 56 [.sl 5 (List.map (intA .u8) r.2.b) false, .sc (.bool r.2.end_)]] := by
  refine .of_AX code_reader_rules_F Try.func23 fun c0 hc0 => ?_
  rw [code_reader_rules_raw] at H
  refine .sg 6 [0,3] (.rg (.sg 1 [0,3,6] (bndO H fun v hv H => (.ch [0,3,7] [0] (code_reader_num_walk r2 2 v hv) (.sg 1 [0,3,4] (.dn (.sg 1 [0,3,4] (.ad 3 68 true (.kp [0,3,4] ?_)))))))))
  refine bndO H fun v1 hv H => (.into (.to (code_reader_rules_l0_walk q0 r2 v r c0 hc0 v1 ?_ q0 v.1 v.2.b v.2.end_ ([] : List Rule) hv)))
  refine .sg 2 [2] ?_
  obtain rfl := Option.some.inj H
  exact .ret Try.func23 hc0 [0]

end Go.Proofs.Ythfidfjogecnpaa

set_option linter.unusedVariables false
set_option linter.unusedSimpArgs false
set_option maxRecDepth 100000
set_option maxHeartbeats 4000000
namespace Go.Proofs.Ythfidfjogecnpaa
open Go.Sh
/-! ### head.there: function 85 -/
noncomputable def head_there_F : Go.Sh.Fn := ⟨85, bodyOf Try.f85, 9⟩
def head_there (n : Int) : Bool :=
  ((decide (n ≥ 0)) && (decide (n < 12)))
theorem head_there_calls (n : Int) : ACalls Try.prog tab.S 85 [.sc (.int .i64 n)] [] (.sc (.bool (head_there n))) [] := by
  generalize H : head_there n = r
  refine .of_AX head_there_F Try.func85 fun c0 hc0 => ?_
  rw [head_there] at H
  refine .sg 3 [0] (.rg (.sg 3 [0,5] (.mx 0 [8] (.sg 1 [2] (.dn ?_)))))
  subst H
  exact .ret Try.func85 hc0

/-! ### head.fields: function 86 -/
noncomputable def head_fields_F : Go.Sh.Fn := ⟨86, bodyOf Try.f86, 14⟩
def head_fields : (List Field) :=
  [({ name := (ByteArray.mk #[105, 110]), size := 16 } : Field), ({ name := (ByteArray.mk #[101, 115, 114, 99]), size := 48 } : Field), ({ name := (ByteArray.mk #[101, 100, 115, 116]), size := 48 } : Field), ({ name := (ByteArray.mk #[101, 116, 121, 112, 101]), size := 16 } : Field), ({ name := (ByteArray.mk #[118, 108, 97, 110]), size := 12 } : Field), ({ name := (ByteArray.mk #[112, 99, 112]), size := 4 } : Field), ({ name := (ByteArray.mk #[115, 114, 99]), size := 32 } : Field), ({ name := (ByteArray.mk #[100, 115, 116]), size := 32 } : Field), ({ name := (ByteArray.mk #[112, 114, 111, 116, 111]), size := 8 } : Field), ({ name := (ByteArray.mk #[116, 111, 115]), size := 8 } : Field), ({ name := (ByteArray.mk #[115, 112, 111, 114, 116]), size := 12 } : Field), ({ name := (ByteArray.mk #[100, 112, 111, 114, 116]), size := 12 } : Field)]
theorem head_fields_calls : ACalls Try.prog tab.S 86 [] [] (.agg (List.flatMap Field.ch (head_fields))) [] := by
  generalize H : head_fields = r
  refine .of_AX head_fields_F Try.func86 fun c0 hc0 => ?_
  rw [head_fields] at H
  refine .sg 4 [0] ?_
  subst H
  exact .ret Try.func86 hc0

/-! ### head.Size: function 80 -/
noncomputable def head_Size_F : Go.Sh.Fn := ⟨80, bodyOf Try.f80, 10⟩
def head_Size_raw (n : Int) : Option (Int) :=
  (bif (!(head_there n)) then
    some 0
  else
    (ixO head_fields n).bind fun x =>
    some x.size)
theorem head_Size_walk (n : Int) (r : Int) (H : head_Size_raw n = some r) : ACalls Try.prog tab.S 80 [.sc (.int .i64 n)] [] (.sc (.int .i64 r)) [] := by
  refine .of_AX head_Size_F Try.func80 fun c0 hc0 => ?_
  rw [head_Size_raw] at H
  refine .sg 4 [0] (.rg (.sg 1 [0,3] (.cp [0,4] (head_there_calls n) (.sg 1 [0,5] (.dn (.cd (!(head_there n)) H (fun hb H => ?_) (fun hb H => ?_)))))))
  ·
    refine .sg 2 [2] ?_
    obtain rfl := Option.some.inj H
    exact .ret Try.func80 hc0
  ·
    refine .sg 2 [0] (.rg (.cp [0,6] (head_fields_calls) (.sg 1 [6,7] (bndO H fun x hv H => (.xr [8] head_fields Field.ch 2 hv (.fd [9] (.sg 1 [2] (.dn ?_))))))))
    obtain rfl := Option.some.inj H
    exact .ret Try.func80 hc0

theorem head_Size_ok (n : Int) : ACalls Try.prog tab.S 80 [.sc (.int .i64 n)] [] (.sc (.int .i64 (sizeT n))) [] := by
  refine head_Size_walk n (sizeT n) ?_
  rw [head_Size_raw, head_there]
  rcases sizeT_cases n with ⟨h, e⟩ | ⟨h1, h2, k, rfl, hk, e⟩
  · rw [e]
    have : (decide (n ≥ 0) && decide (n < 12)) = false := by
      rw [Bool.and_eq_false_iff, decide_eq_false_iff_not, decide_eq_false_iff_not]; omega
    rw [this]
    rfl
  · rw [e, decide_eq_true h1, decide_eq_true h2]
    match k, hk with
    | 0, _ | 1, _ | 2, _ | 3, _ | 4, _ | 5, _ | 6, _ | 7, _ | 8, _ | 9, _ | 10, _ | 11, _ => rfl

/-! ### head.fits: function 70 -/
noncomputable def head_fits_F : Go.Sh.Fn := ⟨70, bodyOf Try.f70, 10⟩
def head_fits_raw (n : Int) (v : Int) : Option (Bool) :=
  reqO (decide (0 ≤ (sizeT n))) (
  some ((Int.fdiv v (2 ^ (min ((sizeT n) : Int).toNat (IntKind.u64).bits))) == 0))
theorem head_fits_walk (n : Int) (v : Int) (r : Bool) (H : head_fits_raw n v = some r) : ACalls Try.prog tab.S 70 [.sc (.int .i64 n), .sc (.int .u64 v)] [] (.sc (.bool r)) [] := by
  refine .of_AX head_fits_F Try.func70 fun c0 hc0 => ?_
  rw [head_fits_raw] at H
  refine .sg 3 [0,1] (.rg (.sg 2 [5,6] (.cp [5,7] (head_Size_ok n) (reqH H fun hreq H => (.sr_ [8] (b := (sizeT n)) hreq (.sg 2 [4] (.dn ?_)))))))
  obtain rfl := Option.some.inj H
  exact .ret Try.func70 hc0

theorem fits_fdiv {n v : Int} : (Int.fdiv v (2 ^ (min (sizeT n).toNat (IntKind.u64).bits)) == 0) = (decide (0 ≤ v) && fitsT n v) := by
  have hs := sizeT_in n
  have hm : min (sizeT n).toNat (IntKind.u64).bits = (sizeT n).toNat := Nat.min_eq_left (by show _ ≤ 64; omega)
  rw [hm]
  have hp := pow_pos2 (sizeT n).toNat
  unfold fitsT
  rw [Bool.eq_iff_iff, Bool.and_eq_true, decide_eq_true_eq, decide_eq_true_eq, beq_iff_eq]
  rw [Int.fdiv_eq_ediv_of_nonneg _ (Int.le_of_lt hp)]
  constructor
  · intro h
    have h1 := Int.mul_ediv_add_emod v ((2 : Int) ^ (sizeT n).toNat)
    have h2 := Int.emod_nonneg v (Int.ne_of_gt hp)
    have h3 := Int.emod_lt_of_pos v hp
    rw [h, Int.mul_zero, Int.zero_add] at h1
    rw [h1] at h2 h3
    exact ⟨h2, h3⟩
  · intro h
    exact Int.ediv_eq_zero_of_lt h.1 h.2
def fitsH (n v : Int) : Bool := decide (0 ≤ v) && fitsT n v
theorem head_fits_ok (n v : Int) : ACalls Try.prog tab.S 70 [.sc (.int .i64 n), .sc (.int .u64 v)] [] (.sc (.bool (fitsH n v))) [] := by
  refine head_fits_walk n v _ ?_
  rw [head_fits_raw, reqO_eq (decide_eq_true (sizeT_in n).1), fits_fdiv]
  rfl

/-! ### head.Set: function 84 -/
noncomputable def head_Set_F : Go.Sh.Fn := ⟨84, bodyOf Try.f84, 23⟩
def head_Set_raw (h1 : List Int) (n : Int) (v : Int) : Option ((List Int) × Int) :=
  (bif (!(head_there n)) then
    some ([0, 0, 0, 0, 0, 0, 0, 0, 0, 0, 0, 0], 1)
  else
    (bif (!(fitsH n v)) then
      some ([0, 0, 0, 0, 0, 0, 0, 0, 0, 0, 0, 0], 13)
    else
      reqO (decide (0 ≤ n) && decide (n < ((12 : Nat) : Int))) (
      some ((h1.set (n.toNat) v), 0))))
theorem head_Set_walk (h1 : List Int) (n : Int) (v : Int) (r : (List Int) × Int) (H : head_Set_raw h1 n v = some r) : ACalls Try.prog tab.S 84 [.arr .u64 12 h1, .sc (.int .i64 n), .sc (.int .u64 v)] [] (.tup [.arr .u64 12 r.1, .sc (.int .i64 r.2)]) [] := by
  refine .of_AX head_Set_F Try.func84 fun c0 hc0 => ?_
  rw [head_Set_raw] at H
  refine .sg 5 [1,2,3,6] (.rg (.sg 1 [1,2,3,6,9] (.cp [1,2,3,6,10] (head_there_calls n) (.sg 2 [1,2,3,6,8] (.dn (.cd (!(head_there n)) H (fun hb H => ?_) (fun hb H => ?_)))))))
  ·
    refine .sg 2 [6,7] ?_
    obtain rfl := Option.some.inj H
    exact .ret Try.func84 hc0
  ·
    refine .sg 1 [1,2,3,6] (.rg (.sg 2 [1,2,3,6,14,15] (.cp [1,2,3,6,16] (head_fits_ok n v) (.sg 2 [1,2,3,6,13] (.dn (.cd (!(fitsH n v)) H (fun hb H => ?_) (fun hb H => ?_)))))))
    ·
      refine .sg 2 [6,7] ?_
      obtain rfl := Option.some.inj H
      exact .ret Try.func84 hc0
    ·
      refine .sg 3 [1,2,3,6] (.rg (.sg 2 [3,6,19,20] (reqH H fun hreq H => (.xa [3,6,20,21] hreq (.sg 1 [3,6] (.dn (.sg 2 [6,7] ?_)))))))
      obtain rfl := Option.some.inj H
      exact .ret Try.func84 hc0

def setT_ (h : List Int) (n v : Int) : List Int × Int :=
  if head_there n then (if fitsH n v then (h.set n.toNat v, 0) else ([0, 0, 0, 0, 0, 0, 0, 0, 0, 0, 0, 0], 13)) else ([0, 0, 0, 0, 0, 0, 0, 0, 0, 0, 0, 0], 1)
theorem head_Set_ok (h : List Int) (n v : Int) : ACalls Try.prog tab.S 84 [.arr .u64 12 h, .sc (.int .i64 n), .sc (.int .u64 v)] [] (.tup [.arr .u64 12 (setT_ h n v).1, .sc (.int .i64 (setT_ h n v).2)]) [] := by
  refine head_Set_walk h n v (setT_ h n v) ?_
  rw [head_Set_raw]
  unfold setT_
  cases ht : head_there n
  · rfl
  · cases hf : fitsH n v
    · rfl
    · have hn : (decide (0 ≤ n) && decide (n < ((12 : Nat) : Int))) = true := ht
      simp only [Bool.not_true, cond_false, if_true]
      rw [reqO_eq hn]

/-! ### head.Sound: function 58 -/
noncomputable def head_Sound_F : Go.Sh.Fn := ⟨58, bodyOf Try.f58, 15⟩
def head_Sound_l0s (h1 : List Int) : Nat → Nat → Sum (Unit) (Bool)
  | 0, t6 =>
    (.inl ())
  | rest + 1, t6 =>
    (bif (!(fitsH ((t6 : Nat) : Int) (h1.getD t6 0))) then
      (.inr false)
    else
      head_Sound_l0s h1 rest (t6 + 1) )
theorem head_Sound_l0_walk (h1 : List Int) (r : Bool) (c0 : Ctx) (hc0 : c0.m.length = 0) (res : Sum (Unit) (Bool)) (J : ∀ w : Unit, res = .inl w → AX Try.prog tab head_Sound_F c0 (Rp tab.S c0 (.sc (.bool r)) []) (some ⟨[.code [1, 1]], [], [.box 27 [.arr .u64 12 h1]]⟩)) (Jr : ∀ w, res = .inr w → w = r) :
    ∀ (rest : Nat) (t6 : Nat) (z : Int) (hI : z = ((t6 : Nat) : Int)) (hd : t6 + rest = 12) (H : head_Sound_l0s h1 rest t6 = res), AX Try.prog tab head_Sound_F c0 (Rp tab.S c0 (.sc (.bool r)) []) (some ⟨[.code [1, 0, 1, 0, 0], .loop [1, 0, 1, 0], .blk 0, .code [1, 1]], [(5, .arr .u64 12 h1), (6, .sc (.int .i64 z))], [.box 27 [.arr .u64 12 h1]]⟩) := by
  intro rest
  induction rest with
  | zero =>
    intro t6 z hI hd  H
    subst hI
    rw [head_Sound_l0s] at H
    have hc : (decide (((t6 : Nat) : Int) < 12)) = false := decide_eq_false (by omega)
    exact .sg 3 [5,6,7] (.cdF hc (.sg 1 [] (.kp [] (.to (J () H.symm)))))
  | succ rest ih =>
    intro t6 z hI hd  H
    subst hI
    rw [head_Sound_l0s] at H
    have hlt_t6 : t6 < 12 := by omega
    have hc : (decide (((t6 : Nat) : Int) < 12)) = true := decide_eq_true (by omega)
    have hw : IntKind.i64.wrap (((t6 : Nat) : Int) + 1) = ((t6 + 1 : Nat) : Int) := wrapI_succ (by omega)
    refine .sg 3 [5,6,7] (.cdT hc (.sg 4 [5,6] (.rg (.sg 1 [5,6,8] ?_))))
    have hreq := idx_in 12 hlt_t6 (by decide)
    refine .xv [5,6,8,9] hreq (.sg 2 [3,4,5,6] (.dn (.sg 1 [3,4,5,6] (.rg (.sg 2 [5,6,10,11] (.cp [5,6,12] (head_fits_ok ((t6 : Nat) : Int) (h1.getD t6 0)) (.sg 1 [5,6,13] (.dn (.cd (!(fitsH ((t6 : Nat) : Int) (h1.getD t6 0))) H (fun hb H => ?_) (fun hb H => ?_))))))))))
    ·
      refine .sg 2 [2] ?_
      subst H
      obtain rfl := Jr _ rfl
      exact .ret Try.func58 hc0
    ·
      exact .sg 3 [5,6] (.kp [5,6] (.into (.cl (ih (t6 + 1) _ hw (by omega) H))))

def head_Sound (h1 : List Int) : Bool :=
  sumG (fun q => q) (head_Sound_l0s h1 12 0) fun v =>
  true
theorem head_Sound_calls (h1 : List Int) : ACalls Try.prog tab.S 58 [.arr .u64 12 h1] [] (.sc (.bool (head_Sound h1))) [] := by
  generalize H : head_Sound h1 = r
  refine .of_AX head_Sound_F Try.func58 fun c0 hc0 => ?_
  rw [head_Sound] at H
  refine .sg 6 [5,6] ?_
  rcases sumG_eq H with ⟨v, hv, H⟩ | ⟨r1, hv, hr1⟩
  case inr =>
    refine .into ?_
    replace hr1 : r1 = r := hr1
    subst hr1
    exact .to (head_Sound_l0_walk h1 _ c0 hc0 (.inr _) (fun _ e => by cases e) (fun _ e => (Sum.inr.inj e).symm) 12 0 _ rfl rfl hv)
  refine .into (.to (head_Sound_l0_walk h1 r c0 hc0 (.inl v) (fun w e => ?_) (fun _ e => by cases e) 12 0 _ rfl rfl hv))
  have e := Sum.inl.inj e
  subst e
  refine .sg 2 [2] ?_
  subst H
  exact .ret Try.func58 hc0

/-! ### cube.Sound: function 66 -/
noncomputable def cube_Sound_F : Go.Sh.Fn := ⟨66, bodyOf Try.f66, 23⟩
def cube_Sound_l0s (c : Cube) : Nat → Nat → Sum (Unit) (Bool)
  | 0, t11 =>
    (.inl ())
  | rest + 1, t11 =>
    (bif ((IntKind.u64.wrap ((BitVec.ofInt 64 (c.Value.getD t11 0) &&& ~~~ (BitVec.ofInt 64 (c.Care.getD (t11) 0))).toNat)) != 0) then
      (.inr false)
    else
      cube_Sound_l0s c rest (t11 + 1) )
theorem cube_Sound_l0_walk (c : Cube) (r : Bool) (c0 : Ctx) (hc0 : c0.m.length = 0) (res : Sum (Unit) (Bool)) (J : ∀ w : Unit, res = .inl w → AX Try.prog tab cube_Sound_F c0 (Rp tab.S c0 (.sc (.bool r)) []) (some ⟨[.code [1, 1, 1]], [], [.box 29 (Cube.ch c)]⟩)) (Jr : ∀ w, res = .inr w → w = r) :
    ∀ (rest : Nat) (t11 : Nat) (z : Int) (hI : z = ((t11 : Nat) : Int)) (hd : t11 + rest = 12) (H : cube_Sound_l0s c rest t11 = res), AX Try.prog tab cube_Sound_F c0 (Rp tab.S c0 (.sc (.bool r)) []) (some ⟨[.code [1, 1, 0, 1, 0, 0], .loop [1, 1, 0, 1, 0], .blk 0, .code [1, 1, 1]], [(1, .ptr 0 0 none), (10, .arr .u64 12 c.Value), (11, .sc (.int .i64 z))], [.box 29 (Cube.ch c)]⟩) := by
  intro rest
  induction rest with
  | zero =>
    intro t11 z hI hd  H
    subst hI
    rw [cube_Sound_l0s] at H
    have hc : (decide (((t11 : Nat) : Int) < 12)) = false := decide_eq_false (by omega)
    exact .sg 3 [1,10,11,12] (.cdF hc (.sg 1 [] (.kp [] (.to (J () H.symm)))))
  | succ rest ih =>
    intro t11 z hI hd  H
    subst hI
    rw [cube_Sound_l0s] at H
    have hlt_t11 : t11 < 12 := by omega
    have hc : (decide (((t11 : Nat) : Int) < 12)) = true := decide_eq_true (by omega)
    have hw : IntKind.i64.wrap (((t11 : Nat) : Int) + 1) = ((t11 + 1 : Nat) : Int) := wrapI_succ (by omega)
    refine .sg 3 [1,10,11,12] (.cdT hc (.sg 4 [1,10,11] (.rg (.sg 1 [1,10,11,13] ?_))))
    have hreq := idx_in 12 hlt_t11 (by decide)
    refine .xv [1,10,11,13,14] hreq (.sg 2 [1,3,4,10,11] (.dn (.sg 1 [1,3,4,10,11] (.rg (.sg 3 [1,10,11,15,16,17] ?_)))))
    have hreq := idx_in 12 hlt_t11 (by decide)
    refine .xa [1,10,11,15,18] hreq (.sg 3 [1,10,11,21] (.dn (.cd ((IntKind.u64.wrap ((BitVec.ofInt 64 (c.Value.getD t11 0) &&& ~~~ (BitVec.ofInt 64 (c.Care.getD (t11) 0))).toNat)) != 0) H (fun hb H => ?_) (fun hb H => ?_))))
    ·
      refine .sg 2 [2] ?_
      subst H
      obtain rfl := Jr _ rfl
      exact .ret Try.func66 hc0
    ·
      exact .sg 3 [1,10,11] (.kp [1,10,11] (.into (.cl (ih (t11 + 1) _ hw (by omega) H))))

def cube_Sound (c : Cube) : Bool :=
  (bif (!(head_Sound c.Care)) then
    false
  else
    sumG (fun q => q) (cube_Sound_l0s c 12 0) fun v =>
    true)
theorem cube_Sound_calls (c : Cube) : ACalls Try.prog tab.S 66 [Cube.av c] [] (.sc (.bool (cube_Sound c))) [] := by
  generalize H : cube_Sound c = r
  refine .of_AX cube_Sound_F Try.func66 fun c0 hc0 => ?_
  rw [cube_Sound] at H
  refine .sg 4 [1] (.rg (.sg 2 [1,6] (.cp [1,7] (head_Sound_calls c.Care) (.sg 1 [1,8] (.dn (.cd (!(head_Sound c.Care)) H (fun hb H => ?_) (fun hb H => ?_)))))))
  ·
    refine .sg 2 [2] ?_
    subst H
    exact .ret Try.func66 hc0
  ·
    refine .sg 5 [1,10,11] ?_
    rcases sumG_eq H with ⟨v, hv, H⟩ | ⟨r1, hv, hr1⟩
    case inr =>
      refine .into ?_
      replace hr1 : r1 = r := hr1
      subst hr1
      exact .to (cube_Sound_l0_walk c _ c0 hc0 (.inr _) (fun _ e => by cases e) (fun _ e => (Sum.inr.inj e).symm) 12 0 _ rfl rfl hv)
    refine .into (.to (cube_Sound_l0_walk c r c0 hc0 (.inl v) (fun w e => ?_) (fun _ e => by cases e) 12 0 _ rfl rfl hv))
    have e := Sum.inl.inj e
    subst e
    refine .sg 2 [2] ?_
    subst H
    exact .ret Try.func66 hc0

/-! ### act.sound: function 79 -/
noncomputable def act_sound_F : Go.Sh.Fn := ⟨79, bodyOf Try.f79, 48⟩
def act_sound (a : Act) : Bool :=
  (bif (a.Kind == 1) then
    ((((decide (a.Port ≥ 1)) && (decide (a.Port ≤ 16))) && (a.Field == 0)) && (a.Value == 0))
  else
    (bif (a.Kind == 2) then
      (((setT_ [0, 0, 0, 0, 0, 0, 0, 0, 0, 0, 0, 0] a.Field a.Value).2 == 0) && (a.Port == 0))
    else
      ((a.Kind == 3) && ((a.Port == 0) && ((a.Field == 0) && (a.Value == 0))))))
theorem act_sound_calls (a : Act) : ACalls Try.prog tab.S 79 [Act.av a] [] (.sc (.bool (act_sound a))) [] := by
  generalize H : act_sound a = r
  refine .of_AX act_sound_F Try.func79 fun c0 hc0 => ?_
  rw [act_sound] at H
  refine .sg 8 [1,6,7] (.cd (a.Kind == 1) H (fun hb H => ?_) (fun hb H => ?_))
  ·
    refine .sg 1 [1] (.rg (.sg 4 [1,12] (.mx 0 [1,16] (.sg 1 [1,17] (.mx 0 [1,21] (.sg 1 [1,22] (.mx 0 [26] (.sg 1 [2] (.dn ?_)))))))))
    subst H
    exact .ret Try.func79 hc0
  ·
    refine .sg 2 [1,27] (.cd (a.Kind == 2) H (fun hb H => ?_) (fun hb H => ?_))
    ·
      refine .sg 1 [1] (.rg (.sg 5 [1,30,32,34] (.cp [1,35] (head_Set_ok [0, 0, 0, 0, 0, 0, 0, 0, 0, 0, 0, 0] a.Field a.Value) (.sg 6 [1,4] (.dn (.sg 1 [1,4] (.rg (.sg 3 [1,40] (.mx 0 [44] (.sg 1 [2] (.dn ?_)))))))))))
      subst H
      exact .ret Try.func79 hc0
    ·
      refine .sg 3 [1] (.rg (.sg 2 [45,46] (.eq_ [47] 9 (.sg 1 [2] (.dn ?_)))))
      subst H
      exact .ret Try.func79 hc0

/-! ### slices.IndexFunc: function 83 -/
noncomputable def slices_IndexFunc__api_Act_F : Go.Sh.Fn := ⟨83, bodyOf Try.f83, 19⟩
def slices_IndexFunc__api_Act_l0s (f : Act → Bool) : List Act → Nat → Sum (Unit) (Int)
  | [], t8 =>
    (.inl ())
  | x :: rest, t8 =>
    (bif (f x) then
      (.inr ((t8 : Nat) : Int))
    else
      slices_IndexFunc__api_Act_l0s f rest (t8 + 1) )
theorem slices_IndexFunc__api_Act_l0_walk (s : List Act) (F_f : FuncId) (C_f : List AV) (f : Act → Bool) (P_f : plainL C_f = true) (O_f : C_f.all oneA = true) (H_f : ∀ (y0 : Act), ACalls Try.prog tab.S F_f ([Act.av y0] ++ C_f) [] (.sc (.bool (f y0))) []) (f_s : Bool) (r : Int) (c0 : Ctx) (hc0 : c0.m.length = 0) (res : Sum (Unit) (Int)) (J : ∀ w : Unit, res = .inl w → AX Try.prog tab slices_IndexFunc__api_Act_F c0 (Rp tab.S c0 (.sc (.int .i64 r)) []) (some ⟨[.code [1, 1]], [], []⟩)) (Jr : ∀ w, res = .inr w → w = r) :
    ∀ (rest : List Act) (t8 : Nat) (z : Int) (hI : z = ((t8 : Nat) : Int)) (hd : s.drop t8 = rest) (H : slices_IndexFunc__api_Act_l0s f rest t8 = res), AX Try.prog tab slices_IndexFunc__api_Act_F c0 (Rp tab.S c0 (.sc (.int .i64 r)) []) (some ⟨[.code [1, 0, 1, 0, 0], .loop [1, 0, 1, 0], .blk 0, .code [1, 1]], [(0, .sl 87 (List.map Act.av s) f_s), (1, .fn F_f C_f), (7, .sc (.int .i64 (((List.map Act.av s).length : Nat) : Int))), (8, .sc (.int .i64 z))], []⟩) := by
  intro rest
  induction rest with
  | nil =>
    intro t8 z hI hd  H
    subst hI
    rw [slices_IndexFunc__api_Act_l0s] at H
    refine .facts 0 fun hf => ?_
    have hlen : s.length ≤ 9223372036854775807 := by have hq := len_ok hf.2.1; rw [List.length_map] at hq; exact hq
    have hge : s.length ≤ t8 := List.drop_eq_nil_iff.1 hd
    have hc : (decide (((t8 : Nat) : Int) < (((List.map Act.av s).length : Nat) : Int))) = false := by rw [List.length_map]; exact decide_eq_false (by omega)
    exact .sg 3 [0,1,7,8,9] (.cdF hc (.sg 1 [] (.kp [] (.to (J () H.symm)))))
  | cons x rest ih =>
    intro t8 z hI hd  H
    subst hI
    rw [slices_IndexFunc__api_Act_l0s] at H
    refine .facts 0 fun hf => ?_
    have hlen : s.length ≤ 9223372036854775807 := by have hq := len_ok hf.2.1; rw [List.length_map] at hq; exact hq
    obtain ⟨hlt, hv_t8, hd2⟩ := drop_cons hd
    have hc : (decide (((t8 : Nat) : Int) < (((List.map Act.av s).length : Nat) : Int))) = true := by rw [List.length_map]; exact decide_eq_true (by omega)
    have hw : IntKind.i64.wrap (((t8 : Nat) : Int) + 1) = ((t8 + 1 : Nat) : Int) := wrapI_succ (by omega)
    refine .sg 3 [0,1,7,8,9] (.cdT hc (.sg 6 [0,1,5,7,8] (.rg (.sg 3 [0,1,5,7,8,11,12,13] (.xi [0,1,5,7,8,11,14] Act.av hv_t8 (.sg 1 [0,1,5,7,8,11,15] (.cf [0,1,5,7,8,16] (H_f x) P_f O_f (.dn (.cd (f x) H (fun hb H => ?_) (fun hb H => ?_))))))))))
    ·
      refine .sg 2 [4] ?_
      subst H
      obtain rfl := Jr _ rfl
      exact .ret Try.func83 hc0
    ·
      exact .sg 3 [0,1,7,8] (.kp [0,1,7,8] (.into (.cl (ih (t8 + 1) _ hw hd2 H))))

def slices_IndexFunc__api_Act (s : List Act) (f : Act → Bool) : Int :=
  sumG (fun q => q) (slices_IndexFunc__api_Act_l0s f s 0) fun v =>
  (-1)
theorem slices_IndexFunc__api_Act_calls (s : List Act) (F_f : FuncId) (C_f : List AV) (f : Act → Bool) (P_f : plainL C_f = true) (O_f : C_f.all oneA = true) (H_f : ∀ (y0 : Act), ACalls Try.prog tab.S F_f ([Act.av y0] ++ C_f) [] (.sc (.bool (f y0))) []) (f_s : Bool) : ACalls Try.prog tab.S 83 [.sl 87 (List.map Act.av s) f_s, .fn F_f C_f] [] (.sc (.int .i64 (slices_IndexFunc__api_Act s f))) [] := by
  generalize H : slices_IndexFunc__api_Act s f = r
  refine .of_AX slices_IndexFunc__api_Act_F Try.func83 fun c0 hc0 => ?_
  rw [slices_IndexFunc__api_Act] at H
  refine .sg 6 [0,1,7,8] ?_
  rcases sumG_eq H with ⟨v, hv, H⟩ | ⟨r1, hv, hr1⟩
  case inr =>
    refine .into ?_
    replace hr1 : r1 = r := hr1
    subst hr1
    exact .to (slices_IndexFunc__api_Act_l0_walk s F_f C_f f P_f O_f H_f f_s _ c0 hc0 (.inr _) (fun _ e => by cases e) (fun _ e => (Sum.inr.inj e).symm) s 0 _ rfl rfl hv)
  refine .into (.to (slices_IndexFunc__api_Act_l0_walk s F_f C_f f P_f O_f H_f f_s r c0 hc0 (.inl v) (fun w e => ?_) (fun _ e => by cases e) s 0 _ rfl rfl hv))
  have e := Sum.inl.inj e
  subst e
  refine .sg 2 [4] ?_
  subst H
  exact .ret Try.func83 hc0

theorem slices_IndexFunc__api_Act_l0s_eq (f : Act → Bool) : ∀ (l : List Act) (i : Nat), slices_IndexFunc__api_Act_l0s f l i = match l.findIdx? f with | some k => .inr ((i + k : Nat) : Int) | none => .inl ()
  | [], i => rfl
  | x :: l, i => by
      rw [slices_IndexFunc__api_Act_l0s, List.findIdx?_cons, slices_IndexFunc__api_Act_l0s_eq f l (i + 1)]
      cases f x
      · simp only [cond_false, Bool.false_eq_true, if_false]
        cases l.findIdx? f with
        | none => rfl
        | some k => simp only [Option.map_some]; rw [show i + 1 + k = i + (k + 1) by omega]
      · rfl
theorem slices_IndexFunc__api_Act_idx (s : List Act) (f : Act → Bool) : slices_IndexFunc__api_Act s f = idxF f s := by
  rw [slices_IndexFunc__api_Act, slices_IndexFunc__api_Act_l0s_eq]
  unfold idxF sumG
  cases s.findIdx? f with
  | none => rfl
  | some k => simp only [Nat.zero_add]

/-! ### slices.ContainsFunc: function 77 -/
noncomputable def slices_ContainsFunc__api_Act_F : Go.Sh.Fn := ⟨77, bodyOf Try.f77, 9⟩
def slices_ContainsFunc__api_Act (s : List Act) (f : Act → Bool) : Bool :=
  (decide ((slices_IndexFunc__api_Act s f) ≥ 0))
theorem slices_ContainsFunc__api_Act_calls (s : List Act) (F_f : FuncId) (C_f : List AV) (f : Act → Bool) (P_f : plainL C_f = true) (O_f : C_f.all oneA = true) (H_f : ∀ (y0 : Act), ACalls Try.prog tab.S F_f ([Act.av y0] ++ C_f) [] (.sc (.bool (f y0))) []) (f_s : Bool) : ACalls Try.prog tab.S 77 [.sl 87 (List.map Act.av s) f_s, .fn F_f C_f] [] (.sc (.bool (slices_ContainsFunc__api_Act s f))) [] := by
  generalize H : slices_ContainsFunc__api_Act s f = r
  refine .of_AX slices_ContainsFunc__api_Act_F Try.func77 fun c0 hc0 => ?_
  rw [slices_ContainsFunc__api_Act] at H
  refine .sg 3 [0,1] (.rg (.sg 2 [5,6] (.cl_ [7] (caps := []) (slices_IndexFunc__api_Act_calls s F_f C_f f P_f O_f H_f f_s) (.same rfl (.fn (caps := C_f) (lendC_plain C_f P_f) .nil)) (by kernel_rfl) rfl rfl (.sg 2 [4] (.dn ?_)))))
  subst H
  exact .ret Try.func77 hc0

theorem slices_ContainsFunc__api_Act_any (s : List Act) (f : Act → Bool) : slices_ContainsFunc__api_Act s f = s.any f := by
  rw [slices_ContainsFunc__api_Act, slices_IndexFunc__api_Act_idx, idxF_any]

/-! ### act.Sound$1: function 78 -/
noncomputable def act_Sound_1_F : Go.Sh.Fn := ⟨78, bodyOf Try.f78, 6⟩
def act_Sound_1 (a : Act) : Bool :=
  (!(act_sound a))
theorem act_Sound_1_calls (a : Act) : ACalls Try.prog tab.S 78 [Act.av a] [] (.sc (.bool (act_Sound_1 a))) [] := by
  generalize H : act_Sound_1 a = r
  refine .of_AX act_Sound_1_F Try.func78 fun c0 hc0 => ?_
  rw [act_Sound_1] at H
  refine .sg 3 [1] (.rg (.sg 1 [3] (.cp [4] (act_sound_calls a) (.sg 2 [2] (.dn ?_)))))
  subst H
  exact .ret Try.func78 hc0

/-! ### act.Sound: function 67 -/
noncomputable def act_Sound_F : Go.Sh.Fn := ⟨67, bodyOf Try.f67, 11⟩
def act_Sound (list : List Act) : Bool :=
  ((decide ((((List.map Act.av list).length : Nat) : Int) ≤ 8)) && (!(slices_ContainsFunc__api_Act list act_Sound_1)))
theorem act_Sound_calls (list : List Act) (f_list : Bool) : ACalls Try.prog tab.S 67 [.sl 87 (List.map Act.av list) f_list] [] (.sc (.bool (act_Sound list))) [] := by
  generalize H : act_Sound list = r
  refine .of_AX act_Sound_F Try.func67 fun c0 hc0 => ?_
  rw [act_Sound] at H
  refine .sg 3 [0] (.rg (.sg 4 [0,6] (.mm 6 (decide ((((List.map Act.av list).length : Nat) : Int) ≤ 8)) 4 [.pure, .pure, .read, .pure] [10] 10 (fun z => .sc (.bool (z && (!(slices_ContainsFunc__api_Act list act_Sound_1))))) ?J1 (fun hb J => ?ht1) (fun hb J => ?hf1))))
  case ht1 =>
    exact .sg 1 [6,7] (.cl_ [6,8] (caps := []) (slices_ContainsFunc__api_Act_calls list 78 [] act_Sound_1 rfl rfl (fun y0 => act_Sound_1_calls y0) f_list) (.same rfl (.fn (caps := []) (by kernel_rfl) .nil)) (by kernel_rfl) rfl rfl (.sg 2 [10] (.cl J)))
  case hf1 =>
    exact .sg 4 [10] (.cl J)
  refine .sg 1 [2] (.dn ?_)
  subst H
  exact .ret Try.func67 hc0

/-! ### rule.span: function 81 -/
noncomputable def rule_span_F : Go.Sh.Fn := ⟨81, bodyOf Try.f81, 12⟩
def rule_span (n : Int) (most : Int) : Bool :=
  ((decide (n ≥ 0)) && (decide (n ≤ most)))
theorem rule_span_calls (n : Int) (most : Int) : ACalls Try.prog tab.S 81 [.sc (.int .i64 n), .sc (.int .i64 most)] [] (.sc (.bool (rule_span n most))) [] := by
  generalize H : rule_span n most = r
  refine .of_AX rule_span_F Try.func81 fun c0 hc0 => ?_
  rw [rule_span] at H
  refine .sg 3 [0,1] (.rg (.sg 3 [0,1,7] (.mx 0 [11] (.sg 1 [4] (.dn ?_)))))
  subst H
  exact .ret Try.func81 hc0

/-! ### rule.Sound: function 71 -/
noncomputable def rule_Sound_F : Go.Sh.Fn := ⟨71, bodyOf Try.f71, 41⟩
def rule_Sound (r2 : Rule) : Bool :=
  (((((((cube_Sound r2.Match) && (act_Sound r2.Acts)) && (rule_span r2.Prio 65535)) && (rule_span r2.Idle 1048576)) && (rule_span r2.Hard 1048576)) && (rule_span r2.Owner 255)) && (decide ((if r2.Age < (if r2.Quiet < r2.Hits then r2.Quiet else r2.Hits) then r2.Age else (if r2.Quiet < r2.Hits then r2.Quiet else r2.Hits)) ≥ 0)))
theorem rule_Sound_calls (r2 : Rule) : ACalls Try.prog tab.S 71 [Rule.av r2] [] (.sc (.bool (rule_Sound r2))) [] := by
  generalize H : rule_Sound r2 = r
  refine .of_AX rule_Sound_F Try.func71 fun c0 hc0 => ?_
  rw [rule_Sound] at H
  refine .sg 3 [1] (.rg (.sg 2 [1,4] (.cp [1,5] (cube_Sound_calls r2.Match) (.sg 1 [1,6] (.mm 6 (cube_Sound r2.Match) 4 [.pure, .pure, .read, .pure] [1, 10] 10 (fun z => .sc (.bool (z && (act_Sound r2.Acts)))) ?J1 (fun hb J => ?ht1) (fun hb J => ?hf1))))))
  case ht1 =>
    exact .sg 2 [1,6,8] (.cp [1,6,9] (act_Sound_calls r2.Acts false) (.sg 1 [1,10] (.cl J)))
  case hf1 =>
    exact .sg 4 [1,10] (.cl J)
  refine .sg 1 [1,11] (.mm 11 ((cube_Sound r2.Match) && (act_Sound r2.Acts)) 4 [.pure, .pure, .read, .pure] [1, 15] 15 (fun z => .sc (.bool (z && (rule_span r2.Prio 65535)))) ?J2 (fun hb J => ?ht2) (fun hb J => ?hf2))
  case ht2 =>
    exact .sg 2 [1,11,13] (.cp [1,11,14] (rule_span_calls r2.Prio 65535) (.sg 1 [1,15] (.cl J)))
  case hf2 =>
    exact .sg 4 [1,15] (.cl J)
  refine .sg 1 [1,16] (.mm 16 (((cube_Sound r2.Match) && (act_Sound r2.Acts)) && (rule_span r2.Prio 65535)) 4 [.pure, .pure, .read, .pure] [1, 20] 20 (fun z => .sc (.bool (z && (rule_span r2.Idle 1048576)))) ?J3 (fun hb J => ?ht3) (fun hb J => ?hf3))
  case ht3 =>
    exact .sg 2 [1,16,18] (.cp [1,16,19] (rule_span_calls r2.Idle 1048576) (.sg 1 [1,20] (.cl J)))
  case hf3 =>
    exact .sg 4 [1,20] (.cl J)
  refine .sg 1 [1,21] (.mm 21 ((((cube_Sound r2.Match) && (act_Sound r2.Acts)) && (rule_span r2.Prio 65535)) && (rule_span r2.Idle 1048576)) 4 [.pure, .pure, .read, .pure] [1, 25] 25 (fun z => .sc (.bool (z && (rule_span r2.Hard 1048576)))) ?J4 (fun hb J => ?ht4) (fun hb J => ?hf4))
  case ht4 =>
    exact .sg 2 [1,21,23] (.cp [1,21,24] (rule_span_calls r2.Hard 1048576) (.sg 1 [1,25] (.cl J)))
  case hf4 =>
    exact .sg 4 [1,25] (.cl J)
  refine .sg 1 [1,26] (.mm 26 (((((cube_Sound r2.Match) && (act_Sound r2.Acts)) && (rule_span r2.Prio 65535)) && (rule_span r2.Idle 1048576)) && (rule_span r2.Hard 1048576)) 4 [.pure, .pure, .read, .pure] [1, 30] 30 (fun z => .sc (.bool (z && (rule_span r2.Owner 255)))) ?J5 (fun hb J => ?ht5) (fun hb J => ?hf5))
  case ht5 =>
    exact .sg 2 [1,26,28] (.cp [1,26,29] (rule_span_calls r2.Owner 255) (.sg 1 [1,30] (.cl J)))
  case hf5 =>
    exact .sg 4 [1,30] (.cl J)
  refine .sg 1 [1,31] (.mm 31 ((((((cube_Sound r2.Match) && (act_Sound r2.Acts)) && (rule_span r2.Prio 65535)) && (rule_span r2.Idle 1048576)) && (rule_span r2.Hard 1048576)) && (rule_span r2.Owner 255)) 9 [.pure, .pure, .pure, .read, .pure, .read, .pure, .read, .pure] [40] 40 (fun z => .sc (.bool (z && (decide ((if r2.Age < (if r2.Quiet < r2.Hits then r2.Quiet else r2.Hits) then r2.Age else (if r2.Quiet < r2.Hits then r2.Quiet else r2.Hits)) ≥ 0))))) ?J6 (fun hb J => ?ht6) (fun hb J => ?hf6))
  case ht6 =>
    exact .sg 6 [31,33,35,37] (.m3 [31,38] (.sg 2 [40] (.cl J)))
  case hf6 =>
    exact .sg 9 [40] (.cl J)
  refine .sg 1 [2] (.dn ?_)
  subst H
  exact .ret Try.func71 hc0

/-! ### mods.span: function 68 -/
noncomputable def mods_span_F : Go.Sh.Fn := ⟨68, bodyOf Try.f68, 12⟩
def mods_span (n : Int) (most : Int) : Bool :=
  ((decide (n ≥ 0)) && (decide (n ≤ most)))
theorem mods_span_calls (n : Int) (most : Int) : ACalls Try.prog tab.S 68 [.sc (.int .i64 n), .sc (.int .i64 most)] [] (.sc (.bool (mods_span n most))) [] := by
  generalize H : mods_span n most = r
  refine .of_AX mods_span_F Try.func68 fun c0 hc0 => ?_
  rw [mods_span] at H
  refine .sg 3 [0,1] (.rg (.sg 3 [0,1,7] (.mx 0 [11] (.sg 1 [4] (.dn ?_)))))
  subst H
  exact .ret Try.func68 hc0

/-! ### mods.plain: function 69 -/
noncomputable def mods_plain_F : Go.Sh.Fn := ⟨69, bodyOf Try.f69, 16⟩
def mods_plain (m1 : Mod) : Bool :=
  (((m1.Idle == 0) && (m1.Hard == 0)) && (!m1.Check))
theorem mods_plain_calls (m1 : Mod) : ACalls Try.prog tab.S 69 [Mod.av m1] [] (.sc (.bool (mods_plain m1))) [] := by
  generalize H : mods_plain m1 = r
  refine .of_AX mods_plain_F Try.func69 fun c0 hc0 => ?_
  rw [mods_plain] at H
  refine .sg 3 [1] (.rg (.sg 4 [1,6] (.mx 0 [1,10] (.sg 1 [1,11] (.mx 0 [15] (.sg 1 [2] (.dn ?_)))))))
  subst H
  exact .ret Try.func69 hc0

/-! ### mods.Sound: function 57 -/
noncomputable def mods_Sound_F : Go.Sh.Fn := ⟨57, bodyOf Try.f57, 75⟩
def mods_Sound (m1 : Mod) : Bool :=
  (bif ((((!(cube_Sound m1.Match)) || (!(act_Sound m1.Acts))) || (!(mods_span m1.Prio 65535))) || (!(mods_span m1.Owner 255))) then
    false
  else
    (bif (m1.Kind == 1) then
      ((mods_span m1.Idle 1048576) && (mods_span m1.Hard 1048576))
    else
      (bif (m1.Kind == 2) then
        ((mods_plain m1) && (m1.Prio == 0))
      else
        (bif (m1.Kind == 3) then
          (((mods_plain m1) && (m1.Prio == 0)) && ((((List.map Act.av m1.Acts).length : Nat) : Int) == 0))
        else
          (bif (m1.Kind == 4) then
            (mods_plain m1)
          else
            (bif (m1.Kind == 5) then
              ((mods_plain m1) && ((((List.map Act.av m1.Acts).length : Nat) : Int) == 0))
            else
              false))))))
theorem mods_Sound_calls (m1 : Mod) : ACalls Try.prog tab.S 57 [Mod.av m1] [] (.sc (.bool (mods_Sound m1))) [] := by
  generalize H : mods_Sound m1 = r
  refine .of_AX mods_Sound_F Try.func57 fun c0 hc0 => ?_
  rw [mods_Sound] at H
  refine .sg 4 [1] (.rg (.sg 2 [1,4] (.cp [1,5] (cube_Sound_calls m1.Match) (.sg 2 [1,7] (.mm 7 (!(cube_Sound m1.Match)) 5 [.pure, .pure, .pure, .read, .pure] [1, 12] 12 (fun z => .sc (.bool (z || (!(act_Sound m1.Acts))))) ?J1 (fun hb J => ?ht1) (fun hb J => ?hf1))))))
  case ht1 =>
    exact .sg 5 [1,12] (.cl J)
  case hf1 =>
    exact .sg 2 [1,7,9] (.cp [1,7,10] (act_Sound_calls m1.Acts false) (.sg 2 [1,12] (.cl J)))
  refine .sg 1 [1,13] (.mm 13 ((!(cube_Sound m1.Match)) || (!(act_Sound m1.Acts))) 5 [.pure, .pure, .pure, .read, .pure] [1, 18] 18 (fun z => .sc (.bool (z || (!(mods_span m1.Prio 65535))))) ?J2 (fun hb J => ?ht2) (fun hb J => ?hf2))
  case ht2 =>
    exact .sg 5 [1,18] (.cl J)
  case hf2 =>
    exact .sg 2 [1,13,15] (.cp [1,13,16] (mods_span_calls m1.Prio 65535) (.sg 2 [1,18] (.cl J)))
  refine .sg 1 [1,19] (.mm 19 (((!(cube_Sound m1.Match)) || (!(act_Sound m1.Acts))) || (!(mods_span m1.Prio 65535))) 5 [.pure, .pure, .pure, .read, .pure] [1, 24] 24 (fun z => .sc (.bool (z || (!(mods_span m1.Owner 255))))) ?J3 (fun hb J => ?ht3) (fun hb J => ?hf3))
  case ht3 =>
    exact .sg 5 [1,24] (.cl J)
  case hf3 =>
    exact .sg 2 [1,19,21] (.cp [1,19,22] (mods_span_calls m1.Owner 255) (.sg 2 [1,24] (.cl J)))
  refine .dn (.cd ((((!(cube_Sound m1.Match)) || (!(act_Sound m1.Acts))) || (!(mods_span m1.Prio 65535))) || (!(mods_span m1.Owner 255))) H (fun hb H => ?_) (fun hb H => ?_))
  ·
    refine .sg 2 [2] ?_
    subst H
    exact .ret Try.func57 hc0
  ·
    refine .sg 7 [1,26,27] (.cd (m1.Kind == 1) H (fun hb H => ?_) (fun hb H => ?_))
    ·
      refine .sg 1 [1] (.rg (.sg 2 [1,30] (.cp [1,31] (mods_span_calls m1.Idle 1048576) (.sg 1 [1,32] (.mm 32 (mods_span m1.Idle 1048576) 4 [.pure, .pure, .read, .pure] [36] 36 (fun z => .sc (.bool (z && (mods_span m1.Hard 1048576)))) ?J5 (fun hb J => ?ht5) (fun hb J => ?hf5))))))
      case ht5 =>
        exact .sg 2 [32,34] (.cp [32,35] (mods_span_calls m1.Hard 1048576) (.sg 1 [36] (.cl J)))
      case hf5 =>
        exact .sg 4 [36] (.cl J)
      refine .sg 1 [2] (.dn ?_)
      subst H
      exact .ret Try.func57 hc0
    ·
      refine .sg 2 [1,26,37] (.cd (m1.Kind == 2) H (fun hb H => ?_) (fun hb H => ?_))
      ·
        refine .sg 1 [1] (.rg (.sg 1 [1,39] (.cp [1,40] (mods_plain_calls m1) (.sg 1 [1,41] (.mx 0 [45] (.sg 1 [2] (.dn ?_)))))))
        subst H
        exact .ret Try.func57 hc0
      ·
        refine .sg 2 [1,26,46] (.cd (m1.Kind == 3) H (fun hb H => ?_) (fun hb H => ?_))
        ·
          refine .sg 1 [1] (.rg (.sg 1 [1,48] (.cp [1,49] (mods_plain_calls m1) (.sg 1 [1,50] (.mx 0 [1,54] (.sg 1 [1,55] (.mx 0 [60] (.sg 1 [2] (.dn ?_)))))))))
          subst H
          exact .ret Try.func57 hc0
        ·
          refine .sg 2 [1,26,61] (.cd (m1.Kind == 4) H (fun hb H => ?_) (fun hb H => ?_))
          ·
            refine .sg 1 [1] (.rg (.sg 1 [63] (.cp [64] (mods_plain_calls m1) (.sg 1 [2] (.dn ?_)))))
            subst H
            exact .ret Try.func57 hc0
          ·
            refine .sg 2 [1,65] (.cd (m1.Kind == 5) H (fun hb H => ?_) (fun hb H => ?_))
            ·
              refine .sg 1 [1] (.rg (.sg 1 [1,67] (.cp [1,68] (mods_plain_calls m1) (.sg 1 [1,69] (.mx 0 [74] (.sg 1 [2] (.dn ?_)))))))
              subst H
              exact .ret Try.func57 hc0
            ·
              refine .sg 4 [2] ?_
              subst H
              exact .ret Try.func57 hc0

theorem Act.beq_eq (x y : Act) : ((x.Kind == y.Kind) && ((x.Port == y.Port) && ((x.Field == y.Field) && (x.Value == y.Value)))) = (x == y) := by
  rw [Bool.eq_iff_iff]
  simp only [Bool.and_eq_true, beq_iff_eq]
  cases x; cases y
  simp

theorem zipAll_ne {α β : Type} (f : α → β → Bool) {a : List α} {b : List β} (h : ¬ a.length = b.length) : zipAll f a b = false := by
  rw [Bool.eq_false_iff]
  exact fun q => h (zipAll_len q)

/-! ### slices.Equal: function 73 -/
noncomputable def slices_Equal__api_Act_F : Go.Sh.Fn := ⟨73, bodyOf Try.f73, 26⟩
def slices_Equal__api_Act_l0s (s2 : List Act) : List Act → Nat → Option (Sum (Unit) (Bool))
  | [], t13 =>
    some (.inl ())
  | x :: rest, t13 =>
    (ixO s2 ((t13 : Nat) : Int)).bind fun x1 =>
    (bif (!((x.Kind == x1.Kind) && ((x.Port == x1.Port) && ((x.Field == x1.Field) && (x.Value == x1.Value))))) then
      some (.inr false)
    else
      slices_Equal__api_Act_l0s s2 rest (t13 + 1) )
theorem slices_Equal__api_Act_l0_walk (s1 : List Act) (s2 : List Act) (f_s1 : Bool) (f_s2 : Bool) (r : Bool) (c0 : Ctx) (hc0 : c0.m.length = 0) (res : Sum (Unit) (Bool)) (J : ∀ w : Unit, res = .inl w → AX Try.prog tab slices_Equal__api_Act_F c0 (Rp tab.S c0 (.sc (.bool r)) []) (some ⟨[.code [1, 1, 1]], [], []⟩)) (Jr : ∀ w, res = .inr w → w = r) :
    ∀ (rest : List Act) (t13 : Nat) (z : Int) (hI : z = ((t13 : Nat) : Int)) (hd : s1.drop t13 = rest) (H : slices_Equal__api_Act_l0s s2 rest t13 = some res), AX Try.prog tab slices_Equal__api_Act_F c0 (Rp tab.S c0 (.sc (.bool r)) []) (some ⟨[.code [1, 1, 0, 1, 0, 0], .loop [1, 1, 0, 1, 0], .blk 0, .code [1, 1, 1]], [(0, .sl 87 (List.map Act.av s1) f_s1), (1, .sl 87 (List.map Act.av s2) f_s2), (12, .sc (.int .i64 (((List.map Act.av s1).length : Nat) : Int))), (13, .sc (.int .i64 z))], []⟩) := by
  intro rest
  induction rest with
  | nil =>
    intro t13 z hI hd  H
    subst hI
    rw [slices_Equal__api_Act_l0s] at H
    refine .facts 0 fun hf => ?_
    have hlen : s1.length ≤ 9223372036854775807 := by have hq := len_ok hf.2.1; rw [List.length_map] at hq; exact hq
    have hge : s1.length ≤ t13 := List.drop_eq_nil_iff.1 hd
    have hc : (decide (((t13 : Nat) : Int) < (((List.map Act.av s1).length : Nat) : Int))) = false := by rw [List.length_map]; exact decide_eq_false (by omega)
    exact .sg 3 [0,1,12,13,14] (.cdF hc (.sg 1 [] (.kp [] (.to (J () (Option.some.inj H).symm)))))
  | cons x rest ih =>
    intro t13 z hI hd  H
    subst hI
    rw [slices_Equal__api_Act_l0s] at H
    refine .facts 0 fun hf => ?_
    have hlen : s1.length ≤ 9223372036854775807 := by have hq := len_ok hf.2.1; rw [List.length_map] at hq; exact hq
    obtain ⟨hlt, hv_t13, hd2⟩ := drop_cons hd
    have hc : (decide (((t13 : Nat) : Int) < (((List.map Act.av s1).length : Nat) : Int))) = true := by rw [List.length_map]; exact decide_eq_true (by omega)
    have hw : IntKind.i64.wrap (((t13 : Nat) : Int) + 1) = ((t13 + 1 : Nat) : Int) := wrapI_succ (by omega)
    refine .sg 3 [0,1,12,13,14] (.cdT hc (.sg 6 [0,1,5,12,13] (.rg (.sg 2 [0,1,5,12,13,16,17] (.xi [0,1,5,12,13,18] Act.av hv_t13 (.sg 3 [0,1,12,13,19,20,21] (bndO H fun x1 hv H => (.xi [0,1,12,13,19,22] Act.av hv (.sg 1 [0,1,12,13,19,23] (.eq_ [0,1,12,13,24] 9 (.dn (.cd (!((x.Kind == x1.Kind) && ((x.Port == x1.Port) && ((x.Field == x1.Field) && (x.Value == x1.Value))))) H (fun hb H => ?_) (fun hb H => ?_)))))))))))))
    ·
      refine .sg 2 [4] ?_
      obtain rfl := Option.some.inj H
      obtain rfl := Jr _ rfl
      exact .ret Try.func73 hc0
    ·
      exact .sg 3 [0,1,12,13] (.kp [0,1,12,13] (.into (.cl (ih (t13 + 1) _ hw hd2 H))))

def slices_Equal__api_Act_raw (s1 : List Act) (s2 : List Act) : Option (Bool) :=
  (bif ((((List.map Act.av s1).length : Nat) : Int) != (((List.map Act.av s2).length : Nat) : Int)) then
    some false
  else
    loopO (slices_Equal__api_Act_l0s s2 s1 0) fun v =>
    some true)
theorem slices_Equal__api_Act_walk (s1 : List Act) (s2 : List Act) (f_s1 : Bool) (f_s2 : Bool) (r : Bool) (H : slices_Equal__api_Act_raw s1 s2 = some r) : ACalls Try.prog tab.S 73 [.sl 87 (List.map Act.av s1) f_s1, .sl 87 (List.map Act.av s2) f_s2] [] (.sc (.bool r)) [] := by
  refine .of_AX slices_Equal__api_Act_F Try.func73 fun c0 hc0 => ?_
  rw [slices_Equal__api_Act_raw] at H
  refine .sg 5 [0,1,10] (.cd ((((List.map Act.av s1).length : Nat) : Int) != (((List.map Act.av s2).length : Nat) : Int)) H (fun hb H => ?_) (fun hb H => ?_))
  ·
    refine .sg 2 [4] ?_
    obtain rfl := Option.some.inj H
    exact .ret Try.func73 hc0
  ·
    refine .sg 5 [0,1,12,13] ?_
    rcases loopO_some H with ⟨v, hv, H⟩ | hv
    case inr =>
      exact .into (.to (slices_Equal__api_Act_l0_walk s1 s2 f_s1 f_s2 _ c0 hc0 (.inr _) (fun _ e => by cases e) (fun _ e => (Sum.inr.inj e).symm) s1 0 _ rfl rfl hv))
    refine .into (.to (slices_Equal__api_Act_l0_walk s1 s2 f_s1 f_s2 r c0 hc0 (.inl v) (fun w e => ?_) (fun _ e => by cases e) s1 0 _ rfl rfl hv))
    have e := Sum.inl.inj e
    subst e
    refine .sg 2 [4] ?_
    obtain rfl := Option.some.inj H
    exact .ret Try.func73 hc0

theorem slices_Equal__api_Act_ok (a b : List Act) (f_a f_b : Bool) : ACalls Try.prog tab.S 73 [.sl 87 (List.map Act.av a) f_a, .sl 87 (List.map Act.av b) f_b] [] (.sc (.bool (a == b))) [] := by
  refine slices_Equal__api_Act_walk a b f_a f_b _ ?_
  rw [slices_Equal__api_Act_raw, len_bne]
  by_cases h : a.length = b.length
  · simp only [h, decide_true, Bool.not_true, cond_false]
    rw [cmp_loop (v := false) (slices_Equal__api_Act_l0s b) b (fun x y => x == y) (fun _ => rfl) (fun x r i => by rw [slices_Equal__api_Act_l0s]; simp only [Act.beq_eq]) a 0 (by omega), List.drop_zero, zipAll_beq]
    cases a == b <;> rfl
  · have e : (a == b) = false := by
      rw [beq_eq_false_iff_ne]
      intro e
      exact h (by rw [e])
    rw [e]
    simp only [h, decide_false, Bool.not_false, cond_true]

/-! ### act.Same: function 60 -/
noncomputable def act_Same_F : Go.Sh.Fn := ⟨60, bodyOf Try.f60, 8⟩
def act_Same (a : List Act) (b : List Act) : Bool :=
  (a == b)
theorem act_Same_calls (a : List Act) (b : List Act) (f_a : Bool) (f_b : Bool) : ACalls Try.prog tab.S 60 [.sl 87 (List.map Act.av a) f_a, .sl 87 (List.map Act.av b) f_b] [] (.sc (.bool (act_Same a b))) [] := by
  generalize H : act_Same a b = r
  refine .of_AX act_Same_F Try.func60 fun c0 hc0 => ?_
  rw [act_Same] at H
  refine .sg 3 [0,1] (.rg (.sg 2 [5,6] (.cp [7] (slices_Equal__api_Act_ok a b f_a f_b) (.sg 1 [4] (.dn ?_)))))
  subst H
  exact .ret Try.func60 hc0

/-! ### mods.Same: function 41 -/
noncomputable def mods_Same_F : Go.Sh.Fn := ⟨41, bodyOf Try.f41, 59⟩
def mods_Same (a : Mod) (b : Mod) : Bool :=
  ((((((((a.Kind == b.Kind) && ((a.Match.Value == b.Match.Value) && (a.Match.Care == b.Match.Care))) && (a.Prio == b.Prio)) && (act_Same a.Acts b.Acts)) && (a.Idle == b.Idle)) && (a.Hard == b.Hard)) && (a.Owner == b.Owner)) && (a.Check == b.Check))
theorem mods_Same_calls (a : Mod) (b : Mod) : ACalls Try.prog tab.S 41 [Mod.av a, Mod.av b] [] (.sc (.bool (mods_Same a b))) [] := by
  generalize H : mods_Same a b = r
  refine .of_AX mods_Same_F Try.func41 fun c0 hc0 => ?_
  rw [mods_Same] at H
  refine .sg 3 [2,3] (.rg (.sg 6 [2,3,10] (.mm 10 (a.Kind == b.Kind) 6 [.pure, .pure, .read, .pure, .read, .pure] [2, 3, 16] 16 (fun z => .sc (.bool (z && ((a.Match.Value == b.Match.Value) && (a.Match.Care == b.Match.Care))))) ?J1 (fun hb J => ?ht1) (fun hb J => ?hf1))))
  case ht1 =>
    exact .sg 4 [2,3,10,12,14] (.eq_ [2,3,10,15] 9 (.sg 1 [2,3,16] (.cl J)))
  case hf1 =>
    exact .sg 6 [2,3,16] (.cl J)
  refine .sg 1 [2,3,17] (.mx 0 [2,3,23] (.sg 1 [2,3,24] (.mm 24 (((a.Kind == b.Kind) && ((a.Match.Value == b.Match.Value) && (a.Match.Care == b.Match.Care))) && (a.Prio == b.Prio)) 6 [.pure, .pure, .read, .pure, .read, .pure] [2, 3, 30] 30 (fun z => .sc (.bool (z && (act_Same a.Acts b.Acts)))) ?J3 (fun hb J => ?ht3) (fun hb J => ?hf3))))
  case ht3 =>
    exact .sg 4 [2,3,24,26,28] (.cp [2,3,24,29] (act_Same_calls a.Acts b.Acts false false) (.sg 1 [2,3,30] (.cl J)))
  case hf3 =>
    exact .sg 6 [2,3,30] (.cl J)
  refine .sg 1 [2,3,31] (.mx 0 [2,3,37] (.sg 1 [2,3,38] (.mx 0 [2,3,44] (.sg 1 [2,3,45] (.mx 0 [2,3,51] (.sg 1 [2,3,52] (.mx 0 [58] (.sg 1 [4] (.dn ?_)))))))))
  subst H
  exact .ret Try.func41 hc0

/-! ### code.empty: function 56 -/
noncomputable def code_empty_F : Go.Sh.Fn := ⟨56, bodyOf Try.f56, 29⟩
def code_empty (m1 : Msg) : Bool :=
  (((((m1.E == 0) && (mods_Same m1.Mod ({ Kind := 0, Match := ({ Value := [0, 0, 0, 0, 0, 0, 0, 0, 0, 0, 0, 0], Care := [0, 0, 0, 0, 0, 0, 0, 0, 0, 0, 0, 0] } : Cube), Prio := 0, Acts := [], Idle := 0, Hard := 0, Owner := 0, Check := false } : Mod))) && (m1.Port == 0)) && (m1.Head == [0, 0, 0, 0, 0, 0, 0, 0, 0, 0, 0, 0])) && ((((List.map Rule.av m1.Rules).length : Nat) : Int) == 0))
theorem code_empty_calls (m1 : Msg) : ACalls Try.prog tab.S 56 [Msg.av m1] [] (.sc (.bool (code_empty m1))) [] := by
  generalize H : code_empty m1 = r
  refine .of_AX code_empty_F Try.func56 fun c0 hc0 => ?_
  rw [code_empty] at H
  refine .sg 3 [1] (.rg (.sg 4 [1,6] (.mm 6 (m1.E == 0) 5 [.pure, .pure, .pure, .read, .pure] [1, 11] 11 (fun z => .sc (.bool (z && (mods_Same m1.Mod ({ Kind := 0, Match := ({ Value := [0, 0, 0, 0, 0, 0, 0, 0, 0, 0, 0, 0], Care := [0, 0, 0, 0, 0, 0, 0, 0, 0, 0, 0, 0] } : Cube), Prio := 0, Acts := [], Idle := 0, Hard := 0, Owner := 0, Check := false } : Mod))))) ?J1 (fun hb J => ?ht1) (fun hb J => ?hf1))))
  case ht1 =>
    exact .sg 3 [1,6,8,9] (.cp [1,6,10] (ds := [(0, true), (87, false)]) (mods_Same_calls m1.Mod ({ Kind := 0, Match := ({ Value := [0, 0, 0, 0, 0, 0, 0, 0, 0, 0, 0, 0], Care := [0, 0, 0, 0, 0, 0, 0, 0, 0, 0, 0, 0] } : Cube), Prio := 0, Acts := [], Idle := 0, Hard := 0, Owner := 0, Check := false } : Mod)) (.sg 1 [1,11] (.cl J)))
  case hf1 =>
    exact .sg 5 [1,11] (.cl J)
  refine .sg 1 [1,12] (.mx 0 [1,16] (.sg 1 [1,17] (.mm 17 (((m1.E == 0) && (mods_Same m1.Mod ({ Kind := 0, Match := ({ Value := [0, 0, 0, 0, 0, 0, 0, 0, 0, 0, 0, 0], Care := [0, 0, 0, 0, 0, 0, 0, 0, 0, 0, 0, 0] } : Cube), Prio := 0, Acts := [], Idle := 0, Hard := 0, Owner := 0, Check := false } : Mod))) && (m1.Port == 0)) 5 [.pure, .pure, .pure, .read, .pure] [1, 22] 22 (fun z => .sc (.bool (z && (m1.Head == [0, 0, 0, 0, 0, 0, 0, 0, 0, 0, 0, 0])))) ?J3 (fun hb J => ?ht3) (fun hb J => ?hf3))))
  case ht3 =>
    exact .sg 3 [1,17,19,20] (.eq_ [1,17,21] 9 (.sg 1 [1,22] (.cl J)))
  case hf3 =>
    exact .sg 5 [1,22] (.cl J)
  refine .sg 1 [1,23] (.mx 0 [28] (.sg 1 [2] (.dn ?_)))
  subst H
  exact .ret Try.func56 hc0

/-! ### cmp.isNaN: function 92 -/
noncomputable def cmp_isNaN_uint64_F : Go.Sh.Fn := ⟨92, bodyOf Try.f92, 6⟩
def cmp_isNaN_uint64 (x : Int) : Bool :=
  (x != x)
theorem cmp_isNaN_uint64_calls (x : Int) : ACalls Try.prog tab.S 92 [.sc (.int .u64 x)] [] (.sc (.bool (cmp_isNaN_uint64 x))) [] := by
  generalize H : cmp_isNaN_uint64 x = r
  refine .of_AX cmp_isNaN_uint64_F Try.func92 fun c0 hc0 => ?_
  rw [cmp_isNaN_uint64] at H
  refine .sg 4 [2] ?_
  subst H
  exact .ret Try.func92 hc0

/-! ### cmp.Compare: function 91 -/
noncomputable def cmp_Compare_uint64_F : Go.Sh.Fn := ⟨91, bodyOf Try.f91, 20⟩
def cmp_Compare_uint64 (x : Int) (y : Int) : Int :=
  (bif (cmp_isNaN_uint64 x) then
    (bif (cmp_isNaN_uint64 y) then
      0
    else
      (-1))
  else
    (bif (cmp_isNaN_uint64 y) then
      1
    else
      (bif (decide (x < y)) then
        (-1)
      else
        (bif (decide (x > y)) then
          1
        else
          0))))
theorem cmp_Compare_uint64_calls (x : Int) (y : Int) : ACalls Try.prog tab.S 91 [.sc (.int .u64 x), .sc (.int .u64 y)] [] (.sc (.int .i64 (cmp_Compare_uint64 x y))) [] := by
  generalize H : cmp_Compare_uint64 x y = r
  refine .of_AX cmp_Compare_uint64_F Try.func91 fun c0 hc0 => ?_
  rw [cmp_Compare_uint64] at H
  refine .sg 3 [0,1] (.rg (.sg 1 [0,1,7] (.cp [0,1,8] (cmp_isNaN_uint64_calls x) (.sg 1 [0,1,5] (.dn (.sg 1 [0,1,5] (.rg (.sg 1 [0,1,5,9] (.cp [0,1,5,10] (cmp_isNaN_uint64_calls y) (.sg 1 [0,1,5,6] (.dn (.sg 3 [0,1,6,11] (.cd (cmp_isNaN_uint64 x) H (fun hb H => ?_) (fun hb H => ?_))))))))))))))
  ·
    refine .sg 3 [12] (.cd (cmp_isNaN_uint64 y) H (fun hb H => ?_) (fun hb H => ?_))
    ·
      refine .sg 2 [4] ?_
      subst H
      exact .ret Try.func91 hc0
    ·
      refine .sg 3 [4] ?_
      subst H
      exact .ret Try.func91 hc0
  ·
    refine .sg 4 [0,1,13] (.cd (cmp_isNaN_uint64 y) H (fun hb H => ?_) (fun hb H => ?_))
    ·
      refine .sg 2 [4] ?_
      subst H
      exact .ret Try.func91 hc0
    ·
      refine .sg 4 [0,1,16] (.cd (decide (x < y)) H (fun hb H => ?_) (fun hb H => ?_))
      ·
        refine .sg 2 [4] ?_
        subst H
        exact .ret Try.func91 hc0
      ·
        refine .sg 4 [19] (.cd (decide (x > y)) H (fun hb H => ?_) (fun hb H => ?_))
        ·
          refine .sg 2 [4] ?_
          subst H
          exact .ret Try.func91 hc0
        ·
          refine .sg 3 [4] ?_
          subst H
          exact .ret Try.func91 hc0

/-! ### slices.CompareFunc: function 90 -/
noncomputable def slices_CompareFunc__uint64_F : Go.Sh.Fn := ⟨90, bodyOf Try.f90, 39⟩
def slices_CompareFunc__uint64_l0s (s2 : List Int) (cmp : Int → Int → Int) : List Int → Nat → Option (Sum (Unit) (Int))
  | [], t13 =>
    some (.inl ())
  | x :: rest, t13 =>
    (bif (decide (((t13 : Nat) : Int) ≥ (((List.map (intA .u64) s2).length : Nat) : Int))) then
      some (.inr 1)
    else
      (ixO s2 ((t13 : Nat) : Int)).bind fun x1 =>
      (bif ((cmp x x1) != 0) then
        some (.inr (cmp x x1))
      else
        slices_CompareFunc__uint64_l0s s2 cmp rest (t13 + 1) ))
theorem slices_CompareFunc__uint64_l0_walk (s1 : List Int) (s2 : List Int) (F_cmp : FuncId) (C_cmp : List AV) (cmp : Int → Int → Int) (P_cmp : plainL C_cmp = true) (O_cmp : C_cmp.all oneA = true) (H_cmp : ∀ (y0 : Int) (y1 : Int), ACalls Try.prog tab.S F_cmp ([.sc (.int .u64 y0), .sc (.int .u64 y1)] ++ C_cmp) [] (.sc (.int .i64 (cmp y0 y1))) []) (f_s1 : Bool) (f_s2 : Bool) (r : Int) (c0 : Ctx) (hc0 : c0.m.length = 0) (res : Sum (Unit) (Int)) (J : ∀ w : Unit, res = .inl w → AX Try.prog tab slices_CompareFunc__uint64_F c0 (Rp tab.S c0 (.sc (.int .i64 r)) []) (some ⟨[.code [1, 1]], [(0, .sl 25 (List.map (intA .u64) s1) f_s1), (1, .sl 25 (List.map (intA .u64) s2) f_s2)], []⟩)) (Jr : ∀ w, res = .inr w → w = r) :
    ∀ (rest : List Int) (t13 : Nat) (z : Int) (hI : z = ((t13 : Nat) : Int)) (hd : s1.drop t13 = rest) (H : slices_CompareFunc__uint64_l0s s2 cmp rest t13 = some res), AX Try.prog tab slices_CompareFunc__uint64_F c0 (Rp tab.S c0 (.sc (.int .i64 r)) []) (some ⟨[.code [1, 0, 1, 0, 0], .loop [1, 0, 1, 0], .blk 0, .code [1, 1]], [(0, .sl 25 (List.map (intA .u64) s1) f_s1), (1, .sl 25 (List.map (intA .u64) s2) f_s2), (2, .fn F_cmp C_cmp), (11, .sl 25 (List.map (intA .u64) s1) f_s1), (12, .sc (.int .i64 (((List.map (intA .u64) s1).length : Nat) : Int))), (13, .sc (.int .i64 z))], []⟩) := by
  intro rest
  induction rest with
  | nil =>
    intro t13 z hI hd  H
    subst hI
    rw [slices_CompareFunc__uint64_l0s] at H
    refine .facts 0 fun hf => ?_
    have hlen : s1.length ≤ 9223372036854775807 := by have hq := len_ok hf.2.1; rw [List.length_map] at hq; exact hq
    have hge : s1.length ≤ t13 := List.drop_eq_nil_iff.1 hd
    have hc : (decide (((t13 : Nat) : Int) < (((List.map (intA .u64) s1).length : Nat) : Int))) = false := by rw [List.length_map]; exact decide_eq_false (by omega)
    exact .sg 3 [0,1,2,11,12,13,14] (.cdF hc (.sg 1 [0,1] (.kp [0,1] (.to (J () (Option.some.inj H).symm)))))
  | cons x rest ih =>
    intro t13 z hI hd  H
    subst hI
    rw [slices_CompareFunc__uint64_l0s] at H
    refine .facts 0 fun hf => ?_
    have hlen : s1.length ≤ 9223372036854775807 := by have hq := len_ok hf.2.1; rw [List.length_map] at hq; exact hq
    obtain ⟨hlt, hv_t13, hd2⟩ := drop_cons hd
    have hc : (decide (((t13 : Nat) : Int) < (((List.map (intA .u64) s1).length : Nat) : Int))) = true := by rw [List.length_map]; exact decide_eq_true (by omega)
    have hw : IntKind.i64.wrap (((t13 : Nat) : Int) + 1) = ((t13 + 1 : Nat) : Int) := wrapI_succ (by omega)
    refine .sg 3 [0,1,2,11,12,13,14] (.cdT hc (.sg 4 [0,1,2,11,12,13] (.rg (.sg 1 [0,1,2,11,12,13,15] (.xi [0,1,2,11,12,13,15,16] (intA .u64) hv_t13 (.sg 3 [0,1,2,7,8,11,12,13] (.dn (.sg 3 [0,1,2,7,8,11,12,13,21] (.cd (decide (((t13 : Nat) : Int) ≥ (((List.map (intA .u64) s2).length : Nat) : Int))) H (fun hb H => ?_) (fun hb H => ?_))))))))))
    ·
      refine .sg 2 [6] ?_
      obtain rfl := Option.some.inj H
      obtain rfl := Jr _ rfl
      exact .ret Try.func90 hc0
    ·
      refine .sg 2 [0,1,2,7,8,11,12,13] (.rg (.sg 2 [0,1,2,8,11,12,13,22,23] (bndO H fun x1 hv H => (.xi [0,1,2,8,11,12,13,24] (intA .u64) hv (.sg 2 [0,1,2,8,9,11,12,13] (.dn (.sg 1 [0,1,2,8,9,11,12,13] (.rg (.sg 3 [0,1,2,11,12,13,26,27,28] (.cf [0,1,2,11,12,13,29] (H_cmp x x1) P_cmp O_cmp (.sg 1 [0,1,2,10,11,12,13] (.dn (.sg 2 [0,1,2,10,11,12,13,31] (.cd ((cmp x x1) != 0) H (fun hb H => ?_) (fun hb H => ?_)))))))))))))))
      ·
        refine .sg 2 [6] ?_
        obtain rfl := Option.some.inj H
        obtain rfl := Jr _ rfl
        exact .ret Try.func90 hc0
      ·
        exact .sg 3 [0,1,2,11,12,13] (.kp [0,1,2,11,12,13] (.into (.cl (ih (t13 + 1) _ hw hd2 H))))

def slices_CompareFunc__uint64_raw (s1 : List Int) (s2 : List Int) (cmp : Int → Int → Int) : Option (Int) :=
  loopO (slices_CompareFunc__uint64_l0s s2 cmp s1 0) fun v =>
  (bif (decide ((((List.map (intA .u64) s1).length : Nat) : Int) < (((List.map (intA .u64) s2).length : Nat) : Int))) then
    some (-1)
  else
    some 0)
theorem slices_CompareFunc__uint64_walk (s1 : List Int) (s2 : List Int) (F_cmp : FuncId) (C_cmp : List AV) (cmp : Int → Int → Int) (P_cmp : plainL C_cmp = true) (O_cmp : C_cmp.all oneA = true) (H_cmp : ∀ (y0 : Int) (y1 : Int), ACalls Try.prog tab.S F_cmp ([.sc (.int .u64 y0), .sc (.int .u64 y1)] ++ C_cmp) [] (.sc (.int .i64 (cmp y0 y1))) []) (f_s1 : Bool) (f_s2 : Bool) (r : Int) (H : slices_CompareFunc__uint64_raw s1 s2 cmp = some r) : ACalls Try.prog tab.S 90 [.sl 25 (List.map (intA .u64) s1) f_s1, .sl 25 (List.map (intA .u64) s2) f_s2, .fn F_cmp C_cmp] [] (.sc (.int .i64 r)) [] := by
  refine .of_AX slices_CompareFunc__uint64_F Try.func90 fun c0 hc0 => ?_
  rw [slices_CompareFunc__uint64_raw] at H
  refine .sg 6 [0,1,2,11,12,13] ?_
  rcases loopO_some H with ⟨v, hv, H⟩ | hv
  case inr =>
    exact .into (.to (slices_CompareFunc__uint64_l0_walk s1 s2 F_cmp C_cmp cmp P_cmp O_cmp H_cmp f_s1 f_s2 _ c0 hc0 (.inr _) (fun _ e => by cases e) (fun _ e => (Sum.inr.inj e).symm) s1 0 _ rfl rfl hv))
  refine .into (.to (slices_CompareFunc__uint64_l0_walk s1 s2 F_cmp C_cmp cmp P_cmp O_cmp H_cmp f_s1 f_s2 r c0 hc0 (.inl v) (fun w e => ?_) (fun _ e => by cases e) s1 0 _ rfl rfl hv))
  have e := Sum.inl.inj e
  subst e
  refine .sg 3 [38] (.cd (decide ((((List.map (intA .u64) s1).length : Nat) : Int) < (((List.map (intA .u64) s2).length : Nat) : Int))) H (fun hb H => ?_) (fun hb H => ?_))
  ·
    refine .sg 2 [6] ?_
    obtain rfl := Option.some.inj H
    exact .ret Try.func90 hc0
  ·
    refine .sg 3 [6] ?_
    obtain rfl := Option.some.inj H
    exact .ret Try.func90 hc0

def cmpL {α : Type} (cmp : α → α → Int) : List α → List α → Int
  | [], [] => 0
  | [], _ :: _ => -1
  | _ :: _, [] => 1
  | x :: l, y :: r => bif cmp x y != 0 then cmp x y else cmpL cmp l r
def cmpS {α : Type} (cmp : α → α → Int) : List α → List α → Sum Unit Int
  | [], _ => .inl ()
  | _ :: _, [] => .inr 1
  | x :: l, y :: r => bif cmp x y != 0 then .inr (cmp x y) else cmpS cmp l r
theorem cmpS_L {α : Type} (cmp : α → α → Int) : ∀ (l r : List α), (match cmpS cmp l r with | .inl _ => if l.length < r.length then -1 else 0 | .inr v => v) = cmpL cmp l r
  | [], [] => rfl
  | [], _ :: _ => by simp [cmpS, cmpL]
  | _ :: _, [] => rfl
  | x :: l, y :: r => by
      rw [cmpS, cmpL, ← cmpS_L cmp l r]
      cases cmp x y != 0
      · simp only [cond_false, List.length_cons, Nat.add_lt_add_iff_right]
      · rfl
theorem slices_CompareFunc__uint64_l0s_eq (s2 : List Int) (cmp : Int → Int → Int) : ∀ (l : List Int) (i : Nat), slices_CompareFunc__uint64_l0s s2 cmp l i = some (cmpS cmp l (s2.drop i))
  | [], i => by rw [slices_CompareFunc__uint64_l0s]; rfl
  | x :: l, i => by
      rw [slices_CompareFunc__uint64_l0s, List.length_map]
      by_cases h : i < s2.length
      · have hc : decide (((i : Nat) : Int) ≥ ((s2.length : Nat) : Int)) = false := decide_eq_false (by omega)
        rw [hc, cond_false, ixO_lt h, Option.bind_some, List.drop_eq_getElem_cons h, cmpS, slices_CompareFunc__uint64_l0s_eq s2 cmp l (i + 1)]
        cases cmp x s2[i] != 0 <;> rfl
      · have hc : decide (((i : Nat) : Int) ≥ ((s2.length : Nat) : Int)) = true := decide_eq_true (by omega)
        rw [hc, cond_true, List.drop_eq_nil_of_le (by omega)]
        rfl
theorem slices_CompareFunc__uint64_eq (s1 s2 : List Int) (cmp : Int → Int → Int) : slices_CompareFunc__uint64_raw s1 s2 cmp = some (cmpL cmp s1 s2) := by
  rw [slices_CompareFunc__uint64_raw, slices_CompareFunc__uint64_l0s_eq, List.drop_zero, ← cmpS_L]
  cases cmpS cmp s1 s2 with
  | inr v => rfl
  | inl u =>
    show (bif _ then _ else _) = _
    rw [List.length_map, List.length_map]
    by_cases h : s1.length < s2.length
    · rw [decide_eq_true (by omega), if_pos h]; rfl
    · rw [decide_eq_false (by omega), if_neg h]; rfl
theorem slices_CompareFunc__uint64_ok (s1 s2 : List Int) (F_cmp : FuncId) (C_cmp : List AV) (cmp : Int → Int → Int) (P_cmp : plainL C_cmp = true) (O_cmp : C_cmp.all oneA = true) (H_cmp : ∀ (y0 : Int) (y1 : Int), ACalls Try.prog tab.S F_cmp ([.sc (.int .u64 y0), .sc (.int .u64 y1)] ++ C_cmp) [] (.sc (.int .i64 (cmp y0 y1))) []) (f_s1 f_s2 : Bool) :
    ACalls Try.prog tab.S 90 [.sl 25 (List.map (intA .u64) s1) f_s1, .sl 25 (List.map (intA .u64) s2) f_s2, .fn F_cmp C_cmp] [] (.sc (.int .i64 (cmpL cmp s1 s2))) [] :=
  slices_CompareFunc__uint64_walk s1 s2 F_cmp C_cmp cmp P_cmp O_cmp H_cmp f_s1 f_s2 _ (slices_CompareFunc__uint64_eq s1 s2 cmp)

/-! ### head.Compare: function 89 -/
noncomputable def head_Compare_F : Go.Sh.Fn := ⟨89, bodyOf Try.f89, 8⟩
def head_Compare (a : List Int) (b : List Int) : Int :=
  (cmpL cmp_Compare_uint64 a b)
theorem head_Compare_calls (a : List Int) (b : List Int) : ACalls Try.prog tab.S 89 [.arr .u64 12 a, .arr .u64 12 b] [] (.sc (.int .i64 (head_Compare a b))) [] := by
  generalize H : head_Compare a b = r
  refine .of_AX head_Compare_F Try.func89 fun c0 hc0 => ?_
  rw [head_Compare] at H
  refine .sg 1 [0,1] (.rg (.bx [1,2] (.bx [2,3] (.sg 1 [2,3] (.dn (.sg 1 [2,3] (.rg (.se [3,5] (.se [5,6] (.cl_ [7] (caps := []) (slices_CompareFunc__uint64_ok a b 91 [] cmp_Compare_uint64 rfl rfl (fun y0 y1 => cmp_Compare_uint64_calls y0 y1) true true) (.same rfl (.same rfl (.fn (caps := []) (by kernel_rfl) .nil))) (by kernel_rfl) rfl rfl (.sg 1 [4] (.dn ?_))))))))))))
  subst H
  exact .ret Try.func89 hc0

/-! ### cmp.Or: function 88 -/
noncomputable def cmp_Or_int_F : Go.Sh.Fn := ⟨88, bodyOf Try.f88, 18⟩
def cmp_Or_int_l0s : List Int → Sum (Unit) (Int)
  | [] =>
    (.inl ())
  | x :: rest =>
    (bif (x != 0) then
      (.inr x)
    else
      cmp_Or_int_l0s rest )
theorem cmp_Or_int_l0_walk (vals : List Int) (f_vals : Bool) (r : Int) (c0 : Ctx) (hc0 : c0.m.length = 0) (res : Sum (Unit) (Int)) (J : ∀ w : Unit, res = .inl w → AX Try.prog tab cmp_Or_int_F c0 (Rp tab.S c0 (.sc (.int .i64 r)) []) (some ⟨[.code [1, 1, 1]], [(3, .sc (.int .i64 0))], []⟩)) (Jr : ∀ w, res = .inr w → w = r) :
    ∀ (rest : List Int) (t8 : Nat) (z : Int) (hI : z = ((t8 : Nat) : Int)) (hd : vals.drop t8 = rest) (H : cmp_Or_int_l0s rest = res), AX Try.prog tab cmp_Or_int_F c0 (Rp tab.S c0 (.sc (.int .i64 r)) []) (some ⟨[.code [1, 1, 0, 1, 0, 0], .loop [1, 1, 0, 1, 0], .blk 0, .code [1, 1, 1]], [(3, .sc (.int .i64 0)), (6, .sl 3 (List.map (intA .i64) vals) f_vals), (7, .sc (.int .i64 (((List.map (intA .i64) vals).length : Nat) : Int))), (8, .sc (.int .i64 z))], []⟩) := by
  intro rest
  induction rest with
  | nil =>
    intro t8 z hI hd  H
    subst hI
    rw [cmp_Or_int_l0s] at H
    refine .facts 6 fun hf => ?_
    have hlen : vals.length ≤ 9223372036854775807 := by have hq := len_ok hf.2.1; rw [List.length_map] at hq; exact hq
    have hge : vals.length ≤ t8 := List.drop_eq_nil_iff.1 hd
    have hc : (decide (((t8 : Nat) : Int) < (((List.map (intA .i64) vals).length : Nat) : Int))) = false := by rw [List.length_map]; exact decide_eq_false (by omega)
    exact .sg 3 [3,6,7,8,9] (.cdF hc (.sg 1 [3] (.kp [3] (.to (J () H.symm)))))
  | cons x rest ih =>
    intro t8 z hI hd  H
    subst hI
    rw [cmp_Or_int_l0s] at H
    refine .facts 6 fun hf => ?_
    have hlen : vals.length ≤ 9223372036854775807 := by have hq := len_ok hf.2.1; rw [List.length_map] at hq; exact hq
    obtain ⟨hlt, hv_t8, hd2⟩ := drop_cons hd
    have hc : (decide (((t8 : Nat) : Int) < (((List.map (intA .i64) vals).length : Nat) : Int))) = true := by rw [List.length_map]; exact decide_eq_true (by omega)
    have hw : IntKind.i64.wrap (((t8 : Nat) : Int) + 1) = ((t8 + 1 : Nat) : Int) := wrapI_succ (by omega)
    refine .sg 3 [3,6,7,8,9] (.cdT hc (.sg 4 [3,6,7,8] (.rg (.xi [3,6,7,8,10] (intA .i64) hv_t8 (.sg 2 [3,5,6,7,8] (.dn (.sg 2 [3,5,6,7,8,14] (.cd (x != 0) H (fun hb H => ?_) (fun hb H => ?_)))))))))
    ·
      refine .sg 2 [2] ?_
      subst H
      obtain rfl := Jr _ rfl
      exact .ret Try.func88 hc0
    ·
      exact .sg 3 [3,6,7,8] (.kp [3,6,7,8] (.into (.cl (ih (t8 + 1) _ hw hd2 H))))

def cmp_Or_int (vals : List Int) : Int :=
  sumG (fun q => q) (cmp_Or_int_l0s vals) fun v =>
  0
theorem cmp_Or_int_calls (vals : List Int) (f_vals : Bool) : ACalls Try.prog tab.S 88 [.sl 3 (List.map (intA .i64) vals) f_vals] [] (.sc (.int .i64 (cmp_Or_int vals))) [] := by
  generalize H : cmp_Or_int vals = r
  refine .of_AX cmp_Or_int_F Try.func88 fun c0 hc0 => ?_
  rw [cmp_Or_int] at H
  refine .sg 8 [3,6,7,8] ?_
  rcases sumG_eq H with ⟨v, hv, H⟩ | ⟨r1, hv, hr1⟩
  case inr =>
    refine .into ?_
    replace hr1 : r1 = r := hr1
    subst hr1
    exact .to (cmp_Or_int_l0_walk vals f_vals _ c0 hc0 (.inr _) (fun _ e => by cases e) (fun _ e => (Sum.inr.inj e).symm) vals 0 _ rfl rfl hv)
  refine .into (.to (cmp_Or_int_l0_walk vals f_vals r c0 hc0 (.inl v) (fun w e => ?_) (fun _ e => by cases e) vals 0 _ rfl rfl hv))
  have e := Sum.inl.inj e
  subst e
  refine .sg 2 [2] ?_
  subst H
  exact .ret Try.func88 hc0

/-! ### cube.Compare: function 87 -/
noncomputable def cube_Compare_F : Go.Sh.Fn := ⟨87, bodyOf Try.f87, 17⟩
def cube_Compare (a : Cube) (b : Cube) : Int :=
  (cmp_Or_int [(head_Compare a.Care b.Care), (head_Compare a.Value b.Value)])
theorem cube_Compare_calls (a : Cube) (b : Cube) : ACalls Try.prog tab.S 87 [Cube.av a, Cube.av b] [] (.sc (.int .i64 (cube_Compare a b))) [] := by
  generalize H : cube_Compare a b = r
  refine .of_AX cube_Compare_F Try.func87 fun c0 hc0 => ?_
  rw [cube_Compare] at H
  refine .sg 3 [2,3] (.rg (.sg 4 [2,3,6,8] (.cp [2,3,9] (head_Compare_calls a.Care b.Care) (.sg 4 [9,11,13] (.cp [9,14] (head_Compare_calls a.Value b.Value) (.sg 1 [15] (.cp [16] (cmp_Or_int_calls [(head_Compare a.Care b.Care), (head_Compare a.Value b.Value)] true) (.sg 1 [4] (.dn ?_)))))))))
  subst H
  exact .ret Try.func87 hc0

/-! ### rule.compare: function 82 -/
noncomputable def rule_compare_F : Go.Sh.Fn := ⟨82, bodyOf Try.f82, 20⟩
def rule_compare (a : Rule) (b : Rule) : Int :=
  (bif (a.Prio != b.Prio) then
    (bif (decide (a.Prio > b.Prio)) then
      (-1)
    else
      1)
  else
    (cube_Compare a.Match b.Match))
theorem rule_compare_calls (a : Rule) (b : Rule) : ACalls Try.prog tab.S 82 [Rule.av a, Rule.av b] [] (.sc (.int .i64 (rule_compare a b))) [] := by
  generalize H : rule_compare a b = r
  refine .of_AX rule_compare_F Try.func82 fun c0 hc0 => ?_
  rw [rule_compare] at H
  refine .sg 5 [2,3,9] (.cd (a.Prio != b.Prio) H (fun hb H => ?_) (fun hb H => ?_))
  ·
    refine .sg 3 [14] (.cd (decide (a.Prio > b.Prio)) H (fun hb H => ?_) (fun hb H => ?_))
    ·
      refine .sg 2 [4] ?_
      subst H
      exact .ret Try.func82 hc0
    ·
      refine .sg 3 [4] ?_
      subst H
      exact .ret Try.func82 hc0
  ·
    refine .sg 2 [2,3] (.rg (.sg 4 [16,18] (.cp [19] (cube_Compare_calls a.Match b.Match) (.sg 1 [4] (.dn ?_)))))
    subst H
    exact .ret Try.func82 hc0

/-! ### rule.Before: function 72 -/
noncomputable def rule_Before_F : Go.Sh.Fn := ⟨72, bodyOf Try.f72, 9⟩
def rule_Before (a : Rule) (b : Rule) : Bool :=
  (decide ((rule_compare a b) < 0))
theorem rule_Before_calls (a : Rule) (b : Rule) : ACalls Try.prog tab.S 72 [Rule.av a, Rule.av b] [] (.sc (.bool (rule_Before a b))) [] := by
  generalize H : rule_Before a b = r
  refine .of_AX rule_Before_F Try.func72 fun c0 hc0 => ?_
  rw [rule_Before] at H
  refine .sg 3 [2,3] (.rg (.sg 2 [5,6] (.cp [7] (rule_compare_calls a b) (.sg 2 [4] (.dn ?_)))))
  subst H
  exact .ret Try.func72 hc0

/-! ### rule.Key: function 74 -/
noncomputable def rule_Key_F : Go.Sh.Fn := ⟨74, bodyOf Try.f74, 17⟩
def rule_Key (a : Rule) (b : Rule) : Bool :=
  (((a.Match.Value == b.Match.Value) && (a.Match.Care == b.Match.Care)) && (a.Prio == b.Prio))
theorem rule_Key_calls (a : Rule) (b : Rule) : ACalls Try.prog tab.S 74 [Rule.av a, Rule.av b] [] (.sc (.bool (rule_Key a b))) [] := by
  generalize H : rule_Key a b = r
  refine .of_AX rule_Key_F Try.func74 fun c0 hc0 => ?_
  rw [rule_Key] at H
  refine .sg 3 [2,3] (.rg (.sg 4 [2,3,6,8] (.eq_ [2,3,9] 9 (.sg 1 [2,3,10] (.mx 0 [16] (.sg 1 [4] (.dn ?_)))))))
  subst H
  exact .ret Try.func74 hc0

/-! ### rule.Table: function 59 -/
noncomputable def rule_Table_F : Go.Sh.Fn := ⟨59, bodyOf Try.f59, 30⟩
def rule_Table_l0s (list : List Rule) : List Rule → Nat → Option (Sum (Unit) (Bool))
  | [], t7 =>
    some (.inl ())
  | x :: rest, t7 =>
    (bif (!(rule_Sound x)) then
      some (.inr false)
    else
      (bif (decide (((t7 : Nat) : Int) > 0)) then
        (ixO list (IntKind.i64.wrap (((t7 : Nat) : Int) - 1))).bind fun x1 =>
        (bif (!(rule_Before x1 x)) then
          some (.inr false)
        else
          rule_Table_l0s list rest (t7 + 1) )
      else
        rule_Table_l0s list rest (t7 + 1) ))
theorem rule_Table_l0_walk (list : List Rule) (f_list : Bool) (r : Bool) (c0 : Ctx) (hc0 : c0.m.length = 0) (res : Sum (Unit) (Bool)) (J : ∀ w : Unit, res = .inl w → AX Try.prog tab rule_Table_F c0 (Rp tab.S c0 (.sc (.bool r)) []) (some ⟨[.code [1, 1]], [], []⟩)) (Jr : ∀ w, res = .inr w → w = r) :
    ∀ (rest : List Rule) (t7 : Nat) (z : Int) (hI : z = ((t7 : Nat) : Int)) (hd : list.drop t7 = rest) (H : rule_Table_l0s list rest t7 = some res), AX Try.prog tab rule_Table_F c0 (Rp tab.S c0 (.sc (.bool r)) []) (some ⟨[.code [1, 0, 1, 0, 0], .loop [1, 0, 1, 0], .blk 0, .code [1, 1]], [(0, .sl 68 (List.map Rule.av list) f_list), (5, .sl 68 (List.map Rule.av list) f_list), (6, .sc (.int .i64 (((List.map Rule.av list).length : Nat) : Int))), (7, .sc (.int .i64 z))], []⟩) := by
  intro rest
  induction rest with
  | nil =>
    intro t7 z hI hd  H
    subst hI
    rw [rule_Table_l0s] at H
    refine .facts 0 fun hf => ?_
    have hlen : list.length ≤ 9223372036854775807 := by have hq := len_ok hf.2.1; rw [List.length_map] at hq; exact hq
    have hge : list.length ≤ t7 := List.drop_eq_nil_iff.1 hd
    have hc : (decide (((t7 : Nat) : Int) < (((List.map Rule.av list).length : Nat) : Int))) = false := by rw [List.length_map]; exact decide_eq_false (by omega)
    exact .sg 3 [0,5,6,7,8] (.cdF hc (.sg 1 [] (.kp [] (.to (J () (Option.some.inj H).symm)))))
  | cons x rest ih =>
    intro t7 z hI hd  H
    subst hI
    rw [rule_Table_l0s] at H
    refine .facts 0 fun hf => ?_
    have hlen : list.length ≤ 9223372036854775807 := by have hq := len_ok hf.2.1; rw [List.length_map] at hq; exact hq
    obtain ⟨hlt, hv_t7, hd2⟩ := drop_cons hd
    have hc : (decide (((t7 : Nat) : Int) < (((List.map Rule.av list).length : Nat) : Int))) = true := by rw [List.length_map]; exact decide_eq_true (by omega)
    have hw : IntKind.i64.wrap (((t7 : Nat) : Int) + 1) = ((t7 + 1 : Nat) : Int) := wrapI_succ (by omega)
    refine .sg 3 [0,5,6,7,8] (.cdT hc (.sg 4 [0,5,6,7] (.rg (.sg 1 [0,5,6,7,9] (.xi [0,5,6,7,9,10] Rule.av hv_t7 (.sg 4 [0,3,4,5,6,7] (.dn (.sg 1 [0,3,4,5,6,7] (.rg (.sg 1 [0,3,4,5,6,7,12] (.cp [0,3,4,5,6,7,13] (rule_Sound_calls x) (.sg 2 [0,3,4,5,6,7,15] (.sp 15 (!(rule_Sound x)) H (fun hb H => ?_) (fun hb H => ?_))))))))))))))
    ·
      refine .sg 13 [0,5,6,7,28] (.dn (.sg 3 [2] ?_))
      obtain rfl := Option.some.inj H
      obtain rfl := Jr _ rfl
      exact .ret Try.func59 hc0
    ·
      refine .sg 3 [0,3,4,5,6,7,15,18] (.sp 18 (decide (((t7 : Nat) : Int) > 0)) H (fun hb H => ?_) (fun hb H => ?_))
      ·
        refine .sg 3 [0,4,5,6,7,15,18,19,21] (bndO H fun x1 hv H => (.xi [0,4,5,6,7,15,18,22] Rule.av hv (.sg 2 [0,5,6,7,15,18,23,24] (.cp [0,5,6,7,15,18,25] (rule_Before_calls x1 x) (.sg 3 [0,5,6,7,28] (.dn (.cd (!(rule_Before x1 x)) H (fun hb H => ?_) (fun hb H => ?_))))))))
        ·
          refine .sg 2 [2] ?_
          obtain rfl := Option.some.inj H
          obtain rfl := Jr _ rfl
          exact .ret Try.func59 hc0
        ·
          exact .sg 3 [0,5,6,7] (.tl hc0 [] [0,5,6,7] (.into (.cl (ih (t7 + 1) _ hw hd2 H))))
      ·
        exact .sg 10 [0,5,6,7,28] (.dn (.sg 4 [0,5,6,7] (.tl hc0 [] [0,5,6,7] (.into (.cl (ih (t7 + 1) _ hw hd2 H))))))

def rule_Table_raw (list : List Rule) : Option (Bool) :=
  loopO (rule_Table_l0s list list 0) fun v =>
  some true
theorem rule_Table_walk (list : List Rule) (f_list : Bool) (r : Bool) (H : rule_Table_raw list = some r) : ACalls Try.prog tab.S 59 [.sl 68 (List.map Rule.av list) f_list] [] (.sc (.bool r)) [] := by
  refine .of_AX rule_Table_F Try.func59 fun c0 hc0 => ?_
  rw [rule_Table_raw] at H
  refine .sg 6 [0,5,6,7] ?_
  rcases loopO_some H with ⟨v, hv, H⟩ | hv
  case inr =>
    exact .into (.to (rule_Table_l0_walk list f_list _ c0 hc0 (.inr _) (fun _ e => by cases e) (fun _ e => (Sum.inr.inj e).symm) list 0 _ rfl rfl hv))
  refine .into (.to (rule_Table_l0_walk list f_list r c0 hc0 (.inl v) (fun w e => ?_) (fun _ e => by cases e) list 0 _ rfl rfl hv))
  have e := Sum.inl.inj e
  subst e
  refine .sg 2 [2] ?_
  obtain rfl := Option.some.inj H
  exact .ret Try.func59 hc0

def tableF : Option Rule → List Rule → Bool
  | _, [] => true
  | p, x :: l => rule_Sound x && (match p with | some y => rule_Before y x | none => true) && tableF (some x) l
def befO (p : Option Rule) (x : Rule) : Bool := match p with | some y => rule_Before y x | none => true
theorem tableF_cons (p : Option Rule) (x : Rule) (l : List Rule) : tableF p (x :: l) = (rule_Sound x && befO p x && tableF (some x) l) := by cases p <;> rfl
def tableR (l : List Rule) : Bool := tableF none l
theorem rule_Table_l0s_eq (all : List Rule) (hall : all.length ≤ 1000000000000000) : ∀ (l : List Rule) (i : Nat), all.drop i = l → rule_Table_l0s all l i = some (if tableF (if i = 0 then none else all[i - 1]?) l then .inl () else .inr false)
  | [], i, _ => by rw [rule_Table_l0s, tableF]; rfl
  | x :: l, i, h => by
      have hlt : i < all.length := by
        rcases Nat.lt_or_ge i all.length with q | q
        · exact q
        · rw [List.drop_eq_nil_of_le q] at h; cases h
      rw [List.drop_eq_getElem_cons hlt] at h
      injection h with h1 h2
      have ih : rule_Table_l0s all l (i + 1) = some (if tableF (some x) l then .inl () else .inr false) := by
        have q := rule_Table_l0s_eq all hall l (i + 1) h2
        have e : (if i + 1 = 0 then (none : Option Rule) else all[i + 1 - 1]?) = some x := by rw [if_neg (by omega), Nat.add_sub_cancel, List.getElem?_eq_getElem hlt, h1]
        rw [e] at q
        exact q
      rw [rule_Table_l0s, tableF_cons]
      cases hs : rule_Sound x
      · rfl
      · simp only [Bool.not_true, cond_false, Bool.true_and]
        by_cases hi : i = 0
        · subst hi
          rw [decide_eq_false (by omega), cond_false, ih, if_pos rfl]
          rfl
        · rw [decide_eq_true (by omega), cond_true, if_neg hi, wrap_eq (by omega) (by omega)]
          have e : ((i : Nat) : Int) - 1 = ((i - 1 : Nat) : Int) := by omega
          rw [e, ixO_lt (show i - 1 < all.length by omega), Option.bind_some, List.getElem?_eq_getElem (by omega), ih]
          show (bif !(rule_Before all[i - 1] x) then _ else _) = some (if (rule_Before all[i - 1] x && _) = true then _ else _)
          cases rule_Before all[i - 1] x <;> rfl
theorem rule_Table_ok (l : List Rule) (f : Bool) : ACalls Try.prog tab.S 59 [.sl 68 (List.map Rule.av l) f] [] (.sc (.bool (tableR l))) [] := by
  refine ACalls.facts (ent_of Try.func59 (by kernel_rfl) (by kernel_rfl)) fun hf => ?_
  have l0 : l.length * 272 ≤ 140737488355328 := by have h := hf.1.1; rw [List.length_map] at h; exact h
  refine rule_Table_walk l f _ ?_
  rw [rule_Table_raw, rule_Table_l0s_eq l (by omega) l 0 rfl, if_pos rfl]
  unfold tableR
  cases tableF none l <;> rfl

/-! ### code.body: function 40 -/
noncomputable def code_body_F : Go.Sh.Fn := ⟨40, bodyOf Try.f40, 89⟩
def code_body (m1 : Msg) : Bool :=
  (bif (m1.Kind == 1) then
    ((code_empty ({ m1 with Mod := ({ Kind := 0, Match := ({ Value := [0, 0, 0, 0, 0, 0, 0, 0, 0, 0, 0, 0], Care := [0, 0, 0, 0, 0, 0, 0, 0, 0, 0, 0, 0] } : Cube), Prio := 0, Acts := [], Idle := 0, Hard := 0, Owner := 0, Check := false } : Mod) } : Msg)) && (mods_Sound m1.Mod))
  else
    (bif (m1.Kind == 6) then
      (((code_empty ({ m1 with E := 0 } : Msg)) && (decide (m1.E ≥ 1))) && (decide (m1.E ≤ 17)))
    else
      (bif (m1.Kind == 8) then
        ((((code_empty ({ m1 with Port := 0, Head := [0, 0, 0, 0, 0, 0, 0, 0, 0, 0, 0, 0] } : Msg)) && (decide (m1.Port ≥ 1))) && (decide (m1.Port ≤ 16))) && (head_Sound m1.Head))
      else
        (bif (bif (m1.Kind == 9) then (m1.Kind == 9) else (m1.Kind == 10)) then
          (((code_empty ({ m1 with Rules := [] } : Msg)) && (tableR m1.Rules)) && ((m1.Kind == 10) || ((((List.map Rule.av m1.Rules).length : Nat) : Int) == 1)))
        else
          (((code_empty m1) && (decide (m1.Kind ≥ 1))) && (decide (m1.Kind ≤ 10)))))))
theorem code_body_calls (m1 : Msg) : ACalls Try.prog tab.S 40 [Msg.av m1] [] (.sc (.bool (code_body m1))) [] := by
  generalize H : code_body m1 = r
  refine .of_AX code_body_F Try.func40 fun c0 hc0 => ?_
  rw [code_body] at H
  refine .sg 10 [1,3,6,7] (.cd (m1.Kind == 1) H (fun hb H => ?_) (fun hb H => ?_))
  ·
    refine .sg 3 [1,3] (.rg (.sg 1 [1,11] (.cp [1,12] (ds := [(87, false)]) (code_empty_calls ({ m1 with Mod := ({ Kind := 0, Match := ({ Value := [0, 0, 0, 0, 0, 0, 0, 0, 0, 0, 0, 0], Care := [0, 0, 0, 0, 0, 0, 0, 0, 0, 0, 0, 0] } : Cube), Prio := 0, Acts := [], Idle := 0, Hard := 0, Owner := 0, Check := false } : Mod) } : Msg)) (.sg 1 [1,13] (.mm 13 (code_empty ({ m1 with Mod := ({ Kind := 0, Match := ({ Value := [0, 0, 0, 0, 0, 0, 0, 0, 0, 0, 0, 0], Care := [0, 0, 0, 0, 0, 0, 0, 0, 0, 0, 0, 0] } : Cube), Prio := 0, Acts := [], Idle := 0, Hard := 0, Owner := 0, Check := false } : Mod) } : Msg)) 4 [.pure, .pure, .read, .pure] [17] 17 (fun z => .sc (.bool (z && (mods_Sound m1.Mod)))) ?J2 (fun hb J => ?ht2) (fun hb J => ?hf2))))))
    case ht2 =>
      exact .sg 2 [13,15] (.cp [13,16] (mods_Sound_calls m1.Mod) (.sg 1 [17] (.cl J)))
    case hf2 =>
      exact .sg 4 [17] (.cl J)
    refine .sg 1 [2] (.dn ?_)
    subst H
    exact .ret Try.func40 hc0
  ·
    refine .sg 2 [1,3,6,18] (.cd (m1.Kind == 6) H (fun hb H => ?_) (fun hb H => ?_))
    ·
      refine .sg 3 [1,3] (.rg (.sg 1 [1,21] (.cp [1,22] (code_empty_calls ({ m1 with E := 0 } : Msg)) (.sg 1 [1,23] (.mx 0 [1,27] (.sg 1 [1,28] (.mx 0 [32] (.sg 1 [2] (.dn ?_)))))))))
      subst H
      exact .ret Try.func40 hc0
    ·
      refine .sg 2 [1,3,6,33] (.cd (m1.Kind == 8) H (fun hb H => ?_) (fun hb H => ?_))
      ·
        refine .sg 3 [1,3] (.rg (.sg 1 [1,38] (.cp [1,39] (code_empty_calls ({ m1 with Port := 0, Head := [0, 0, 0, 0, 0, 0, 0, 0, 0, 0, 0, 0] } : Msg)) (.sg 1 [1,40] (.mx 0 [1,44] (.sg 1 [1,45] (.mx 0 [1,49] (.sg 1 [1,50] (.mm 50 (((code_empty ({ m1 with Port := 0, Head := [0, 0, 0, 0, 0, 0, 0, 0, 0, 0, 0, 0] } : Msg)) && (decide (m1.Port ≥ 1))) && (decide (m1.Port ≤ 16))) 4 [.pure, .pure, .read, .pure] [54] 54 (fun z => .sc (.bool (z && (head_Sound m1.Head)))) ?J12 (fun hb J => ?ht12) (fun hb J => ?hf12))))))))))
        case ht12 =>
          exact .sg 2 [50,52] (.cp [50,53] (head_Sound_calls m1.Head) (.sg 1 [54] (.cl J)))
        case hf12 =>
          exact .sg 4 [54] (.cl J)
        refine .sg 1 [2] (.dn ?_)
        subst H
        exact .ret Try.func40 hc0
      ·
        refine .sg 3 [1,3,6,55] (.jn (m1.Kind == 9) [1, 3, 55] (fun z => [(55, .sc (.bool (bif z then (m1.Kind == 9) else (m1.Kind == 10))))]) ?J13 (fun hb J => ?ht13) (fun hb J => ?hf13))
        case ht13 =>
          exact .sg 1 [1,3,55] (.cl J)
        case hf13 =>
          exact .sg 1 [1,3,55] (.cl J)
        refine .cd (bif (m1.Kind == 9) then (m1.Kind == 9) else (m1.Kind == 10)) H (fun hb H => ?_) (fun hb H => ?_)
        ·
          refine .sg 3 [1,3] (.rg (.sg 1 [1,59] (.cp [1,60] (ds := [(0, true), (68, false)]) (code_empty_calls ({ m1 with Rules := [] } : Msg)) (.sg 1 [1,61] (.mm 61 (code_empty ({ m1 with Rules := [] } : Msg)) 4 [.pure, .pure, .read, .pure] [1, 65] 65 (fun z => .sc (.bool (z && (tableR m1.Rules)))) ?J18 (fun hb J => ?ht18) (fun hb J => ?hf18))))))
          case ht18 =>
            exact .sg 2 [1,61,63] (.cp [1,61,64] (rule_Table_ok m1.Rules false) (.sg 1 [1,65] (.cl J)))
          case hf18 =>
            exact .sg 4 [1,65] (.cl J)
          refine .sg 1 [1,66] (.mm 66 ((code_empty ({ m1 with Rules := [] } : Msg)) && (tableR m1.Rules)) 10 [.pure, .pure, .pure, .pure, .read, .pure, .pure, .pure, .read, .pure] [76] 76 (fun z => .sc (.bool (z && ((m1.Kind == 10) || ((((List.map Rule.av m1.Rules).length : Nat) : Int) == 1))))) ?J20 (fun hb J => ?ht20) (fun hb J => ?hf20))
          case ht20 =>
            exact .sg 4 [1,66,70] (.mx 1 [66,75] (.sg 1 [76] (.cl J)))
          case hf20 =>
            exact .sg 10 [76] (.cl J)
          refine .sg 1 [2] (.dn ?_)
          subst H
          exact .ret Try.func40 hc0
        ·
          refine .sg 3 [1] (.rg (.sg 1 [1,77] (.cp [1,78] (code_empty_calls m1) (.sg 1 [1,79] (.mx 0 [1,83] (.sg 1 [1,84] (.mx 0 [88] (.sg 1 [2] (.dn ?_)))))))))
          subst H
          exact .ret Try.func40 hc0

/-! ### code.Sound: function 18 -/
noncomputable def code_Sound_F : Go.Sh.Fn := ⟨18, bodyOf Try.f18, 15⟩
def code_Sound (m1 : Msg) : Bool :=
  (((decide (m1.Txn ≥ 0)) && (decide (m1.Txn ≤ 4294967295))) && (code_body m1))
theorem code_Sound_calls (m1 : Msg) : ACalls Try.prog tab.S 18 [Msg.av m1] [] (.sc (.bool (code_Sound m1))) [] := by
  generalize H : code_Sound m1 = r
  refine .of_AX code_Sound_F Try.func18 fun c0 hc0 => ?_
  rw [code_Sound] at H
  refine .sg 3 [1] (.rg (.sg 4 [1,6] (.mx 0 [1,10] (.sg 1 [1,11] (.mm 11 ((decide (m1.Txn ≥ 0)) && (decide (m1.Txn ≤ 4294967295))) 3 [.pure, .pure, .read] [14] 14 (fun z => .sc (.bool (z && (code_body m1)))) ?J2 (fun hb J => ?ht2) (fun hb J => ?hf2))))))
  case ht2 =>
    exact .sg 1 [11,12] (.cp [11,13] (code_body_calls m1) (.sg 1 [14] (.cl J)))
  case hf2 =>
    exact .sg 3 [14] (.cl J)
  refine .sg 1 [2] (.dn ?_)
  subst H
  exact .ret Try.func18 hc0

end Go.Proofs.Ythfidfjogecnpaa

set_option linter.unusedVariables false
set_option linter.unusedSimpArgs false
set_option maxRecDepth 100000
set_option maxHeartbeats 4000000
namespace Go.Proofs.Ythfidfjogecnpaa
open Go.Sh
/-! ### code.Decode: function 10 -/
noncomputable def code_Decode_F : Go.Sh.Fn := ⟨10, bodyOf Try.f10, 68⟩
def code_Decode_raw (b : List Int) : Option (Msg × Int) :=
  (code_reader_num_raw ({ b := b, end_ := false } : Reader) 1).bind fun v =>
  (code_reader_num_raw v.2 4).bind fun v1 =>
  (bif (v.1 == 1) then
    (code_reader_mod_raw v1.2).bind fun v2 =>
    (bif v2.2.2.end_ then
      some (({ Kind := 0, Txn := 0, E := 0, Mod := ({ Kind := 0, Match := ({ Value := [0, 0, 0, 0, 0, 0, 0, 0, 0, 0, 0, 0], Care := [0, 0, 0, 0, 0, 0, 0, 0, 0, 0, 0, 0] } : Cube), Prio := 0, Acts := [], Idle := 0, Hard := 0, Owner := 0, Check := false } : Mod), Port := 0, Head := [0, 0, 0, 0, 0, 0, 0, 0, 0, 0, 0, 0], Rules := [] } : Msg), 8)
    else
      (bif (((!v2.2.1) || (decide ((((List.map (intA .u8) v2.2.2.b).length : Nat) : Int) > 0))) || (!(code_Sound ({ Kind := v.1, Txn := v1.1, E := 0, Mod := v2.1, Port := 0, Head := [0, 0, 0, 0, 0, 0, 0, 0, 0, 0, 0, 0], Rules := [] } : Msg)))) then
        some (({ Kind := 0, Txn := 0, E := 0, Mod := ({ Kind := 0, Match := ({ Value := [0, 0, 0, 0, 0, 0, 0, 0, 0, 0, 0, 0], Care := [0, 0, 0, 0, 0, 0, 0, 0, 0, 0, 0, 0] } : Cube), Prio := 0, Acts := [], Idle := 0, Hard := 0, Owner := 0, Check := false } : Mod), Port := 0, Head := [0, 0, 0, 0, 0, 0, 0, 0, 0, 0, 0, 0], Rules := [] } : Msg), 2)
      else
        some (({ Kind := v.1, Txn := v1.1, E := 0, Mod := v2.1, Port := 0, Head := [0, 0, 0, 0, 0, 0, 0, 0, 0, 0, 0, 0], Rules := [] } : Msg), 0)))
  else
    (bif (v.1 == 6) then
      (code_reader_num_raw v1.2 1).bind fun v3 =>
      (bif v3.2.end_ then
        some (({ Kind := 0, Txn := 0, E := 0, Mod := ({ Kind := 0, Match := ({ Value := [0, 0, 0, 0, 0, 0, 0, 0, 0, 0, 0, 0], Care := [0, 0, 0, 0, 0, 0, 0, 0, 0, 0, 0, 0] } : Cube), Prio := 0, Acts := [], Idle := 0, Hard := 0, Owner := 0, Check := false } : Mod), Port := 0, Head := [0, 0, 0, 0, 0, 0, 0, 0, 0, 0, 0, 0], Rules := [] } : Msg), 8)
      else
        (bif ((decide ((((List.map (intA .u8) v3.2.b).length : Nat) : Int) > 0)) || (!(code_Sound ({ Kind := v.1, Txn := v1.1, E := v3.1, Mod := ({ Kind := 0, Match := ({ Value := [0, 0, 0, 0, 0, 0, 0, 0, 0, 0, 0, 0], Care := [0, 0, 0, 0, 0, 0, 0, 0, 0, 0, 0, 0] } : Cube), Prio := 0, Acts := [], Idle := 0, Hard := 0, Owner := 0, Check := false } : Mod), Port := 0, Head := [0, 0, 0, 0, 0, 0, 0, 0, 0, 0, 0, 0], Rules := [] } : Msg)))) then
          some (({ Kind := 0, Txn := 0, E := 0, Mod := ({ Kind := 0, Match := ({ Value := [0, 0, 0, 0, 0, 0, 0, 0, 0, 0, 0, 0], Care := [0, 0, 0, 0, 0, 0, 0, 0, 0, 0, 0, 0] } : Cube), Prio := 0, Acts := [], Idle := 0, Hard := 0, Owner := 0, Check := false } : Mod), Port := 0, Head := [0, 0, 0, 0, 0, 0, 0, 0, 0, 0, 0, 0], Rules := [] } : Msg), 2)
        else
          some (({ Kind := v.1, Txn := v1.1, E := v3.1, Mod := ({ Kind := 0, Match := ({ Value := [0, 0, 0, 0, 0, 0, 0, 0, 0, 0, 0, 0], Care := [0, 0, 0, 0, 0, 0, 0, 0, 0, 0, 0, 0] } : Cube), Prio := 0, Acts := [], Idle := 0, Hard := 0, Owner := 0, Check := false } : Mod), Port := 0, Head := [0, 0, 0, 0, 0, 0, 0, 0, 0, 0, 0, 0], Rules := [] } : Msg), 0)))
    else
      (bif (v.1 == 8) then
        (code_reader_num_raw v1.2 1).bind fun v4 =>
        (code_reader_head_raw v4.2).bind fun v5 =>
        (bif v5.2.end_ then
          some (({ Kind := 0, Txn := 0, E := 0, Mod := ({ Kind := 0, Match := ({ Value := [0, 0, 0, 0, 0, 0, 0, 0, 0, 0, 0, 0], Care := [0, 0, 0, 0, 0, 0, 0, 0, 0, 0, 0, 0] } : Cube), Prio := 0, Acts := [], Idle := 0, Hard := 0, Owner := 0, Check := false } : Mod), Port := 0, Head := [0, 0, 0, 0, 0, 0, 0, 0, 0, 0, 0, 0], Rules := [] } : Msg), 8)
        else
          (bif ((decide ((((List.map (intA .u8) v5.2.b).length : Nat) : Int) > 0)) || (!(code_Sound ({ Kind := v.1, Txn := v1.1, E := 0, Mod := ({ Kind := 0, Match := ({ Value := [0, 0, 0, 0, 0, 0, 0, 0, 0, 0, 0, 0], Care := [0, 0, 0, 0, 0, 0, 0, 0, 0, 0, 0, 0] } : Cube), Prio := 0, Acts := [], Idle := 0, Hard := 0, Owner := 0, Check := false } : Mod), Port := v4.1, Head := v5.1, Rules := [] } : Msg)))) then
            some (({ Kind := 0, Txn := 0, E := 0, Mod := ({ Kind := 0, Match := ({ Value := [0, 0, 0, 0, 0, 0, 0, 0, 0, 0, 0, 0], Care := [0, 0, 0, 0, 0, 0, 0, 0, 0, 0, 0, 0] } : Cube), Prio := 0, Acts := [], Idle := 0, Hard := 0, Owner := 0, Check := false } : Mod), Port := 0, Head := [0, 0, 0, 0, 0, 0, 0, 0, 0, 0, 0, 0], Rules := [] } : Msg), 2)
          else
            some (({ Kind := v.1, Txn := v1.1, E := 0, Mod := ({ Kind := 0, Match := ({ Value := [0, 0, 0, 0, 0, 0, 0, 0, 0, 0, 0, 0], Care := [0, 0, 0, 0, 0, 0, 0, 0, 0, 0, 0, 0] } : Cube), Prio := 0, Acts := [], Idle := 0, Hard := 0, Owner := 0, Check := false } : Mod), Port := v4.1, Head := v5.1, Rules := [] } : Msg), 0)))
      else
        (bif (bif (v.1 == 9) then (v.1 == 9) else (v.1 == 10)) then
          (code_reader_rules_raw 70000 v1.2).bind fun v6 =>
          (bif v6.2.end_ then
            some (({ Kind := 0, Txn := 0, E := 0, Mod := ({ Kind := 0, Match := ({ Value := [0, 0, 0, 0, 0, 0, 0, 0, 0, 0, 0, 0], Care := [0, 0, 0, 0, 0, 0, 0, 0, 0, 0, 0, 0] } : Cube), Prio := 0, Acts := [], Idle := 0, Hard := 0, Owner := 0, Check := false } : Mod), Port := 0, Head := [0, 0, 0, 0, 0, 0, 0, 0, 0, 0, 0, 0], Rules := [] } : Msg), 8)
          else
            (bif ((decide ((((List.map (intA .u8) v6.2.b).length : Nat) : Int) > 0)) || (!(code_Sound ({ Kind := v.1, Txn := v1.1, E := 0, Mod := ({ Kind := 0, Match := ({ Value := [0, 0, 0, 0, 0, 0, 0, 0, 0, 0, 0, 0], Care := [0, 0, 0, 0, 0, 0, 0, 0, 0, 0, 0, 0] } : Cube), Prio := 0, Acts := [], Idle := 0, Hard := 0, Owner := 0, Check := false } : Mod), Port := 0, Head := [0, 0, 0, 0, 0, 0, 0, 0, 0, 0, 0, 0], Rules := v6.1 } : Msg)))) then
              some (({ Kind := 0, Txn := 0, E := 0, Mod := ({ Kind := 0, Match := ({ Value := [0, 0, 0, 0, 0, 0, 0, 0, 0, 0, 0, 0], Care := [0, 0, 0, 0, 0, 0, 0, 0, 0, 0, 0, 0] } : Cube), Prio := 0, Acts := [], Idle := 0, Hard := 0, Owner := 0, Check := false } : Mod), Port := 0, Head := [0, 0, 0, 0, 0, 0, 0, 0, 0, 0, 0, 0], Rules := [] } : Msg), 2)
            else
              some (({ Kind := v.1, Txn := v1.1, E := 0, Mod := ({ Kind := 0, Match := ({ Value := [0, 0, 0, 0, 0, 0, 0, 0, 0, 0, 0, 0], Care := [0, 0, 0, 0, 0, 0, 0, 0, 0, 0, 0, 0] } : Cube), Prio := 0, Acts := [], Idle := 0, Hard := 0, Owner := 0, Check := false } : Mod), Port := 0, Head := [0, 0, 0, 0, 0, 0, 0, 0, 0, 0, 0, 0], Rules := v6.1 } : Msg), 0)))
        else
          (bif v1.2.end_ then
            some (({ Kind := 0, Txn := 0, E := 0, Mod := ({ Kind := 0, Match := ({ Value := [0, 0, 0, 0, 0, 0, 0, 0, 0, 0, 0, 0], Care := [0, 0, 0, 0, 0, 0, 0, 0, 0, 0, 0, 0] } : Cube), Prio := 0, Acts := [], Idle := 0, Hard := 0, Owner := 0, Check := false } : Mod), Port := 0, Head := [0, 0, 0, 0, 0, 0, 0, 0, 0, 0, 0, 0], Rules := [] } : Msg), 8)
          else
            (bif ((decide ((((List.map (intA .u8) v1.2.b).length : Nat) : Int) > 0)) || (!(code_Sound ({ Kind := v.1, Txn := v1.1, E := 0, Mod := ({ Kind := 0, Match := ({ Value := [0, 0, 0, 0, 0, 0, 0, 0, 0, 0, 0, 0], Care := [0, 0, 0, 0, 0, 0, 0, 0, 0, 0, 0, 0] } : Cube), Prio := 0, Acts := [], Idle := 0, Hard := 0, Owner := 0, Check := false } : Mod), Port := 0, Head := [0, 0, 0, 0, 0, 0, 0, 0, 0, 0, 0, 0], Rules := [] } : Msg)))) then
              some (({ Kind := 0, Txn := 0, E := 0, Mod := ({ Kind := 0, Match := ({ Value := [0, 0, 0, 0, 0, 0, 0, 0, 0, 0, 0, 0], Care := [0, 0, 0, 0, 0, 0, 0, 0, 0, 0, 0, 0] } : Cube), Prio := 0, Acts := [], Idle := 0, Hard := 0, Owner := 0, Check := false } : Mod), Port := 0, Head := [0, 0, 0, 0, 0, 0, 0, 0, 0, 0, 0, 0], Rules := [] } : Msg), 2)
            else
              some (({ Kind := v.1, Txn := v1.1, E := 0, Mod := ({ Kind := 0, Match := ({ Value := [0, 0, 0, 0, 0, 0, 0, 0, 0, 0, 0, 0], Care := [0, 0, 0, 0, 0, 0, 0, 0, 0, 0, 0, 0] } : Cube), Prio := 0, Acts := [], Idle := 0, Hard := 0, Owner := 0, Check := false } : Mod), Port := 0, Head := [0, 0, 0, 0, 0, 0, 0, 0, 0, 0, 0, 0], Rules := [] } : Msg), 0)))))))
theorem code_Decode_walk (b : List Int) (f_b : Bool) (r : Msg × Int) (H : code_Decode_raw b = some r) : ACalls Try.prog tab.S 10 [.sl 5 (List.map (intA .u8) b) f_b] [] (.tup [Msg.av r.1, .sc (.int .i64 r.2)]) [] := by
  refine .of_AX code_Decode_F Try.func10 fun c0 hc0 => ?_
  rw [code_Decode_raw] at H
  refine .sg 5 [2,4] (.rg (.sg 1 [2,4,10] (bndO H fun v hv H => (.ch [2,4,11] (es := [(0, false)]) [1] (code_reader_num_walk ({ b := b, end_ := false } : Reader) 1 v hv) (.sg 1 [2,4,11,12] (bndO H fun v1 hv H => (.ch [2,4,11,13] [1] (code_reader_num_walk v.2 4 v1 hv) (.sg 3 [2,4,5] (.dn (.sg 8 [2,4,5,6,16,17] (.cd (v.1 == 1) H (fun hb H => ?_) (fun hb H => ?_))))))))))))
  ·
    refine .rg (.sg 1 [2,4,5,20] (bndO H fun v2 hv H => (.ch [2,4,5,21] [1] (code_reader_mod_walk v1.2 v2 hv) (.sg 6 [2,4,5,6] (.dn (.sg 5 [2,4,5,6,44] (.cd v2.2.2.end_ H (fun hb H => ?_) (fun hb H => ?_))))))))
    ·
      refine .sg 2 [2,3] ?_
      obtain rfl := Option.some.inj H
      exact .ret Try.func10 hc0 [] [(87, false), (68, false)]
    ·
      refine .sg 1 [2,4,5,6] (.rg (.sg 3 [2,4,5,53] (.mx 1 [2,5,60] (.sg 1 [2,5,61] (.mm 61 ((!v2.2.1) || (decide ((((List.map (intA .u8) v2.2.2.b).length : Nat) : Int) > 0))) 4 [.pure, .pure, .pure, .read] [2, 5, 65] 65 (fun z => .sc (.bool (z || (!(code_Sound ({ Kind := v.1, Txn := v1.1, E := 0, Mod := v2.1, Port := 0, Head := [0, 0, 0, 0, 0, 0, 0, 0, 0, 0, 0, 0], Rules := [] } : Msg)))))) ?J2 (fun hb J => ?ht2) (fun hb J => ?hf2))))))
      case ht2 =>
        exact .sg 4 [2,5,65] (.cl J)
      case hf2 =>
        exact .sg 1 [2,5,61,62] (.cp [2,5,61,63] (ds := [(0, true), (68, false)]) (code_Sound_calls ({ Kind := v.1, Txn := v1.1, E := 0, Mod := v2.1, Port := 0, Head := [0, 0, 0, 0, 0, 0, 0, 0, 0, 0, 0, 0], Rules := [] } : Msg)) (.sg 2 [2,5,65] (.cl J)))
      refine .sg 1 [2,5,50] (.dn (.cd (((!v2.2.1) || (decide ((((List.map (intA .u8) v2.2.2.b).length : Nat) : Int) > 0))) || (!(code_Sound ({ Kind := v.1, Txn := v1.1, E := 0, Mod := v2.1, Port := 0, Head := [0, 0, 0, 0, 0, 0, 0, 0, 0, 0, 0, 0], Rules := [] } : Msg)))) H (fun hb H => ?_) (fun hb H => ?_)))
      ·
        refine .sg 2 [2,3] ?_
        obtain rfl := Option.some.inj H
        exact .ret Try.func10 hc0 [] [(87, false), (68, false)]
      ·
        refine .sg 4 [2,3] ?_
        obtain rfl := Option.some.inj H
        exact .ret Try.func10 hc0 [] [(0, true), (68, false)]
  ·
    refine .sg 2 [2,4,5,6,16,25] (.cd (v.1 == 6) H (fun hb H => ?_) (fun hb H => ?_))
    ·
      refine .rg (.sg 1 [2,4,5,6,27] (bndO H fun v3 hv H => (.ch [2,4,5,6,28] [1] (code_reader_num_walk v1.2 1 v3 hv) (.sg 2 [2,4,5,6] (.dn (.sg 5 [2,4,5,6,44] (.cd v3.2.end_ H (fun hb H => ?_) (fun hb H => ?_))))))))
      ·
        refine .sg 2 [2,3] ?_
        obtain rfl := Option.some.inj H
        exact .ret Try.func10 hc0 [] [(87, false), (68, false)]
      ·
        refine .sg 1 [2,4,5,6] (.rg (.sg 11 [2,5,61] (.mm 61 (decide ((((List.map (intA .u8) v3.2.b).length : Nat) : Int) > 0)) 4 [.pure, .pure, .pure, .read] [2, 5, 65] 65 (fun z => .sc (.bool (z || (!(code_Sound ({ Kind := v.1, Txn := v1.1, E := v3.1, Mod := ({ Kind := 0, Match := ({ Value := [0, 0, 0, 0, 0, 0, 0, 0, 0, 0, 0, 0], Care := [0, 0, 0, 0, 0, 0, 0, 0, 0, 0, 0, 0] } : Cube), Prio := 0, Acts := [], Idle := 0, Hard := 0, Owner := 0, Check := false } : Mod), Port := 0, Head := [0, 0, 0, 0, 0, 0, 0, 0, 0, 0, 0, 0], Rules := [] } : Msg)))))) ?J3 (fun hb J => ?ht3) (fun hb J => ?hf3))))
        case ht3 =>
          exact .sg 4 [2,5,65] (.cl J)
        case hf3 =>
          exact .sg 1 [2,5,61,62] (.cp [2,5,61,63] (ds := [(87, false), (68, false)]) (code_Sound_calls ({ Kind := v.1, Txn := v1.1, E := v3.1, Mod := ({ Kind := 0, Match := ({ Value := [0, 0, 0, 0, 0, 0, 0, 0, 0, 0, 0, 0], Care := [0, 0, 0, 0, 0, 0, 0, 0, 0, 0, 0, 0] } : Cube), Prio := 0, Acts := [], Idle := 0, Hard := 0, Owner := 0, Check := false } : Mod), Port := 0, Head := [0, 0, 0, 0, 0, 0, 0, 0, 0, 0, 0, 0], Rules := [] } : Msg)) (.sg 2 [2,5,65] (.cl J)))
        refine .sg 1 [2,5,50] (.dn (.cd ((decide ((((List.map (intA .u8) v3.2.b).length : Nat) : Int) > 0)) || (!(code_Sound ({ Kind := v.1, Txn := v1.1, E := v3.1, Mod := ({ Kind := 0, Match := ({ Value := [0, 0, 0, 0, 0, 0, 0, 0, 0, 0, 0, 0], Care := [0, 0, 0, 0, 0, 0, 0, 0, 0, 0, 0, 0] } : Cube), Prio := 0, Acts := [], Idle := 0, Hard := 0, Owner := 0, Check := false } : Mod), Port := 0, Head := [0, 0, 0, 0, 0, 0, 0, 0, 0, 0, 0, 0], Rules := [] } : Msg)))) H (fun hb H => ?_) (fun hb H => ?_)))
        ·
          refine .sg 2 [2,3] ?_
          obtain rfl := Option.some.inj H
          exact .ret Try.func10 hc0 [] [(87, false), (68, false)]
        ·
          refine .sg 4 [2,3] ?_
          obtain rfl := Option.some.inj H
          exact .ret Try.func10 hc0 [] [(87, false), (68, false)]
    ·
      refine .sg 2 [2,4,5,6,16,30] (.cd (v.1 == 8) H (fun hb H => ?_) (fun hb H => ?_))
      ·
        refine .rg (.sg 1 [2,4,5,6,32] (bndO H fun v4 hv H => (.ch [2,4,5,6,33] [1] (code_reader_num_walk v1.2 1 v4 hv) (.sg 1 [2,4,5,6,33,34] (bndO H fun v5 hv H => (.ch [2,4,5,6,33,35] [1] (code_reader_head_walk v4.2 v5 hv) (.sg 4 [2,4,5,6] (.dn (.sg 5 [2,4,5,6,44] (.cd v5.2.end_ H (fun hb H => ?_) (fun hb H => ?_)))))))))))
        ·
          refine .sg 2 [2,3] ?_
          obtain rfl := Option.some.inj H
          exact .ret Try.func10 hc0 [] [(87, false), (68, false)]
        ·
          refine .sg 1 [2,4,5,6] (.rg (.sg 11 [2,5,61] (.mm 61 (decide ((((List.map (intA .u8) v5.2.b).length : Nat) : Int) > 0)) 4 [.pure, .pure, .pure, .read] [2, 5, 65] 65 (fun z => .sc (.bool (z || (!(code_Sound ({ Kind := v.1, Txn := v1.1, E := 0, Mod := ({ Kind := 0, Match := ({ Value := [0, 0, 0, 0, 0, 0, 0, 0, 0, 0, 0, 0], Care := [0, 0, 0, 0, 0, 0, 0, 0, 0, 0, 0, 0] } : Cube), Prio := 0, Acts := [], Idle := 0, Hard := 0, Owner := 0, Check := false } : Mod), Port := v4.1, Head := v5.1, Rules := [] } : Msg)))))) ?J4 (fun hb J => ?ht4) (fun hb J => ?hf4))))
          case ht4 =>
            exact .sg 4 [2,5,65] (.cl J)
          case hf4 =>
            exact .sg 1 [2,5,61,62] (.cp [2,5,61,63] (ds := [(87, false), (68, false)]) (code_Sound_calls ({ Kind := v.1, Txn := v1.1, E := 0, Mod := ({ Kind := 0, Match := ({ Value := [0, 0, 0, 0, 0, 0, 0, 0, 0, 0, 0, 0], Care := [0, 0, 0, 0, 0, 0, 0, 0, 0, 0, 0, 0] } : Cube), Prio := 0, Acts := [], Idle := 0, Hard := 0, Owner := 0, Check := false } : Mod), Port := v4.1, Head := v5.1, Rules := [] } : Msg)) (.sg 2 [2,5,65] (.cl J)))
          refine .sg 1 [2,5,50] (.dn (.cd ((decide ((((List.map (intA .u8) v5.2.b).length : Nat) : Int) > 0)) || (!(code_Sound ({ Kind := v.1, Txn := v1.1, E := 0, Mod := ({ Kind := 0, Match := ({ Value := [0, 0, 0, 0, 0, 0, 0, 0, 0, 0, 0, 0], Care := [0, 0, 0, 0, 0, 0, 0, 0, 0, 0, 0, 0] } : Cube), Prio := 0, Acts := [], Idle := 0, Hard := 0, Owner := 0, Check := false } : Mod), Port := v4.1, Head := v5.1, Rules := [] } : Msg)))) H (fun hb H => ?_) (fun hb H => ?_)))
          ·
            refine .sg 2 [2,3] ?_
            obtain rfl := Option.some.inj H
            exact .ret Try.func10 hc0 [] [(87, false), (68, false)]
          ·
            refine .sg 4 [2,3] ?_
            obtain rfl := Option.some.inj H
            exact .ret Try.func10 hc0 [] [(87, false), (68, false)]
      ·
        refine .sg 3 [2,4,5,6,16,38] (.jn (v.1 == 9) [2, 4, 5, 6, 38] (fun z => [(38, .sc (.bool (bif z then (v.1 == 9) else (v.1 == 10))))]) ?J5 (fun hb J => ?ht5) (fun hb J => ?hf5))
        case ht5 =>
          exact .sg 1 [2,4,5,6,38] (.cl J)
        case hf5 =>
          exact .sg 1 [2,4,5,6,38] (.cl J)
        refine .cd (bif (v.1 == 9) then (v.1 == 9) else (v.1 == 10)) H (fun hb H => ?_) (fun hb H => ?_)
        ·
          refine .rg (.sg 1 [2,4,5,6,41] (bndO H fun v6 hv H => (.ch [2,4,5,6,42] [1] ((code_reader_rules_walk 70000) v1.2 v6 hv) (.sg 2 [2,4,5,6] (.dn (.sg 5 [2,4,5,6,44] (.cd v6.2.end_ H (fun hb H => ?_) (fun hb H => ?_))))))))
          ·
            refine .sg 2 [2,3] ?_
            obtain rfl := Option.some.inj H
            exact .ret Try.func10 hc0 [] [(87, false), (68, false)]
          ·
            refine .sg 1 [2,4,5,6] (.rg (.sg 11 [2,5,61] (.mm 61 (decide ((((List.map (intA .u8) v6.2.b).length : Nat) : Int) > 0)) 4 [.pure, .pure, .pure, .read] [2, 5, 65] 65 (fun z => .sc (.bool (z || (!(code_Sound ({ Kind := v.1, Txn := v1.1, E := 0, Mod := ({ Kind := 0, Match := ({ Value := [0, 0, 0, 0, 0, 0, 0, 0, 0, 0, 0, 0], Care := [0, 0, 0, 0, 0, 0, 0, 0, 0, 0, 0, 0] } : Cube), Prio := 0, Acts := [], Idle := 0, Hard := 0, Owner := 0, Check := false } : Mod), Port := 0, Head := [0, 0, 0, 0, 0, 0, 0, 0, 0, 0, 0, 0], Rules := v6.1 } : Msg)))))) ?J6 (fun hb J => ?ht6) (fun hb J => ?hf6))))
            case ht6 =>
              exact .sg 4 [2,5,65] (.cl J)
            case hf6 =>
              exact .sg 1 [2,5,61,62] (.cp [2,5,61,63] (ds := [(87, false)]) (code_Sound_calls ({ Kind := v.1, Txn := v1.1, E := 0, Mod := ({ Kind := 0, Match := ({ Value := [0, 0, 0, 0, 0, 0, 0, 0, 0, 0, 0, 0], Care := [0, 0, 0, 0, 0, 0, 0, 0, 0, 0, 0, 0] } : Cube), Prio := 0, Acts := [], Idle := 0, Hard := 0, Owner := 0, Check := false } : Mod), Port := 0, Head := [0, 0, 0, 0, 0, 0, 0, 0, 0, 0, 0, 0], Rules := v6.1 } : Msg)) (.sg 2 [2,5,65] (.cl J)))
            refine .sg 1 [2,5,50] (.dn (.cd ((decide ((((List.map (intA .u8) v6.2.b).length : Nat) : Int) > 0)) || (!(code_Sound ({ Kind := v.1, Txn := v1.1, E := 0, Mod := ({ Kind := 0, Match := ({ Value := [0, 0, 0, 0, 0, 0, 0, 0, 0, 0, 0, 0], Care := [0, 0, 0, 0, 0, 0, 0, 0, 0, 0, 0, 0] } : Cube), Prio := 0, Acts := [], Idle := 0, Hard := 0, Owner := 0, Check := false } : Mod), Port := 0, Head := [0, 0, 0, 0, 0, 0, 0, 0, 0, 0, 0, 0], Rules := v6.1 } : Msg)))) H (fun hb H => ?_) (fun hb H => ?_)))
            ·
              refine .sg 2 [2,3] ?_
              obtain rfl := Option.some.inj H
              exact .ret Try.func10 hc0 [] [(87, false), (68, false)]
            ·
              refine .sg 4 [2,3] ?_
              obtain rfl := Option.some.inj H
              exact .ret Try.func10 hc0 [] [(87, false)]
        ·
          refine .sg 6 [2,4,5,6,44] (.cd v1.2.end_ H (fun hb H => ?_) (fun hb H => ?_))
          ·
            refine .sg 2 [2,3] ?_
            obtain rfl := Option.some.inj H
            exact .ret Try.func10 hc0 [] [(87, false), (68, false)]
          ·
            refine .sg 1 [2,4,5,6] (.rg (.sg 11 [2,5,61] (.mm 61 (decide ((((List.map (intA .u8) v1.2.b).length : Nat) : Int) > 0)) 4 [.pure, .pure, .pure, .read] [2, 5, 65] 65 (fun z => .sc (.bool (z || (!(code_Sound ({ Kind := v.1, Txn := v1.1, E := 0, Mod := ({ Kind := 0, Match := ({ Value := [0, 0, 0, 0, 0, 0, 0, 0, 0, 0, 0, 0], Care := [0, 0, 0, 0, 0, 0, 0, 0, 0, 0, 0, 0] } : Cube), Prio := 0, Acts := [], Idle := 0, Hard := 0, Owner := 0, Check := false } : Mod), Port := 0, Head := [0, 0, 0, 0, 0, 0, 0, 0, 0, 0, 0, 0], Rules := [] } : Msg)))))) ?J7 (fun hb J => ?ht7) (fun hb J => ?hf7))))
            case ht7 =>
              exact .sg 4 [2,5,65] (.cl J)
            case hf7 =>
              exact .sg 1 [2,5,61,62] (.cp [2,5,61,63] (ds := [(87, false), (68, false)]) (code_Sound_calls ({ Kind := v.1, Txn := v1.1, E := 0, Mod := ({ Kind := 0, Match := ({ Value := [0, 0, 0, 0, 0, 0, 0, 0, 0, 0, 0, 0], Care := [0, 0, 0, 0, 0, 0, 0, 0, 0, 0, 0, 0] } : Cube), Prio := 0, Acts := [], Idle := 0, Hard := 0, Owner := 0, Check := false } : Mod), Port := 0, Head := [0, 0, 0, 0, 0, 0, 0, 0, 0, 0, 0, 0], Rules := [] } : Msg)) (.sg 2 [2,5,65] (.cl J)))
            refine .sg 1 [2,5,50] (.dn (.cd ((decide ((((List.map (intA .u8) v1.2.b).length : Nat) : Int) > 0)) || (!(code_Sound ({ Kind := v.1, Txn := v1.1, E := 0, Mod := ({ Kind := 0, Match := ({ Value := [0, 0, 0, 0, 0, 0, 0, 0, 0, 0, 0, 0], Care := [0, 0, 0, 0, 0, 0, 0, 0, 0, 0, 0, 0] } : Cube), Prio := 0, Acts := [], Idle := 0, Hard := 0, Owner := 0, Check := false } : Mod), Port := 0, Head := [0, 0, 0, 0, 0, 0, 0, 0, 0, 0, 0, 0], Rules := [] } : Msg)))) H (fun hb H => ?_) (fun hb H => ?_)))
            ·
              refine .sg 2 [2,3] ?_
              obtain rfl := Option.some.inj H
              exact .ret Try.func10 hc0 [] [(87, false), (68, false)]
            ·
              refine .sg 4 [2,3] ?_
              obtain rfl := Option.some.inj H
              exact .ret Try.func10 hc0 [] [(87, false), (68, false)]

/-! ### code.Encode: function 13 -/
noncomputable def code_Encode_F : Go.Sh.Fn := ⟨13, bodyOf Try.f13, 63⟩
def code_Encode_raw (m1 : Msg) : Option ((List Int) × Int) :=
  (bif ((!(code_Sound m1)) || (decide ((((List.map Rule.av m1.Rules).length : Nat) : Int) > 65535))) then
    some ([], 2)
  else
    (putW ({ b := ([] : List Int) } : Writer) (IntKind.u64.wrap m1.Kind) 1).bind fun v =>
    (putW v (IntKind.u64.wrap m1.Txn) 4).bind fun v1 =>
    (bif (m1.Kind == 1) then
      (code_writer_mod_raw v1 m1.Mod).bind fun v2 =>
      some (v2.b, 0)
    else
      (bif (m1.Kind == 6) then
        (putW v1 (IntKind.u64.wrap m1.E) 1).bind fun v3 =>
        some (v3.b, 0)
      else
        (bif (m1.Kind == 8) then
          (putW v1 (IntKind.u64.wrap m1.Port) 1).bind fun v4 =>
          (code_writer_head_raw v4 m1.Head).bind fun v5 =>
          some (v5.b, 0)
        else
          (bif (bif (m1.Kind == 9) then (m1.Kind == 9) else (m1.Kind == 10)) then
            (code_writer_rules_raw v1 m1.Rules).bind fun v6 =>
            some (v6.b, 0)
          else
            some (v1.b, 0))))))
theorem code_Encode_walk (m1 : Msg) (r : (List Int) × Int) (H : code_Encode_raw m1 = some r) : ACalls Try.prog tab.S 13 [Msg.av m1] [] (.tup [.sl 5 (List.map (intA .u8) r.1) false, .sc (.int .i64 r.2)]) [] := by
  refine .of_AX code_Encode_F Try.func13 fun c0 hc0 => ?_
  rw [code_Encode_raw] at H
  refine .sg 4 [1] (.rg (.sg 1 [1,5] (.cp [1,6] (code_Sound_calls m1) (.sg 2 [1,8] (.mx 1 [1,13] (.dn (.cd ((!(code_Sound m1)) || (decide ((((List.map Rule.av m1.Rules).length : Nat) : Int) > 65535))) H (fun hb H => ?_) (fun hb H => ?_))))))))
  ·
    refine .sg 2 [2,3] ?_
    obtain rfl := Option.some.inj H
    exact .ret Try.func13 hc0 [] [(5, false)]
  ·
    refine .sg 4 [1,4] (.adb 1 0 5 (.rg (.sg 4 [1,4,16,19] (bndO H fun v hv H => (.ch [1,4] [1,2] (code_writer_put_ok ({ b := ([] : List Int) } : Writer) (IntKind.u64.wrap m1.Kind) 1 v hv) (.dn (.sg 1 [1,4] (.rg (.sg 4 [1,4,21,24] (bndO H fun v1 hv H => (.ch [1,4] [1,2] (code_writer_put_ok v (IntKind.u64.wrap m1.Txn) 4 v1 hv) (.dn (.sg 6 [1,4,27,28] (.cd (m1.Kind == 1) H (fun hb H => ?_) (fun hb H => ?_)))))))))))))))
    ·
      refine .rg (.sg 3 [4,30,32] (bndO H fun v2 hv H => (.ch [4] [1,2] (code_writer_mod_walk v1 m1.Mod v2 hv) (.dn (.sg 3 [2,3] ?_)))))
      obtain rfl := Option.some.inj H
      exact .ret Try.func13 hc0
    ·
      refine .sg 2 [1,4,27,34] (.cd (m1.Kind == 6) H (fun hb H => ?_) (fun hb H => ?_))
      ·
        refine .rg (.sg 4 [4,36,39] (bndO H fun v3 hv H => (.ch [4] [1,2] (code_writer_put_ok v1 (IntKind.u64.wrap m1.E) 1 v3 hv) (.dn (.sg 3 [2,3] ?_)))))
        obtain rfl := Option.some.inj H
        exact .ret Try.func13 hc0
      ·
        refine .sg 2 [1,4,27,41] (.cd (m1.Kind == 8) H (fun hb H => ?_) (fun hb H => ?_))
        ·
          refine .sg 1 [1,4] (.rg (.sg 4 [1,4,43,46] (bndO H fun v4 hv H => (.ch [1,4] [1,2] (code_writer_put_ok v1 (IntKind.u64.wrap m1.Port) 1 v4 hv) (.dn (.rg (.sg 3 [4,48,50] (bndO H fun v5 hv H => (.ch [4] [1,2] (code_writer_head_walk v4 m1.Head v5 hv) (.dn (.sg 3 [2,3] ?_)))))))))))
          obtain rfl := Option.some.inj H
          exact .ret Try.func13 hc0
        ·
          refine .sg 3 [1,4,27,52] (.jn (m1.Kind == 9) [1, 4, 52] (fun z => [(52, .sc (.bool (bif z then (m1.Kind == 9) else (m1.Kind == 10))))]) ?J2 (fun hb J => ?ht2) (fun hb J => ?hf2))
          case ht2 =>
            exact .sg 1 [1,4,52] (.cl J)
          case hf2 =>
            exact .sg 1 [1,4,52] (.cl J)
          refine .cd (bif (m1.Kind == 9) then (m1.Kind == 9) else (m1.Kind == 10)) H (fun hb H => ?_) (fun hb H => ?_)
          ·
            refine .rg (.sg 3 [4,55,57] (bndO H fun v6 hv H => (.ch [4] [1,2] (code_writer_rules_walk v1 m1.Rules false v6 hv) (.dn (.sg 3 [2,3] ?_)))))
            obtain rfl := Option.some.inj H
            exact .ret Try.func13 hc0
          ·
            refine .sg 4 [2,3] ?_
            obtain rfl := Option.some.inj H
            exact .ret Try.func13 hc0

end Go.Proofs.Ythfidfjogecnpaa

set_option linter.unusedVariables false
set_option linter.unusedSimpArgs false
set_option maxRecDepth 100000
set_option maxHeartbeats 4000000
namespace Go.Proofs.Ythfidfjogecnpaa
open Go.Sh
set_option maxRecDepth 100000
open Go.ChangeShapes Go.WideShapes Go.ChangeAt Go.RowKit
def Act.wf (x : Act) : Prop := intW .i64 x.Kind ∧ intW .i64 x.Port ∧ intW .i64 x.Field ∧ intW .u64 x.Value
theorem Act.shaped {gs : List AV} (h : Shaped tab 87 gs) : ∃ x : Act, gs = [.sc (.int .i64 x.Kind), .sc (.int .i64 x.Port), .sc (.int .i64 x.Field), .sc (.int .u64 x.Value)] ∧ x.wf := by
  obtain ⟨gss, rfl, hl, hf⟩ := Shaped.struct_inv (fl := [(0, 3), (1, 3), (2, 3), (3, 25)]) (by kernel_rfl) h
  match gss, hl, hf with
  | [g0, g1, g2, g3], _, hf =>
    obtain ⟨x0, rfl, w0⟩ := Shaped.int_inv (k := .i64) (by kernel_rfl) (hf 0 _ _ rfl rfl)
    obtain ⟨x1, rfl, w1⟩ := Shaped.int_inv (k := .i64) (by kernel_rfl) (hf 1 _ _ rfl rfl)
    obtain ⟨x2, rfl, w2⟩ := Shaped.int_inv (k := .i64) (by kernel_rfl) (hf 2 _ _ rfl rfl)
    obtain ⟨x3, rfl, w3⟩ := Shaped.int_inv (k := .u64) (by kernel_rfl) (hf 3 _ _ rfl rfl)
    exact ⟨⟨x0, x1, x2, x3⟩, rfl, ⟨w0, w1, w2, w3⟩⟩
def Cube.wf (x : Cube) : Prop := arrW .u64 12 x.Value ∧ arrW .u64 12 x.Care
theorem Cube.shaped {gs : List AV} (h : Shaped tab 29 gs) : ∃ x : Cube, gs = [.arr .u64 12 x.Value, .arr .u64 12 x.Care] ∧ x.wf := by
  obtain ⟨gss, rfl, hl, hf⟩ := Shaped.struct_inv (fl := [(0, 27), (12, 27)]) (by kernel_rfl) h
  match gss, hl, hf with
  | [g0, g1], _, hf =>
    obtain ⟨x0, rfl, w0⟩ := Shaped.arr_inv (n := 12) (e := 25) (k := .u64) (by kernel_rfl) (by kernel_rfl) (hf 0 _ _ rfl rfl)
    obtain ⟨x1, rfl, w1⟩ := Shaped.arr_inv (n := 12) (e := 25) (k := .u64) (by kernel_rfl) (by kernel_rfl) (hf 1 _ _ rfl rfl)
    exact ⟨⟨x0, x1⟩, rfl, ⟨w0, w1⟩⟩
def Rule.wf (x : Rule) : Prop := Cube.wf x.Match ∧ intW .i64 x.Prio ∧ (∀ y ∈ x.Acts, Act.wf y) ∧ intW .i64 x.Idle ∧ intW .i64 x.Hard ∧ intW .i64 x.Owner ∧ intW .i64 x.Hits ∧ intW .i64 x.Quiet ∧ intW .i64 x.Age
theorem Rule.shaped {gs : List AV} (h : Shaped tab 68 gs) : ∃ x : Rule, gs = [.arr .u64 12 x.Match.Value, .arr .u64 12 x.Match.Care, .sc (.int .i64 x.Prio), .sl 87 (List.map Act.av x.Acts) false, .sc (.int .i64 x.Idle), .sc (.int .i64 x.Hard), .sc (.int .i64 x.Owner), .sc (.int .i64 x.Hits), .sc (.int .i64 x.Quiet), .sc (.int .i64 x.Age)] ∧ x.wf := by
  obtain ⟨gss, rfl, hl, hf⟩ := Shaped.struct_inv (fl := [(0, 29), (24, 3), (25, 30), (26, 3), (27, 3), (28, 3), (29, 3), (30, 3), (31, 3)]) (by kernel_rfl) h
  match gss, hl, hf with
  | [g0, g1, g2, g3, g4, g5, g6, g7, g8], _, hf =>
    obtain ⟨x0, rfl, w0⟩ := Cube.shaped (hf 0 _ _ rfl rfl)
    obtain ⟨x1, rfl, w1⟩ := Shaped.int_inv (k := .i64) (by kernel_rfl) (hf 1 _ _ rfl rfl)
    obtain ⟨q2, rfl, hq2⟩ := Shaped.slice_inv (e := 87) (by kernel_rfl) (hf 2 _ _ rfl rfl)
    obtain ⟨x2, hx2, w2⟩ := rows_typedW (G := tab) (e := 87) (av := Act.av) (wf := fun y => Act.wf y) q2 (fun g hg => by obtain ⟨x, rfl, w⟩ := Act.shaped (hq2 g hg); exact ⟨x, (by kernel_rfl), w⟩)
    obtain ⟨x3, rfl, w3⟩ := Shaped.int_inv (k := .i64) (by kernel_rfl) (hf 3 _ _ rfl rfl)
    obtain ⟨x4, rfl, w4⟩ := Shaped.int_inv (k := .i64) (by kernel_rfl) (hf 4 _ _ rfl rfl)
    obtain ⟨x5, rfl, w5⟩ := Shaped.int_inv (k := .i64) (by kernel_rfl) (hf 5 _ _ rfl rfl)
    obtain ⟨x6, rfl, w6⟩ := Shaped.int_inv (k := .i64) (by kernel_rfl) (hf 6 _ _ rfl rfl)
    obtain ⟨x7, rfl, w7⟩ := Shaped.int_inv (k := .i64) (by kernel_rfl) (hf 7 _ _ rfl rfl)
    obtain ⟨x8, rfl, w8⟩ := Shaped.int_inv (k := .i64) (by kernel_rfl) (hf 8 _ _ rfl rfl)
    rw [hx2]; exact ⟨⟨x0, x1, x2, x3, x4, x5, x6, x7, x8⟩, rfl, ⟨w0, w1, w2, w3, w4, w5, w6, w7, w8⟩⟩
def Mod.wf (x : Mod) : Prop := intW .i64 x.Kind ∧ Cube.wf x.Match ∧ intW .i64 x.Prio ∧ (∀ y ∈ x.Acts, Act.wf y) ∧ intW .i64 x.Idle ∧ intW .i64 x.Hard ∧ intW .i64 x.Owner ∧ True
theorem Mod.shaped {gs : List AV} (h : Shaped tab 32 gs) : ∃ x : Mod, gs = [.sc (.int .i64 x.Kind), .arr .u64 12 x.Match.Value, .arr .u64 12 x.Match.Care, .sc (.int .i64 x.Prio), .sl 87 (List.map Act.av x.Acts) false, .sc (.int .i64 x.Idle), .sc (.int .i64 x.Hard), .sc (.int .i64 x.Owner), .sc (.bool x.Check)] ∧ x.wf := by
  obtain ⟨gss, rfl, hl, hf⟩ := Shaped.struct_inv (fl := [(0, 3), (1, 29), (25, 3), (26, 30), (27, 3), (28, 3), (29, 3), (30, 4)]) (by kernel_rfl) h
  match gss, hl, hf with
  | [g0, g1, g2, g3, g4, g5, g6, g7], _, hf =>
    obtain ⟨x0, rfl, w0⟩ := Shaped.int_inv (k := .i64) (by kernel_rfl) (hf 0 _ _ rfl rfl)
    obtain ⟨x1, rfl, w1⟩ := Cube.shaped (hf 1 _ _ rfl rfl)
    obtain ⟨x2, rfl, w2⟩ := Shaped.int_inv (k := .i64) (by kernel_rfl) (hf 2 _ _ rfl rfl)
    obtain ⟨q3, rfl, hq3⟩ := Shaped.slice_inv (e := 87) (by kernel_rfl) (hf 3 _ _ rfl rfl)
    obtain ⟨x3, hx3, w3⟩ := rows_typedW (G := tab) (e := 87) (av := Act.av) (wf := fun y => Act.wf y) q3 (fun g hg => by obtain ⟨x, rfl, w⟩ := Act.shaped (hq3 g hg); exact ⟨x, (by kernel_rfl), w⟩)
    obtain ⟨x4, rfl, w4⟩ := Shaped.int_inv (k := .i64) (by kernel_rfl) (hf 4 _ _ rfl rfl)
    obtain ⟨x5, rfl, w5⟩ := Shaped.int_inv (k := .i64) (by kernel_rfl) (hf 5 _ _ rfl rfl)
    obtain ⟨x6, rfl, w6⟩ := Shaped.int_inv (k := .i64) (by kernel_rfl) (hf 6 _ _ rfl rfl)
    obtain ⟨x7, rfl⟩ := Shaped.bool_inv (by kernel_rfl) (hf 7 _ _ rfl rfl)
    rw [hx3]; exact ⟨⟨x0, x1, x2, x3, x4, x5, x6, x7⟩, rfl, ⟨w0, w1, w2, w3, w4, w5, w6, trivial⟩⟩
def Msg.wf (x : Msg) : Prop := intW .i64 x.Kind ∧ intW .i64 x.Txn ∧ intW .i64 x.E ∧ Mod.wf x.Mod ∧ intW .i64 x.Port ∧ arrW .u64 12 x.Head ∧ (∀ y ∈ x.Rules, Rule.wf y)
theorem Msg.shaped {gs : List AV} (h : Shaped tab 35 gs) : ∃ x : Msg, gs = [.sc (.int .i64 x.Kind), .sc (.int .i64 x.Txn), .sc (.int .i64 x.E), .sc (.int .i64 x.Mod.Kind), .arr .u64 12 x.Mod.Match.Value, .arr .u64 12 x.Mod.Match.Care, .sc (.int .i64 x.Mod.Prio), .sl 87 (List.map Act.av x.Mod.Acts) false, .sc (.int .i64 x.Mod.Idle), .sc (.int .i64 x.Mod.Hard), .sc (.int .i64 x.Mod.Owner), .sc (.bool x.Mod.Check), .sc (.int .i64 x.Port), .arr .u64 12 x.Head, .sl 68 (List.map Rule.av x.Rules) false] ∧ x.wf := by
  obtain ⟨gss, rfl, hl, hf⟩ := Shaped.struct_inv (fl := [(0, 3), (1, 3), (2, 24), (3, 32), (34, 3), (35, 27), (47, 33)]) (by kernel_rfl) h
  match gss, hl, hf with
  | [g0, g1, g2, g3, g4, g5, g6], _, hf =>
    obtain ⟨x0, rfl, w0⟩ := Shaped.int_inv (k := .i64) (by kernel_rfl) (hf 0 _ _ rfl rfl)
    obtain ⟨x1, rfl, w1⟩ := Shaped.int_inv (k := .i64) (by kernel_rfl) (hf 1 _ _ rfl rfl)
    obtain ⟨x2, rfl, w2⟩ := Shaped.int_inv (k := .i64) (by kernel_rfl) (hf 2 _ _ rfl rfl)
    obtain ⟨x3, rfl, w3⟩ := Mod.shaped (hf 3 _ _ rfl rfl)
    obtain ⟨x4, rfl, w4⟩ := Shaped.int_inv (k := .i64) (by kernel_rfl) (hf 4 _ _ rfl rfl)
    obtain ⟨x5, rfl, w5⟩ := Shaped.arr_inv (n := 12) (e := 25) (k := .u64) (by kernel_rfl) (by kernel_rfl) (hf 5 _ _ rfl rfl)
    obtain ⟨q6, rfl, hq6⟩ := Shaped.slice_inv (e := 68) (by kernel_rfl) (hf 6 _ _ rfl rfl)
    obtain ⟨x6, hx6, w6⟩ := rows_typedW (G := tab) (e := 68) (av := Rule.av) (wf := fun y => Rule.wf y) q6 (fun g hg => by obtain ⟨x, rfl, w⟩ := Rule.shaped (hq6 g hg); exact ⟨x, (by kernel_rfl), w⟩)
    rw [hx6]; exact ⟨⟨x0, x1, x2, x3, x4, x5, x6⟩, rfl, ⟨w0, w1, w2, w3, w4, w5, w6⟩⟩

end Go.Proofs.Ythfidfjogecnpaa

set_option linter.unusedVariables false
set_option linter.unusedSimpArgs false
set_option maxRecDepth 100000
set_option maxHeartbeats 4000000
namespace Go.Proofs.Ythfidfjogecnpaa
open Go.Sh
/-! ### podestalaw09.answers: function 9 -/
noncomputable def podestalaw09_answers_F : Go.Sh.Fn := ⟨9, bodyOf Try.f9, 36⟩
def podestalaw09_answers_raw : Option (Bool) :=
  (code_Encode_raw ({ Kind := 2, Txn := 7, E := 0, Mod := ({ Kind := 0, Match := ({ Value := [0, 0, 0, 0, 0, 0, 0, 0, 0, 0, 0, 0], Care := [0, 0, 0, 0, 0, 0, 0, 0, 0, 0, 0, 0] } : Cube), Prio := 0, Acts := [], Idle := 0, Hard := 0, Owner := 0, Check := false } : Mod), Port := 0, Head := [0, 0, 0, 0, 0, 0, 0, 0, 0, 0, 0, 0], Rules := [] } : Msg)).bind fun x =>
  (code_Decode_raw x.1).bind fun x1 =>
  some (((((x.2 == 0) && (x1.2 == 0)) && ((strOfNums x.1) == (ByteArray.mk #[2, 0, 0, 0, 7]))) && (x1.1.Txn == 7)) && (x1.1.Kind == 2))
theorem podestalaw09_answers_walk (r : Bool) (H : podestalaw09_answers_raw = some r) : ACalls Try.prog tab.S 9 [] [] (.sc (.bool r)) [] := by
  refine .of_AX podestalaw09_answers_F Try.func9 fun c0 hc0 => ?_
  rw [podestalaw09_answers_raw] at H
  refine .sg 3 [] (.rg (.sg 1 [6] (bndO H fun x hv H => (.cp [7] (ds := [(87, false), (68, false)]) (code_Encode_walk ({ Kind := 2, Txn := 7, E := 0, Mod := ({ Kind := 0, Match := ({ Value := [0, 0, 0, 0, 0, 0, 0, 0, 0, 0, 0, 0], Care := [0, 0, 0, 0, 0, 0, 0, 0, 0, 0, 0, 0] } : Cube), Prio := 0, Acts := [], Idle := 0, Hard := 0, Owner := 0, Check := false } : Mod), Port := 0, Head := [0, 0, 0, 0, 0, 0, 0, 0, 0, 0, 0, 0], Rules := [] } : Msg) x hv) (.sg 5 [1,2] (.dn (.sg 1 [1,2] (.rg (.sg 1 [1,2,11] (bndO H fun x1 hv H => (.cp [1,2,12] (code_Decode_walk x.1 false x1 hv) (.sg 6 [1,2,3,4] (.dn (.sg 1 [1,2,3,4] (.rg (.sg 3 [1,3,4,17] (.mx 0 [1,3,20] (.sg 1 [1,3,21] (.mm 21 ((x.2 == 0) && (x1.2 == 0)) 4 [.pure, .pure, .read, .pure] [3, 25] 25 (fun z => .sc (.bool (z && ((strOfNums x.1) == (ByteArray.mk #[2, 0, 0, 0, 7]))))) ?J2 (fun hb J => ?ht2) (fun hb J => ?hf2))))))))))))))))))))
  case ht2 =>
    exact .sg 1 [3,21,22] (.by_ [3,21,23] x.1 (.sg 2 [3,25] (.cl J)))
  case hf2 =>
    exact .sg 4 [3,25] (.cl J)
  refine .sg 1 [3,26] (.mx 0 [3,30] (.sg 1 [3,31] (.mx 0 [35] (.sg 1 [0] (.dn ?_)))))
  obtain rfl := Option.some.inj H
  exact .ret Try.func9 hc0

theorem podestalaw09_answers_ok : ACalls Try.prog tab.S 9 [] [] (.sc (.bool true)) [] := podestalaw09_answers_walk true (by kernel_rfl)
/-! ### podestaref01.Same: function 14 -/
noncomputable def podestaref01_Same_F : Go.Sh.Fn := ⟨14, bodyOf Try.f14, 26⟩
def podestaref01_Same_l0s (b : List Int) : List Int → Nat → Option (Sum (Unit) (Bool))
  | [], i =>
    some (.inl ())
  | x :: rest, i =>
    (ixO b ((i : Nat) : Int)).bind fun x1 =>
    (bif (x != x1) then
      some (.inr false)
    else
      podestaref01_Same_l0s b rest (i + 1) )
theorem podestaref01_Same_l0_walk (a : List Int) (b : List Int) (f_a : Bool) (f_b : Bool) (r : Bool) (c0 : Ctx) (hc0 : c0.m.length = 0) (res : Sum (Unit) (Bool)) (J : ∀ w : Unit, res = .inl w → AX Try.prog tab podestaref01_Same_F c0 (Rp tab.S c0 (.sc (.bool r)) []) (some ⟨[.code [1, 1, 1]], [], []⟩)) (Jr : ∀ w, res = .inr w → w = r) :
    ∀ (rest : List Int) (i : Nat) (z : Int) (hI : z = ((i : Nat) : Int)) (hd : a.drop i = rest) (H : podestaref01_Same_l0s b rest i = some res), AX Try.prog tab podestaref01_Same_F c0 (Rp tab.S c0 (.sc (.bool r)) []) (some ⟨[.code [1, 1, 0, 1, 0, 0], .loop [1, 1, 0, 1, 0], .blk 0, .code [1, 1, 1]], [(0, .sl 5 (List.map (intA .u8) a) f_a), (1, .sl 5 (List.map (intA .u8) b) f_b), (5, .sc (.int .i64 z))], []⟩) := by
  intro rest
  induction rest with
  | nil =>
    intro i z hI hd  H
    subst hI
    rw [podestaref01_Same_l0s] at H
    refine .facts 0 fun hf => ?_
    have hlen : a.length ≤ 9223372036854775807 := by have hq := len_ok hf.2.1; rw [List.length_map] at hq; exact hq
    have hge : a.length ≤ i := List.drop_eq_nil_iff.1 hd
    have hc : (decide (((i : Nat) : Int) < (((List.map (intA .u8) a).length : Nat) : Int))) = false := by rw [List.length_map]; exact decide_eq_false (by omega)
    exact .sg 3 [0,1,5,14] (.cdF hc (.sg 1 [] (.kp [] (.to (J () (Option.some.inj H).symm)))))
  | cons x rest ih =>
    intro i z hI hd  H
    subst hI
    rw [podestaref01_Same_l0s] at H
    refine .facts 0 fun hf => ?_
    have hlen : a.length ≤ 9223372036854775807 := by have hq := len_ok hf.2.1; rw [List.length_map] at hq; exact hq
    obtain ⟨hlt, hv_i, hd2⟩ := drop_cons hd
    have hc : (decide (((i : Nat) : Int) < (((List.map (intA .u8) a).length : Nat) : Int))) = true := by rw [List.length_map]; exact decide_eq_true (by omega)
    have hw : IntKind.i64.wrap (((i : Nat) : Int) + 1) = ((i + 1 : Nat) : Int) := wrapI_succ (by omega)
    refine .sg 3 [0,1,5,14] (.cdT hc (.sg 4 [0,1,5] (.rg (.sg 2 [0,1,5,17,18] (.xi [0,1,5,19] (intA .u8) hv_i (.sg 3 [0,1,5,20,21,22] (bndO H fun x1 hv H => (.xi [0,1,5,20,23] (intA .u8) hv (.sg 2 [0,1,5,25] (.dn (.cd (x != x1) H (fun hb H => ?_) (fun hb H => ?_))))))))))))
    ·
      refine .sg 2 [4] ?_
      obtain rfl := Option.some.inj H
      obtain rfl := Jr _ rfl
      exact .ret Try.func14 hc0
    ·
      exact .sg 3 [0,1,5] (.kp [0,1,5] (.into (.cl (ih (i + 1) _ hw hd2 H))))

def podestaref01_Same_raw (a : List Int) (b : List Int) : Option (Bool) :=
  (bif ((((List.map (intA .u8) a).length : Nat) : Int) != (((List.map (intA .u8) b).length : Nat) : Int)) then
    some false
  else
    loopO (podestaref01_Same_l0s b a 0) fun v =>
    some true)
theorem podestaref01_Same_walk (a : List Int) (b : List Int) (f_a : Bool) (f_b : Bool) (r : Bool) (H : podestaref01_Same_raw a b = some r) : ACalls Try.prog tab.S 14 [.sl 5 (List.map (intA .u8) a) f_a, .sl 5 (List.map (intA .u8) b) f_b] [] (.sc (.bool r)) [] := by
  refine .of_AX podestaref01_Same_F Try.func14 fun c0 hc0 => ?_
  rw [podestaref01_Same_raw] at H
  refine .sg 5 [0,1,10] (.cd ((((List.map (intA .u8) a).length : Nat) : Int) != (((List.map (intA .u8) b).length : Nat) : Int)) H (fun hb H => ?_) (fun hb H => ?_))
  ·
    refine .sg 2 [4] ?_
    obtain rfl := Option.some.inj H
    exact .ret Try.func14 hc0
  ·
    refine .sg 5 [0,1,5] ?_
    rcases loopO_some H with ⟨v, hv, H⟩ | hv
    case inr =>
      exact .into (.to (podestaref01_Same_l0_walk a b f_a f_b _ c0 hc0 (.inr _) (fun _ e => by cases e) (fun _ e => (Sum.inr.inj e).symm) a 0 _ rfl rfl hv))
    refine .into (.to (podestaref01_Same_l0_walk a b f_a f_b r c0 hc0 (.inl v) (fun w e => ?_) (fun _ e => by cases e) a 0 _ rfl rfl hv))
    have e := Sum.inl.inj e
    subst e
    refine .sg 2 [4] ?_
    obtain rfl := Option.some.inj H
    exact .ret Try.func14 hc0

def refSameB (a b : List Int) : Bool := a == b
theorem podestaref01_Same_ok (a b : List Int) (f_a f_b : Bool) : ACalls Try.prog tab.S 14 [.sl 5 (List.map (intA .u8) a) f_a, .sl 5 (List.map (intA .u8) b) f_b] [] (.sc (.bool (refSameB a b))) [] := by
  refine podestaref01_Same_walk a b f_a f_b _ ?_
  rw [podestaref01_Same_raw, len_bne]
  by_cases h : a.length = b.length
  · simp only [h, decide_true, Bool.not_true, cond_false]
    rw [cmp_loop (v := false) (podestaref01_Same_l0s b) b (fun x y => x == y) (fun _ => rfl) (fun x r i => by rw [podestaref01_Same_l0s]; simp only [bne]) a 0 (by omega), List.drop_zero, zipAll_beq]
    unfold refSameB
    cases a == b <;> rfl
  · have e : refSameB a b = false := by
      unfold refSameB
      rw [beq_eq_false_iff_ne]
      intro e
      exact h (by rw [e])
    rw [e]
    simp only [h, decide_false, Bool.not_false, cond_true]

/-! ### podestalaw09.CodeShort: function 5 -/
noncomputable def podestalaw09_CodeShort_F : Go.Sh.Fn := ⟨5, bodyOf Try.f5, 70⟩
def podestalaw09_CodeShort_raw (kind : Int) (id : Int) : Option (Bool) :=
  (ixO [2, 3, 4, 5, 7] (Int.tmod kind 5)).bind fun x =>
  (code_Encode_raw ({ Kind := x, Txn := (IntKind.i64.wrap id), E := 0, Mod := ({ Kind := 0, Match := ({ Value := [0, 0, 0, 0, 0, 0, 0, 0, 0, 0, 0, 0], Care := [0, 0, 0, 0, 0, 0, 0, 0, 0, 0, 0, 0] } : Cube), Prio := 0, Acts := [], Idle := 0, Hard := 0, Owner := 0, Check := false } : Mod), Port := 0, Head := [0, 0, 0, 0, 0, 0, 0, 0, 0, 0, 0, 0], Rules := [] } : Msg)).bind fun x1 =>
  (code_Decode_raw [(IntKind.u8.wrap x), (IntKind.u8.wrap (Int.fdiv id (2 ^ (min (24 : Int).toNat (IntKind.u32).bits)))), (IntKind.u8.wrap (Int.fdiv id (2 ^ (min (16 : Int).toNat (IntKind.u32).bits)))), (IntKind.u8.wrap (Int.fdiv id (2 ^ (min (8 : Int).toNat (IntKind.u32).bits)))), (IntKind.u8.wrap id)]).bind fun x2 =>
  some (((((x1.2 == 0) && (x2.2 == 0)) && (refSameB x1.1 [(IntKind.u8.wrap x), (IntKind.u8.wrap (Int.fdiv id (2 ^ (min (24 : Int).toNat (IntKind.u32).bits)))), (IntKind.u8.wrap (Int.fdiv id (2 ^ (min (16 : Int).toNat (IntKind.u32).bits)))), (IntKind.u8.wrap (Int.fdiv id (2 ^ (min (8 : Int).toNat (IntKind.u32).bits)))), (IntKind.u8.wrap id)])) && (x2.1.Kind == x)) && (x2.1.Txn == (IntKind.i64.wrap id)))
theorem podestalaw09_CodeShort_walk (kind : Int) (id : Int) (r : Bool) (H : podestalaw09_CodeShort_raw kind id = some r) : ACalls Try.prog tab.S 5 [.sc (.int .u8 kind), .sc (.int .u32 id)] [] (.sc (.bool r)) [] := by
  refine .of_AX podestalaw09_CodeShort_F Try.func5 fun c0 hc0 => ?_
  rw [podestalaw09_CodeShort_raw] at H
  refine .sg 3 [0,1] (.rg (.sg 2 [1,11,12] (.re [1,11,13] (b := 5) (by decide) (bndO H fun x hv H => (.xi [1,14] (intA .i64) hv (.sg 2 [1,5] (.dn (.sg 1 [1,5] (.rg (.sg 4 [1,5,20] (bndO H fun x1 hv H => (.cp [1,5,21] (ds := [(87, false), (68, false)]) (code_Encode_walk ({ Kind := x, Txn := (IntKind.i64.wrap id), E := 0, Mod := ({ Kind := 0, Match := ({ Value := [0, 0, 0, 0, 0, 0, 0, 0, 0, 0, 0, 0], Care := [0, 0, 0, 0, 0, 0, 0, 0, 0, 0, 0, 0] } : Cube), Prio := 0, Acts := [], Idle := 0, Hard := 0, Owner := 0, Check := false } : Mod), Port := 0, Head := [0, 0, 0, 0, 0, 0, 0, 0, 0, 0, 0, 0], Rules := [] } : Msg) x1 hv) (.sg 5 [1,5,6,7] (.dn (.sg 1 [1,5,6,7] (.rg (.sg 3 [1,5,6,7,25,26] (.sr_ [1,5,6,7,25,27] (b := 24) (by decide) (.sg 2 [1,5,6,7,25,28,29] (.sr_ [1,5,6,7,25,28,30] (b := 16) (by decide) (.sg 2 [1,5,6,7,25,28,31,32] (.sr_ [1,5,6,7,25,28,31,33] (b := 8) (by decide) (.sg 5 [1,5,6,7,8] (.dn (.sg 1 [1,5,6,7,8] (.rg (.sg 1 [1,5,6,7,8,39] (bndO H fun x2 hv H => (.cp [1,5,6,7,8,40] (code_Decode_walk [(IntKind.u8.wrap x), (IntKind.u8.wrap (Int.fdiv id (2 ^ (min (24 : Int).toNat (IntKind.u32).bits)))), (IntKind.u8.wrap (Int.fdiv id (2 ^ (min (16 : Int).toNat (IntKind.u32).bits)))), (IntKind.u8.wrap (Int.fdiv id (2 ^ (min (8 : Int).toNat (IntKind.u32).bits)))), (IntKind.u8.wrap id)] true x2 hv) (.sg 6 [1,5,6,7,8,9,10] (.dn (.sg 1 [1,5,6,7,8,9,10] (.rg (.cp [1,5,6,7,8,9,10,43] (podestalaw09_answers_ok) (.sg 5 [1,5,6,8,9,10,48] (.mx 0 [1,5,6,8,9,51] (.sg 1 [1,5,6,8,9,52] (.mm 52 ((x1.2 == 0) && (x2.2 == 0)) 4 [.pure, .pure, .pure, .pure] [1, 5, 9, 56] 56 (fun z => .sc (.bool (z && (refSameB x1.1 [(IntKind.u8.wrap x), (IntKind.u8.wrap (Int.fdiv id (2 ^ (min (24 : Int).toNat (IntKind.u32).bits)))), (IntKind.u8.wrap (Int.fdiv id (2 ^ (min (16 : Int).toNat (IntKind.u32).bits)))), (IntKind.u8.wrap (Int.fdiv id (2 ^ (min (8 : Int).toNat (IntKind.u32).bits)))), (IntKind.u8.wrap id)])))) ?J2 (fun hb J => ?ht2) (fun hb J => ?hf2)))))))))))))))))))))))))))))))))))))))
  case ht2 =>
    exact .sg 2 [1,5,9,52,53,54] (.cp [1,5,9,52,55] (podestaref01_Same_ok x1.1 [(IntKind.u8.wrap x), (IntKind.u8.wrap (Int.fdiv id (2 ^ (min (24 : Int).toNat (IntKind.u32).bits)))), (IntKind.u8.wrap (Int.fdiv id (2 ^ (min (16 : Int).toNat (IntKind.u32).bits)))), (IntKind.u8.wrap (Int.fdiv id (2 ^ (min (8 : Int).toNat (IntKind.u32).bits)))), (IntKind.u8.wrap id)] false true) (.sg 1 [1,5,9,56] (.cl J)))
  case hf2 =>
    exact .sg 4 [1,5,9,56] (.cl J)
  refine .sg 1 [1,5,9,57] (.mx 0 [1,9,62] (.sg 1 [1,9,63] (.mx 0 [69] (.sg 1 [4] (.dn ?_)))))
  obtain rfl := Option.some.inj H
  exact .ret Try.func5 hc0

end Go.Proofs.Ythfidfjogecnpaa

set_option linter.unusedVariables false
set_option linter.unusedSimpArgs false
set_option maxRecDepth 100000
set_option maxHeartbeats 4000000
namespace Go.Proofs.Ythfidfjogecnpaa
open Go.Sh
theorem wrap_u8_mod (n : Int) : IntKind.u8.wrap n = n % 256 := by simp [IntKind.wrap, IntKind.bits, IntKind.signed]
theorem wrap_u64_mod (n : Int) : IntKind.u64.wrap n = n % 18446744073709551616 := by simp [IntKind.wrap, IntKind.bits, IntKind.signed]
theorem get_step (n c : Nat) (hn : n < 72057594037927936) (hc : c < 256) : IntKind.u64.wrap ((BitVec.ofInt 64 (IntKind.u64.wrap ((n : Int) * 2 ^ (min (8 : Int).toNat (IntKind.u64).bits))) ||| BitVec.ofInt 64 (IntKind.u64.wrap (c : Int))).toNat) = ((n * 256 + c : Nat) : Int) := by
  have e1 : (2 : Int) ^ (min (8 : Int).toNat (IntKind.u64).bits) = 256 := by decide
  have h1 : IntKind.u64.wrap ((n : Int) * 256) = ((n * 256 : Nat) : Int) := by rw [wrap_u64_mod]; omega
  have h2 : IntKind.u64.wrap (c : Int) = ((c : Nat) : Int) := by rw [wrap_u64_mod]; omega
  rw [e1, h1, h2]
  have h3 : (BitVec.ofInt 64 ((n * 256 : Nat) : Int) ||| BitVec.ofInt 64 ((c : Nat) : Int)).toNat = n * 256 + c := by
    rw [BitVec.ofInt_natCast, BitVec.ofInt_natCast, BitVec.toNat_or, BitVec.toNat_ofNat, BitVec.toNat_ofNat, Nat.mod_eq_of_lt (by omega), Nat.mod_eq_of_lt (by omega)]
    have := Nat.shiftLeft_add_eq_or_of_lt (i := 8) (b := c) (by omega) n
    rw [Nat.shiftLeft_eq] at this
    exact this.symm
  rw [h3, wrap_u64_mod]
  omega
/-- what was written is read: the low k bytes -/
theorem get_beB (n : Nat) : ∀ (k a : Nat), k ≤ 8 → a < 256 ^ (8 - k) → code_reader_get_l0s (beB (n : Int) k) (a : Int) = ((a * 256 ^ k + n % 256 ^ k : Nat) : Int)
  | 0, a, _, _ => by
    rw [beB, code_reader_get_l0s, Nat.pow_zero, Nat.mod_one]
    omega
  | k + 1, a, hk, ha => by
    have e : (8 - k) = (8 - (k + 1)) + 1 := by omega
    have hb : a < 72057594037927936 := Nat.lt_of_lt_of_le ha (Nat.le_trans (Nat.pow_le_pow_right (by decide) (show 8 - (k + 1) ≤ 7 by omega)) (by decide))
    have hc : IntKind.u8.wrap (Int.fdiv (n : Int) (2 ^ (8 * k))) = ((n / 256 ^ k % 256 : Nat) : Int) := by
      have h2 : (2 : Int) ^ (8 * k) = ((256 ^ k : Nat) : Int) := by
        rw [Int.pow_mul]
        simp
      rw [wrap_u8_mod, h2, Int.fdiv_eq_ediv_of_nonneg _ (Int.natCast_nonneg _)]
      simp
    have hlt : n / 256 ^ k % 256 < 256 := Nat.mod_lt _ (by decide)
    have hle : a * 256 + n / 256 ^ k % 256 < 256 ^ (8 - k) := by
      rw [e, Nat.pow_succ]
      have key : ∀ (x B y : Nat), x < B → y < 256 → x * 256 + y < B * 256 := fun x B y h1 h2 => by omega
      exact key a _ _ ha hlt
    rw [beB, code_reader_get_l0s, hc, get_step a _ hb hlt, get_beB n k _ (by omega) hle]
    congr 1
    have h4 : n % 256 ^ (k + 1) = n % 256 ^ k + 256 ^ k * (n / 256 ^ k % 256) := by rw [Nat.pow_succ, Nat.mod_mul]
    rw [h4, Nat.pow_succ, Nat.add_mul, Nat.mul_assoc, Nat.mul_comm 256 (256 ^ k), Nat.mul_comm (n / 256 ^ k % 256)]
    omega
theorem get_app (n k : Nat) (hk : k ≤ 8) (r : List Int) : code_reader_get_raw ⟨beB (n : Int) k ++ r, false⟩ (k : Int) = some (((n % 256 ^ k : Nat) : Int), ⟨r, false⟩) := by
  have hl : (beB (n : Int) k ++ r).length = k + r.length := by rw [List.length_append, beB_length]
  have s1 : sliceO (beB (n : Int) k ++ r) none (some (k : Int)) none = some (beB (n : Int) k) := by
    unfold sliceO
    rw [if_pos ⟨by simp only [Option.getD_none]; omega, by simp only [Option.getD_none, Option.getD_some]; omega, by simp only [Option.getD_some, hl]; omega, .inl rfl⟩]
    simp [List.take_left' (beB_length (n : Int) k)]
  have s2 : sliceO (beB (n : Int) k ++ r) (some (k : Int)) none none = some r := by
    unfold sliceO
    rw [if_pos ⟨by simp only [Option.getD_some]; omega, by simp only [Option.getD_none, Option.getD_some, hl]; omega, by simp only [Option.getD_none, hl]; omega, .inl rfl⟩]
    simp only [Option.getD_some, Option.getD_none, Int.toNat_natCast, List.drop_left' (beB_length (n : Int) k), hl]
    rw [List.take_of_length_le (by omega)]
  have hd : decide ((((List.map (intA .u8) (beB (n : Int) k ++ r)).length : Nat) : Int) < (k : Int)) = false := decide_eq_false (by rw [List.length_map, hl]; omega)
  have hg := get_beB n k 0 hk (Nat.pow_pos (by decide))
  rw [code_reader_get_raw]
  simp only [hd, Bool.or_self, cond_false, s1, s2, Option.bind_some, letT]
  rw [show (0 : Int) = ((0 : Nat) : Int) from rfl, hg]
  simp

end Go.Proofs.Ythfidfjogecnpaa

set_option linter.unusedVariables false
set_option linter.unusedSimpArgs false
set_option maxRecDepth 100000
set_option maxHeartbeats 4000000
namespace Go.Proofs.Ythfidfjogecnpaa
open Go.Sh
/-! ### What bytes are read as -/
def Bytes (b : List Int) : Prop := ∀ y ∈ b, 0 ≤ y ∧ y ≤ 255
def beN (n : Nat) : Nat → List Int
  | 0 => []
  | k + 1 => ((n / 256 ^ k % 256 : Nat) : Int) :: beN n k
theorem beB_eq (n : Nat) : ∀ k, beB (n : Int) k = beN n k
  | 0 => rfl
  | k + 1 => by
    have h2 : (2 : Int) ^ (8 * k) = ((256 ^ k : Nat) : Int) := by
      rw [Int.pow_mul]
      simp
    rw [beB, beN, beB_eq n k, wrap_u8_mod, h2, Int.fdiv_eq_ediv_of_nonneg _ (Int.natCast_nonneg _)]
    simp
theorem beN_length (n : Nat) : ∀ k, (beN n k).length = k
  | 0 => rfl
  | k + 1 => by rw [beN, List.length_cons, beN_length n k]
def valN : List Int → Nat
  | [] => 0
  | c :: r => c.toNat * 256 ^ r.length + valN r
theorem Bytes.tail {c : Int} {r : List Int} (h : Bytes (c :: r)) : Bytes r := fun y hy => h y (List.mem_cons_of_mem _ hy)
theorem Bytes.left {a b : List Int} (h : Bytes (a ++ b)) : Bytes a := fun y hy => h y (List.mem_append_left _ hy)
theorem Bytes.right {a b : List Int} (h : Bytes (a ++ b)) : Bytes b := fun y hy => h y (List.mem_append_right _ hy)
theorem Bytes.app {a b : List Int} (h : Bytes a) (k : Bytes b) : Bytes (a ++ b) := fun y hy => (List.mem_append.1 hy).elim (h y) (k y)
theorem valN_lt : ∀ (bs : List Int), Bytes bs → valN bs < 256 ^ bs.length
  | [], _ => by simp [valN]
  | c :: r, h => by
    have ih := valN_lt r h.tail
    have hc := h c List.mem_cons_self
    have key : ∀ (x B y : Nat), x < 256 → y < B → x * B + y < B * 256 := fun x B y h1 h2 => by
      have : x * B ≤ 255 * B := Nat.mul_le_mul_right _ (by omega)
      omega
    rw [valN, List.length_cons, Nat.pow_succ]
    exact key _ _ _ (by omega) ih
theorem beN_mod (n k j : Nat) (h : k ≤ j) : beN (n % 256 ^ j) k = beN n k := by
  induction k with
  | zero => rfl
  | succ k ih =>
    rw [beN, beN, ih (by omega)]
    have e : n % 256 ^ j / 256 ^ k % 256 = n / 256 ^ k % 256 := by
      have : 256 ^ j = 256 ^ k * 256 ^ (j - k) := by rw [← Nat.pow_add]; congr 1; omega
      rw [this, Nat.mod_mul_right_div_self]
      refine Nat.mod_mod_of_dvd _ ?_
      have : j - k = (j - k - 1) + 1 := by omega
      rw [this, Nat.pow_succ]
      exact Nat.dvd_mul_left _ _
    rw [e]
theorem beN_valN : ∀ (bs : List Int), Bytes bs → beN (valN bs) bs.length = bs
  | [], _ => rfl
  | c :: r, h => by
    have ih := beN_valN r h.tail
    have hl := valN_lt r h.tail
    have hc := h c List.mem_cons_self
    have hp : 0 < 256 ^ r.length := Nat.pow_pos (by decide)
    have e1 : valN (c :: r) / 256 ^ r.length % 256 = c.toNat := by
      rw [valN, Nat.mul_comm, Nat.mul_add_div hp, Nat.div_eq_of_lt hl]
      omega
    have e2 : valN (c :: r) % 256 ^ r.length = valN r := by rw [valN, Nat.mul_comm, Nat.mul_add_mod, Nat.mod_eq_of_lt hl]
    rw [List.length_cons, beN, e1, ← beN_mod _ _ _ (Nat.le_refl _), e2, ih, Int.toNat_of_nonneg hc.1]
theorem valN_beN (n : Nat) : ∀ k, valN (beN n k) = n % 256 ^ k
  | 0 => by rw [Nat.pow_zero, Nat.mod_one]; rfl
  | k + 1 => by
    rw [beN, valN, valN_beN n k, beN_length, Nat.pow_succ, Nat.mod_mul, Int.toNat_natCast, Nat.mul_comm]
    omega
theorem beN_bytes (n : Nat) : ∀ k, Bytes (beN n k)
  | 0 => by intro y hy; cases hy
  | k + 1 => by
    intro y hy
    rcases List.mem_cons.1 hy with rfl | hy
    · have : n / 256 ^ k % 256 < 256 := Nat.mod_lt _ (by decide)
      omega
    · exact beN_bytes n k y hy
abbrev Ps (α : Type) := List Int → Option (α × List Int)
/-- a way to write, and a way to read it again -/
structure Cod {α : Type} (p : Ps α) (e : α → List Int) (V : α → Prop) : Prop where
  dec : ∀ b a r, Bytes b → p b = some (a, r) → b = e a ++ r ∧ V a
  enc : ∀ a r, V a → p (e a ++ r) = some (a, r)
  byt : ∀ a, V a → Bytes (e a)
def getP (k : Nat) : Ps Int := fun b => if b.length < k then none else some (((valN (b.take k) : Nat) : Int), b.drop k)
def pureP {α : Type} (a : α) : Ps α := fun b => some (a, b)
def bindP {α β : Type} (p : Ps α) (q : α → Ps β) : Ps β := fun b => (p b).bind fun v => q v.1 v.2
theorem cod_get (k : Nat) : Cod (getP k) (fun n => beB n k) (fun n => 0 ≤ n ∧ n < ((256 ^ k : Nat) : Int)) where
  dec := fun b a r hb h => by
    unfold getP at h
    split at h
    · cases h
    · rename_i hl
      injection h with h
      injection h with h1 h2
      subst h1; subst h2
      have ht : (b.take k).length = k := by rw [List.length_take]; omega
      have hbt : Bytes (b.take k) := fun y hy => hb y (List.mem_of_mem_take hy)
      have hv := valN_lt _ hbt
      have hn := beN_valN _ hbt
      rw [ht] at hv hn
      refine ⟨?_, Int.natCast_nonneg _, by exact_mod_cast hv⟩
      rw [beB_eq, hn, List.take_append_drop]
  enc := fun a r h => by
    obtain ⟨n, rfl⟩ := Int.eq_ofNat_of_zero_le h.1
    have hn : n < 256 ^ k := by exact_mod_cast h.2
    unfold getP
    rw [beB_eq, if_neg (by rw [List.length_append, beN_length]; omega), List.take_left' (beN_length n k), List.drop_left' (beN_length n k), valN_beN, Nat.mod_eq_of_lt hn]
  byt := fun a h => by
    obtain ⟨n, rfl⟩ := Int.eq_ofNat_of_zero_le h.1
    rw [beB_eq]
    exact beN_bytes n k
def numP (k : Nat) : Ps Int := bindP (getP k) fun a => pureP (IntKind.i64.wrap a)
def encN (k : Nat) (n : Int) : List Int := beB (IntKind.u64.wrap n) k
theorem numP_some {k : Nat} {b r : List Int} {a : Int} (h : numP k b = some (a, r)) : ∃ c, getP k b = some (c, r) ∧ a = IntKind.i64.wrap c := by
  obtain ⟨v, h1, h2⟩ := Option.bind_eq_some_iff.1 h
  injection h2 with h2
  injection h2 with h3 h4
  exact ⟨v.1, by rw [h1, ← h4], h3.symm⟩
theorem cod_num (k : Nat) (hk : k ≤ 4) : Cod (numP k) (encN k) (fun n => 0 ≤ n ∧ n < ((256 ^ k : Nat) : Int)) where
  dec := fun b a r hb h => by
    obtain ⟨c, h1, rfl⟩ := numP_some h
    obtain ⟨h2, h3⟩ := (cod_get k).dec b c r hb h1
    have hp : 256 ^ k ≤ 256 ^ 4 := Nat.pow_le_pow_right (by decide) hk
    have e : IntKind.i64.wrap c = c := wrap_eq (by omega) (by omega)
    rw [e]
    refine ⟨?_, h3⟩
    rw [encN, wrapU_eq h3.1 (by omega)]
    exact h2
  enc := fun a r h => by
    have hp : 256 ^ k ≤ 256 ^ 4 := Nat.pow_le_pow_right (by decide) hk
    have h1 := (cod_get k).enc a r h
    unfold numP bindP
    rw [encN, wrapU_eq h.1 (by omega), h1, Option.bind_some]
    dsimp only
    rw [wrap_eq (by omega) (by omega)]
    rfl
  byt := fun a h => by
    have hp : 256 ^ k ≤ 256 ^ 4 := Nat.pow_le_pow_right (by decide) hk
    rw [encN, wrapU_eq h.1 (by omega)]
    exact (cod_get k).byt a h
theorem i64W {n : Int} : intW .i64 n ↔ -9223372036854775808 ≤ n ∧ n ≤ 9223372036854775807 := by
  simp only [intW, Lit.wf, Bool.and_eq_true, decide_eq_true_eq]
  exact Iff.rfl
theorem i64_mod (n : Int) : IntKind.i64.wrap n = if n % 18446744073709551616 < 9223372036854775808 then n % 18446744073709551616 else n % 18446744073709551616 - 18446744073709551616 := by
  have := IntKind.wrap_i64 n
  omega
theorem cod_num8 : Cod (numP 8) (encN 8) (intW .i64) where
  dec := fun b a r hb h => by
    obtain ⟨c, h1, rfl⟩ := numP_some h
    obtain ⟨h2, h3⟩ := (cod_get 8).dec b c r hb h1
    have e : IntKind.u64.wrap (IntKind.i64.wrap c) = c := by
      rw [wrap_u64_mod, i64_mod]
      have : ((256 ^ 8 : Nat) : Int) = 18446744073709551616 := by decide
      split <;> omega
    rw [encN, e]
    refine ⟨h2, ?_⟩
    have : ((256 ^ 8 : Nat) : Int) = 18446744073709551616 := by decide
    have hw : -9223372036854775808 ≤ IntKind.i64.wrap c ∧ IntKind.i64.wrap c ≤ 9223372036854775807 := by
      rw [i64_mod]
      split <;> omega
    exact i64W.2 hw
  enc := fun a r h => by
    have hw : -9223372036854775808 ≤ a ∧ a ≤ 9223372036854775807 := i64W.1 h
    have h1 := (cod_get 8).enc (IntKind.u64.wrap a) r (by rw [wrap_u64_mod]; have : ((256 ^ 8 : Nat) : Int) = 18446744073709551616 := by decide
                                                          omega)
    unfold numP bindP
    rw [encN, h1, Option.bind_some]
    have e : IntKind.i64.wrap (IntKind.u64.wrap a) = a := by
      rw [wrap_u64_mod, i64_mod]
      split <;> omega
    dsimp only
    rw [e]
    rfl
  byt := fun a h => by
    rw [encN]
    refine (cod_get 8).byt _ ?_
    rw [wrap_u64_mod]
    have : ((256 ^ 8 : Nat) : Int) = 18446744073709551616 := by decide
    omega
def repP {α : Type} (p : Ps α) : Nat → Ps (List α)
  | 0 => pureP []
  | n + 1 => bindP p fun a => bindP (repP p n) fun l => pureP (a :: l)
theorem bindP_some {α β : Type} {p : Ps α} {q : α → Ps β} {b r : List Int} {x : β} (h : bindP p q b = some (x, r)) : ∃ a s, p b = some (a, s) ∧ q a s = some (x, r) := by
  obtain ⟨v, h1, h2⟩ := Option.bind_eq_some_iff.1 h
  exact ⟨v.1, v.2, h1, h2⟩
theorem bindP_eq {α β : Type} {p : Ps α} {q : α → Ps β} {b s : List Int} {a : α} (h : p b = some (a, s)) : bindP p q b = q a s := by unfold bindP; rw [h]; rfl
theorem bindP_none {α β : Type} {p : Ps α} {q : α → Ps β} {b : List Int} (h : p b = none) : bindP p q b = none := by unfold bindP; rw [h]; rfl
theorem pureP_some {α : Type} {a x : α} {b r : List Int} (h : pureP a b = some (x, r)) : a = x ∧ b = r := by
  injection h with h
  injection h with h1 h2
  exact ⟨h1, h2⟩
theorem cod_rep {α : Type} {p : Ps α} {e : α → List Int} {V : α → Prop} (H : Cod p e V) : ∀ n, Cod (repP p n) (fun l => l.flatMap e) (fun l => l.length = n ∧ ∀ a ∈ l, V a)
  | 0 => ⟨fun b a r hb h => by obtain ⟨rfl, rfl⟩ := pureP_some h; exact ⟨rfl, rfl, by simp⟩, fun a r h => by
      have : a = [] := List.eq_nil_of_length_eq_zero h.1
      subst this
      rfl, fun a h => by
      have : a = [] := List.eq_nil_of_length_eq_zero h.1
      subst this
      intro y hy
      cases hy⟩
  | n + 1 => by
    have ih := cod_rep H n
    refine ⟨fun b a r hb h => ?_, fun a r h => ?_, fun a h => ?_⟩
    · obtain ⟨x, s, h1, h2⟩ := bindP_some h
      obtain ⟨l, s2, h3, h4⟩ := bindP_some h2
      obtain ⟨rfl, rfl⟩ := pureP_some h4
      obtain ⟨rfl, v1⟩ := H.dec b x s hb h1
      obtain ⟨rfl, v2, v3⟩ := ih.dec _ l s2 hb.right h3
      refine ⟨by rw [List.flatMap_cons, List.append_assoc], by simp [v2], fun a ha => ?_⟩
      rcases List.mem_cons.1 ha with rfl | ha
      · exact v1
      · exact v3 a ha
    · cases a with
      | nil => cases h.1
      | cons x l =>
        rw [repP, List.flatMap_cons, List.append_assoc, bindP_eq (H.enc x _ (h.2 x List.mem_cons_self)), bindP_eq (ih.enc l r ⟨by simpa using h.1, fun a ha => h.2 a (List.mem_cons_of_mem _ ha)⟩)]
        rfl
    · intro y hy
      obtain ⟨x, hx, hy⟩ := List.mem_flatMap.1 hy
      exact H.byt x (h.2 x hx) y hy

end Go.Proofs.Ythfidfjogecnpaa

set_option linter.unusedVariables false
set_option linter.unusedSimpArgs false
set_option maxRecDepth 100000
set_option maxHeartbeats 4000000
namespace Go.Proofs.Ythfidfjogecnpaa
open Go.Sh
/-! ### A comparison that orders -/
structure Good {α : Type} (c : α → α → Int) : Prop where
  eq : ∀ a b, c a b = 0 ↔ a = b
  anti : ∀ a b, 0 < c b a ↔ c a b < 0
  trans : ∀ a b d, c a b < 0 → c b d < 0 → c a d < 0
theorem good_u64 : Good cmp_Compare_uint64 := by
  have e : ∀ x y, cmp_Compare_uint64 x y = if x < y then -1 else if x > y then 1 else 0 := by
    intro x y
    have h : ∀ z, cmp_isNaN_uint64 z = false := fun z => by simp [cmp_isNaN_uint64]
    rw [cmp_Compare_uint64, h, h]
    by_cases h1 : x < y
    · simp [h1]
    · by_cases h2 : x > y
      · simp [h1, h2]
      · simp [h1, h2]
  refine ⟨fun a b => ?_, fun a b => ?_, fun a b d => ?_⟩
  · rw [e]; split
    · constructor <;> intro <;> omega
    · split <;> constructor <;> intro <;> omega
  · rw [e, e]
    (repeat' split) <;> constructor <;> intro <;> omega
  · rw [e, e, e]
    (repeat' split) <;> intro <;> intro <;> omega
theorem cmpL_cons {α : Type} (c : α → α → Int) (x y : α) (l r : List α) : cmpL c (x :: l) (y :: r) = if c x y = 0 then cmpL c l r else c x y := by
  rw [cmpL]
  by_cases h : c x y = 0
  · rw [if_pos h, h]; rfl
  · have : (c x y != 0) = true := by simp [h]
    rw [if_neg h, this]; rfl
theorem good_list {α : Type} {c : α → α → Int} (g : Good c) : Good (cmpL c) := by
  have eq : ∀ a b, cmpL c a b = 0 ↔ a = b := by
    intro a
    induction a with
    | nil => intro b; cases b <;> simp [cmpL]
    | cons x l ih =>
      intro b
      cases b with
      | nil => simp [cmpL]
      | cons y r =>
        rw [cmpL_cons, List.cons.injEq, ← g.eq x y, ← ih r]
        split
        · rename_i h; simp [h]
        · rename_i h; simp [h]
  have anti : ∀ a b, 0 < cmpL c b a ↔ cmpL c a b < 0 := by
    intro a
    induction a with
    | nil => intro b; cases b <;> simp [cmpL]
    | cons x l ih =>
      intro b
      cases b with
      | nil => simp [cmpL]
      | cons y r =>
        rw [cmpL_cons, cmpL_cons]
        have h1 := g.anti x y
        have h2 := g.anti y x
        have h3 := ih r
        by_cases h : c x y = 0
        · have h' : c y x = 0 := by omega
          rw [if_pos h, if_pos h']; exact h3
        · have h' : c y x ≠ 0 := by omega
          rw [if_neg h, if_neg h']; exact h1
  refine ⟨eq, anti, ?_⟩
  intro a
  induction a with
  | nil =>
    intro b d h1 h2
    cases d with
    | nil =>
      cases b with
      | nil => simp [cmpL] at h1
      | cons y r => simp [cmpL] at h2
    | cons z s => simp [cmpL]
  | cons x l ih =>
    intro b d h1 h2
    cases b with
    | nil => simp [cmpL] at h1
    | cons y r =>
      cases d with
      | nil => simp [cmpL] at h2
      | cons z s =>
        rw [cmpL_cons] at h1 h2 ⊢
        by_cases e1 : c x y = 0
        · rw [if_pos e1] at h1
          have hxy := (g.eq x y).1 e1
          subst hxy
          by_cases e2 : c x z = 0
          · rw [if_pos e2] at h2 ⊢
            exact ih r s h1 h2
          · rw [if_neg e2] at h2 ⊢
            exact h2
        · rw [if_neg e1] at h1
          by_cases e2 : c y z = 0
          · have hyz := (g.eq y z).1 e2
            subst hyz
            rw [if_neg e1]; exact h1
          · rw [if_neg e2] at h2
            have h3 := g.trans x y z h1 h2
            rw [if_neg (by omega)]; exact h3
theorem good_pair {α β : Type} {c : α → α → Int} {d : β → β → Int} (g : Good c) (k : Good d) : Good (fun (a b : α × β) => if c a.1 b.1 = 0 then d a.2 b.2 else c a.1 b.1) := by
  refine ⟨fun a b => ?_, fun a b => ?_, fun a b e h1 h2 => ?_⟩
  · obtain ⟨a1, a2⟩ := a
    obtain ⟨b1, b2⟩ := b
    rw [Prod.mk.injEq, ← g.eq a1 b1, ← k.eq a2 b2]
    split
    · rename_i h; simp [h]
    · rename_i h; simp [h]
  · have h1 := g.anti a.1 b.1
    have h2 := g.anti b.1 a.1
    have h3 := k.anti a.2 b.2
    by_cases h : c a.1 b.1 = 0
    · rw [if_pos h, if_pos (by omega)]; exact h3
    · rw [if_neg h, if_neg (by omega)]; exact h1
  · by_cases e1 : c a.1 b.1 = 0
    · rw [if_pos e1] at h1
      rw [(g.eq _ _).1 e1]
      by_cases e2 : c b.1 e.1 = 0
      · rw [if_pos e2] at h2 ⊢; exact k.trans _ _ _ h1 h2
      · rw [if_neg e2] at h2 ⊢; exact h2
    · rw [if_neg e1] at h1
      by_cases e2 : c b.1 e.1 = 0
      · rw [← (g.eq _ _).1 e2, if_neg e1]; exact h1
      · rw [if_neg e2] at h2
        have h3 := g.trans _ _ _ h1 h2
        rw [if_neg (by omega)]; exact h3
def downI (a b : Int) : Int := if a = b then 0 else if a > b then -1 else 1
theorem good_down : Good downI := by
  refine ⟨fun a b => ?_, fun a b => ?_, fun a b d => ?_⟩ <;> unfold downI <;> (repeat' split) <;> first | (constructor <;> intro <;> omega) | (intro _ _; omega)
def keyC (a b : Int × List Int × List Int) : Int := if downI a.1 b.1 = 0 then (if cmpL cmp_Compare_uint64 a.2.1 b.2.1 = 0 then cmpL cmp_Compare_uint64 a.2.2 b.2.2 else cmpL cmp_Compare_uint64 a.2.1 b.2.1) else downI a.1 b.1
theorem good_key : Good keyC := good_pair good_down (good_pair (good_list good_u64) (good_list good_u64))
def Rule.key (r : Rule) : Int × List Int × List Int := (r.Prio, r.Match.Care, r.Match.Value)
theorem head_Compare_eq (a b : List Int) : head_Compare a b = cmpL cmp_Compare_uint64 a b := rfl
theorem cmp_Or_two (a b : Int) : cmp_Or_int [a, b] = if a = 0 then b else a := by
  rw [cmp_Or_int, cmp_Or_int_l0s, cmp_Or_int_l0s, cmp_Or_int_l0s]
  by_cases h : a = 0
  · subst h
    by_cases k : b = 0
    · subst k; rfl
    · have : (b != 0) = true := by simp [k]
      rw [if_pos rfl, this]; rfl
  · have : (a != 0) = true := by simp [h]
    rw [if_neg h, this]; rfl
theorem compare_key (a b : Rule) : rule_compare a b = keyC a.key b.key := by
  rw [rule_compare, cube_Compare, cmp_Or_two, head_Compare_eq, head_Compare_eq]
  unfold keyC Rule.key downI
  by_cases h : a.Prio = b.Prio
  · simp [h]
  · by_cases k : a.Prio > b.Prio
    · have k' : b.Prio < a.Prio := k
      have hb : (a.Prio != b.Prio) = true := by simp [h]
      rw [hb]; simp [h, k']
    · have k' : ¬ b.Prio < a.Prio := k
      have hb : (a.Prio != b.Prio) = true := by simp [h]
      rw [hb]; simp [h, k']
theorem Key_key (a b : Rule) : rule_Key a b = decide (a.key = b.key) := by
  rw [rule_Key]
  unfold Rule.key
  rw [Bool.eq_iff_iff]
  simp only [Bool.and_eq_true, beq_iff_eq, decide_eq_true_eq, Prod.mk.injEq]
  constructor
  · rintro ⟨⟨h1, h2⟩, h3⟩; exact ⟨h3, h2, h1⟩
  · rintro ⟨h1, h2, h3⟩; exact ⟨⟨h3, h2⟩, h1⟩
theorem Before_key (a b : Rule) : rule_Before a b = decide (keyC a.key b.key < 0) := by rw [rule_Before, compare_key]

end Go.Proofs.Ythfidfjogecnpaa

set_option linter.unusedVariables false
set_option linter.unusedSimpArgs false
set_option maxRecDepth 100000
set_option maxHeartbeats 4000000
namespace Go.Proofs.Ythfidfjogecnpaa
open Go.Sh
/-! ### podestaref01.Size: function 54 -/
noncomputable def podestaref01_Size_F : Go.Sh.Fn := ⟨54, bodyOf Try.f54, 13⟩
def podestaref01_Size_raw (field : Int) : Option (Int) :=
  (bif ((decide (field < 0)) || (decide (field > 11))) then
    some 0
  else
    (ixO [16, 48, 48, 16, 12, 4, 32, 32, 8, 8, 12, 12] field).bind fun x =>
    some x)
theorem podestaref01_Size_walk (field : Int) (r : Int) (H : podestaref01_Size_raw field = some r) : ACalls Try.prog tab.S 54 [.sc (.int .i64 field)] [] (.sc (.int .i64 r)) [] := by
  refine .of_AX podestaref01_Size_F Try.func54 fun c0 hc0 => ?_
  rw [podestaref01_Size_raw] at H
  refine .sg 4 [0] (.rg (.sg 3 [0,5] (.mx 1 [0,8] (.dn (.cd ((decide (field < 0)) || (decide (field > 11))) H (fun hb H => ?_) (fun hb H => ?_))))))
  ·
    refine .sg 2 [2] ?_
    obtain rfl := Option.some.inj H
    exact .ret Try.func54 hc0
  ·
    refine .sg 2 [0] (.rg (.sg 2 [9,10] (bndO H fun x hv H => (.xi [11] (intA .i64) hv (.sg 2 [2] (.dn ?_))))))
    obtain rfl := Option.some.inj H
    exact .ret Try.func54 hc0

theorem podestaref01_Size_ok (n : Int) : ACalls Try.prog tab.S 54 [.sc (.int .i64 n)] [] (.sc (.int .i64 (sizeT n))) [] := by
  refine podestaref01_Size_walk n (sizeT n) ?_
  rw [podestaref01_Size_raw]
  rcases sizeT_cases n with ⟨h, e⟩ | ⟨h1, h2, k, rfl, hk, e⟩
  · rw [e]
    have : ((decide (n < 0)) || (decide (n > 11))) = true := by
      rw [Bool.or_eq_true, decide_eq_true_eq, decide_eq_true_eq]; omega
    rw [this]
    rfl
  · rw [e, decide_eq_false (by omega), decide_eq_false (by omega)]
    match k, hk with
    | 0, _ | 1, _ | 2, _ | 3, _ | 4, _ | 5, _ | 6, _ | 7, _ | 8, _ | 9, _ | 10, _ | 11, _ => rfl

/-! ### podestaref01.Fits: function 53 -/
noncomputable def podestaref01_Fits_F : Go.Sh.Fn := ⟨53, bodyOf Try.f53, 10⟩
def podestaref01_Fits (v : Int) (size : Int) : Bool :=
  (decide (v < (IntKind.u64.wrap (1 * 2 ^ (min ((IntKind.u64.wrap size) : Int).toNat (IntKind.u64).bits)))))
theorem podestaref01_Fits_calls (v : Int) (size : Int) : ACalls Try.prog tab.S 53 [.sc (.int .u64 v), .sc (.int .i64 size)] [] (.sc (.bool (podestaref01_Fits v size))) [] := by
  generalize H : podestaref01_Fits v size = r
  refine .of_AX podestaref01_Fits_F Try.func53 fun c0 hc0 => ?_
  rw [podestaref01_Fits] at H
  refine .sg 3 [0,1] (.rg (.sg 3 [5,7] (.sl_ [5,8] (b := (IntKind.u64.wrap size)) (wrapU_nonneg _) (.sg 2 [4] (.dn ?_)))))
  subst H
  exact .ret Try.func53 hc0

theorem refFits_eq (n v : Int) : podestaref01_Fits v (sizeT n) = fitsT n v := by
  have hs := sizeT_in n
  unfold podestaref01_Fits fitsT
  have h1 : IntKind.u64.wrap (sizeT n) = sizeT n := wrapU_eq hs.1 (by omega)
  have hm : min (sizeT n).toNat (IntKind.u64).bits = (sizeT n).toNat := Nat.min_eq_left (by show _ ≤ 64; omega)
  have hp := pow_le48 (k := (sizeT n).toNat) (by omega)
  have hq := pow_pos2 (sizeT n).toNat
  rw [h1, hm, Int.one_mul, wrapU_eq (by omega) (by omega)]

/-! ### podestaref04.Acts: function 51 -/
noncomputable def podestaref04_Acts_F : Go.Sh.Fn := ⟨51, bodyOf Try.f51, 81⟩
def podestaref04_Acts_l0s : List Act → Sum (Unit) (Bool)
  | [] =>
    (.inl ())
  | x :: rest =>
    (bif (!(bif (x.Kind == 1) then ((((decide (x.Port ≥ 1)) && (decide (x.Port ≤ 16))) && (x.Field == 0)) && (x.Value == 0)) else (bif (x.Kind == 2) then ((((x.Port == 0) && (decide (x.Field ≥ 0))) && (decide (x.Field < 12))) && (podestaref01_Fits x.Value (sizeT x.Field))) else ((x.Kind == 3) && (((x.Port == 0) && (x.Field == 0)) && (x.Value == 0)))))) then
      (.inr false)
    else
      podestaref04_Acts_l0s rest )
theorem podestaref04_Acts_l0_walk (l : List Act) (f_l : Bool) (r : Bool) (c0 : Ctx) (hc0 : c0.m.length = 0) (res : Sum (Unit) (Bool)) (J : ∀ w : Unit, res = .inl w → AX Try.prog tab podestaref04_Acts_F c0 (Rp tab.S c0 (.sc (.bool r)) []) (some ⟨[.code [1, 1]], [(0, .sl 87 (List.map Act.av l) f_l)], []⟩)) (Jr : ∀ w, res = .inr w → w = r) :
    ∀ (rest : List Act) (i : Nat) (z : Int) (hI : z = ((i : Nat) : Int)) (hd : l.drop i = rest) (H : podestaref04_Acts_l0s rest = res), AX Try.prog tab podestaref04_Acts_F c0 (Rp tab.S c0 (.sc (.bool r)) []) (some ⟨[.code [1, 0, 1, 0, 0], .loop [1, 0, 1, 0], .blk 0, .code [1, 1]], [(0, .sl 87 (List.map Act.av l) f_l), (3, .sc (.int .i64 z))], []⟩) := by
  intro rest
  induction rest with
  | nil =>
    intro i z hI hd  H
    subst hI
    rw [podestaref04_Acts_l0s] at H
    refine .facts 0 fun hf => ?_
    have hlen : l.length ≤ 9223372036854775807 := by have hq := len_ok hf.2.1; rw [List.length_map] at hq; exact hq
    have hge : l.length ≤ i := List.drop_eq_nil_iff.1 hd
    have hc : (decide (((i : Nat) : Int) < (((List.map Act.av l).length : Nat) : Int))) = false := by rw [List.length_map]; exact decide_eq_false (by omega)
    exact .sg 3 [0,3,9] (.cdF hc (.sg 1 [0] (.kp [0] (.to (J () H.symm)))))
  | cons x rest ih =>
    intro i z hI hd  H
    subst hI
    rw [podestaref04_Acts_l0s] at H
    refine .facts 0 fun hf => ?_
    have hlen : l.length ≤ 9223372036854775807 := by have hq := len_ok hf.2.1; rw [List.length_map] at hq; exact hq
    obtain ⟨hlt, hv_i, hd2⟩ := drop_cons hd
    have hc : (decide (((i : Nat) : Int) < (((List.map Act.av l).length : Nat) : Int))) = true := by rw [List.length_map]; exact decide_eq_true (by omega)
    have hw : IntKind.i64.wrap (((i : Nat) : Int) + 1) = ((i + 1 : Nat) : Int) := wrapI_succ (by omega)
    refine .sg 3 [0,3,9] (.cdT hc (.sg 4 [0,3] (.rg (.sg 2 [0,3,12,13] (.xi [0,3,14] Act.av hv_i (.sg 3 [0,3,4] (.dn (.sg 8 [0,3,4,5,17,18] (.jn (x.Kind == 1) [0, 3, 5] (fun z => [(5, .sc (.bool (bif z then ((((decide (x.Port ≥ 1)) && (decide (x.Port ≤ 16))) && (x.Field == 0)) && (x.Value == 0)) else (bif (x.Kind == 2) then ((((x.Port == 0) && (decide (x.Field ≥ 0))) && (decide (x.Field < 12))) && (podestaref01_Fits x.Value (sizeT x.Field))) else ((x.Kind == 3) && (((x.Port == 0) && (x.Field == 0)) && (x.Value == 0)))))))]) ?J144 (fun hb J => ?ht144) (fun hb J => ?hf144))))))))))
    case ht144 =>
      exact .rg (.sg 4 [0,3,4,23] (.mx 0 [0,3,4,27] (.sg 1 [0,3,4,28] (.mx 0 [0,3,4,32] (.sg 1 [0,3,4,33] (.mx 0 [0,3,37] (.sg 1 [0,3,5] (.dn (.sg 0 [0,3,5] (.cl J))))))))))
    case hf144 =>
      refine .sg 2 [0,3,4,5,17,38] (.jn (x.Kind == 2) [0, 3, 5] (fun z => [(5, .sc (.bool (bif z then ((((x.Port == 0) && (decide (x.Field ≥ 0))) && (decide (x.Field < 12))) && (podestaref01_Fits x.Value (sizeT x.Field))) else ((x.Kind == 3) && (((x.Port == 0) && (x.Field == 0)) && (x.Value == 0))))))]) ?J156 (fun hb J => ?ht156) (fun hb J => ?hf156))
      case ht156 =>
        refine .rg (.sg 4 [0,3,4,43] (.mx 0 [0,3,4,47] (.sg 1 [0,3,4,48] (.mx 0 [0,3,4,52] (.sg 1 [0,3,4,53] (.mm 53 (((x.Port == 0) && (decide (x.Field ≥ 0))) && (decide (x.Field < 12))) 7 [.pure, .pure, .pure, .read, .pure, .read, .pure] [0, 3, 60] 60 (fun z => .sc (.bool (z && (podestaref01_Fits x.Value (sizeT x.Field))))) ?J159 (fun hb J => ?ht159) (fun hb J => ?hf159)))))))
        case ht159 =>
          exact .sg 4 [0,3,53,55,57] (.cp [0,3,53,55,58] (podestaref01_Size_ok x.Field) (.cp [0,3,53,59] (podestaref01_Fits_calls x.Value (sizeT x.Field)) (.sg 1 [0,3,60] (.cl J))))
        case hf159 =>
          exact .sg 7 [0,3,60] (.cl J)
        exact .sg 1 [0,3,5] (.dn (.sg 0 [0,3,5] (.cl J)))
      case hf156 =>
        refine .sg 2 [0,3,4,5,61] (.jn (x.Kind == 3) [0, 3, 5] (fun z => [(5, .sc (.bool (z && (((x.Port == 0) && (x.Field == 0)) && (x.Value == 0)))))]) ?J162 (fun hb J => ?ht162) (fun hb J => ?hf162))
        case ht162 =>
          exact .rg (.sg 4 [0,3,4,66] (.mx 0 [0,3,4,70] (.sg 1 [0,3,4,71] (.mx 0 [0,3,75] (.sg 1 [0,3,5] (.dn (.sg 0 [0,3,5] (.cl J))))))))
        case hf162 =>
          exact .sg 1 [0,3,5] (.cl J)
        exact .sg 0 [0,3,5] (.cl J)
      exact .sg 0 [0,3,5] (.cl J)
    refine .sg 3 [0,3,77] (.cd (!(bif (x.Kind == 1) then ((((decide (x.Port ≥ 1)) && (decide (x.Port ≤ 16))) && (x.Field == 0)) && (x.Value == 0)) else (bif (x.Kind == 2) then ((((x.Port == 0) && (decide (x.Field ≥ 0))) && (decide (x.Field < 12))) && (podestaref01_Fits x.Value (sizeT x.Field))) else ((x.Kind == 3) && (((x.Port == 0) && (x.Field == 0)) && (x.Value == 0)))))) H (fun hb H => ?_) (fun hb H => ?_))
    ·
      refine .sg 2 [2] ?_
      subst H
      obtain rfl := Jr _ rfl
      exact .ret Try.func51 hc0
    ·
      exact .sg 3 [0,3] (.tl hc0 [] [0,3] (.into (.cl (ih (i + 1) _ hw hd2 H))))

def podestaref04_Acts (l : List Act) : Bool :=
  sumG (fun q => q) (podestaref04_Acts_l0s l) fun v =>
  (decide ((((List.map Act.av l).length : Nat) : Int) ≤ 8))
theorem podestaref04_Acts_calls (l : List Act) (f_l : Bool) : ACalls Try.prog tab.S 51 [.sl 87 (List.map Act.av l) f_l] [] (.sc (.bool (podestaref04_Acts l))) [] := by
  generalize H : podestaref04_Acts l = r
  refine .of_AX podestaref04_Acts_F Try.func51 fun c0 hc0 => ?_
  rw [podestaref04_Acts] at H
  refine .sg 6 [0,3] ?_
  rcases sumG_eq H with ⟨v, hv, H⟩ | ⟨r1, hv, hr1⟩
  case inr =>
    refine .into ?_
    replace hr1 : r1 = r := hr1
    subst hr1
    exact .to (podestaref04_Acts_l0_walk l f_l _ c0 hc0 (.inr _) (fun _ e => by cases e) (fun _ e => (Sum.inr.inj e).symm) l 0 _ rfl rfl hv)
  refine .into (.to (podestaref04_Acts_l0_walk l f_l r c0 hc0 (.inl v) (fun w e => ?_) (fun _ e => by cases e) l 0 _ rfl rfl hv))
  have e := Sum.inl.inj e
  subst e
  refine .sg 2 [2] ?_
  subst H
  exact .ret Try.func51 hc0

def actOk (x : Act) : Bool := (bif (x.Kind == 1) then ((((decide (x.Port ≥ 1)) && (decide (x.Port ≤ 16))) && (x.Field == 0)) && (x.Value == 0)) else (bif (x.Kind == 2) then ((((x.Port == 0) && (decide (x.Field ≥ 0))) && (decide (x.Field < 12))) && (fitsT x.Field x.Value)) else ((x.Kind == 3) && (((x.Port == 0) && (x.Field == 0)) && (x.Value == 0)))))
def ActsOk (l : List Act) : Bool := l.all actOk && decide (l.length ≤ 8)
theorem refActs_l0s_eq : ∀ (l : List Act), podestaref04_Acts_l0s l = if l.all actOk then .inl () else .inr false
  | [] => rfl
  | x :: l => by
      rw [podestaref04_Acts_l0s, refActs_l0s_eq l, List.all_cons]
      simp only [refFits_eq]
      show (bif (!(actOk x)) then _ else _) = _
      cases actOk x
      · rfl
      · simp only [Bool.not_true, cond_false, Bool.true_and]
theorem refActs_eq (l : List Act) : podestaref04_Acts l = ActsOk l := by
  unfold podestaref04_Acts ActsOk
  rw [refActs_l0s_eq, List.length_map]
  cases l.all actOk
  · rfl
  · simp only [if_true, sumG, Bool.true_and]
    rw [Bool.eq_iff_iff, decide_eq_true_eq, decide_eq_true_eq]
    omega

/-! ### podestaref01.Bits: function 75 -/
noncomputable def podestaref01_Bits_F : Go.Sh.Fn := ⟨75, bodyOf Try.f75, 23⟩
def podestaref01_Bits_l0 (v : Int) : Nat → Int → List Bool → Option ((List Bool))
  | 0, _, _ => none
  | m + 1, k1, out =>
    (bif (decide (k1 ≥ 0)) then
    fitO (out.length + [((IntKind.u64.wrap ((BitVec.ofInt 64 (Int.fdiv v (2 ^ (min ((IntKind.u64.wrap k1) : Int).toNat (IntKind.u64).bits))) &&& BitVec.ofInt 64 1).toNat)) == 1)].length) 1 (
    podestaref01_Bits_l0 v m (IntKind.i64.wrap (k1 - 1)) (out ++ [((IntKind.u64.wrap ((BitVec.ofInt 64 (Int.fdiv v (2 ^ (min ((IntKind.u64.wrap k1) : Int).toNat (IntKind.u64).bits))) &&& BitVec.ofInt 64 1).toNat)) == 1)]))
  else
    some out)
theorem podestaref01_Bits_l0_walk (q0 : Nat) (v : Int) (size : Int)  (r : (List Bool)) (c0 : Ctx) (hc0 : c0.m.length = 0) (res : (List Bool)) (J : AX Try.prog tab podestaref01_Bits_F c0 (Rp tab.S c0 (.sl 4 (List.map boolA r) false) []) (some ⟨[.code [1, 1, 1]], [(5, .own 0 1000000)], [.row 4 (List.map boolA res) 1000000 true]⟩)) :
    ∀ (m : Nat) (k1 : Int) (out : List Bool) (H : podestaref01_Bits_l0 v m k1 out = some res), AX Try.prog tab podestaref01_Bits_F c0 (Rp tab.S c0 (.sl 4 (List.map boolA r) false) []) (some ⟨[.code [1, 1, 0, 1, 0, 0], .loop [1, 1, 0, 1, 0], .blk 0, .code [1, 1, 1]], [(0, .sc (.int .u64 v)), (5, .own 0 1000000), (6, .sc (.int .i64 k1))], [.row 4 (List.map boolA out) 1000000 true]⟩) := by
  intro m
  induction m with
  | zero => intro k1 out H; cases H
  | succ m ih =>
    intro k1 out H
    rw [podestaref01_Bits_l0] at H
    refine .sg 3 [0,5,6,10] (.cd (decide (k1 ≥ 0)) H (fun hb H => ?_) (fun hb H => ?_))
    ·
      exact .sg 3 [0,5,6] (.rg (.sg 4 [0,6,13,14,16] (.sr_ [0,6,13,17] (b := (IntKind.u64.wrap k1)) (wrapU_nonneg _) (.sg 3 [0,6,13,20] (fitH H fun hfit H => (.ap [0,6,21] boolA hfit (.sg 1 [0,5,6] (.dn (.sg 2 [0,5,6] (.tl hc0 [0] [0,5,6] (.into (.to (ih (IntKind.i64.wrap (k1 - 1)) (out ++ [((IntKind.u64.wrap ((BitVec.ofInt 64 (Int.fdiv v (2 ^ (min ((IntKind.u64.wrap k1) : Int).toNat (IntKind.u64).bits))) &&& BitVec.ofInt 64 1).toNat)) == 1)]) H)))))))))))))
    ·
      refine .sg 1 [5] (.kp [5] ?_)
      obtain rfl := Option.some.inj H
      exact .to J
def podestaref01_Bits_raw (q0 : Nat) (v : Int) (size : Int) : Option ((List Bool)) :=
  (podestaref01_Bits_l0 v q0 (IntKind.i64.wrap (size - 1)) ([] : List Bool)).bind fun v1 =>
  some v1
theorem podestaref01_Bits_walk (q0 : Nat) (v : Int) (size : Int) (r : (List Bool)) (H : podestaref01_Bits_raw q0 v size = some r) : ACalls Try.prog tab.S 75 [.sc (.int .u64 v), .sc (.int .i64 size)] [] (.sl 4 (List.map boolA r) false) [] := by
  refine .of_AX podestaref01_Bits_F Try.func75 fun c0 hc0 => ?_
  rw [podestaref01_Bits_raw] at H
  refine .sg 8 [0,5,6] (.ad 5 4 true (.kp [0,5,6] ?_))
  refine bndO H fun v1 hv H => (.into (.to (podestaref01_Bits_l0_walk q0 v size r c0 hc0 v1 ?_ q0 (IntKind.i64.wrap (size - 1)) ([] : List Bool) hv)))
  refine .sg 2 [4] ?_
  obtain rfl := Option.some.inj H
  exact .ret Try.func75 hc0

def bitE (v k1 : Int) : Bool := ((IntKind.u64.wrap ((BitVec.ofInt 64 (Int.fdiv v (2 ^ (min ((IntKind.u64.wrap k1) : Int).toNat (IntKind.u64).bits))) &&& BitVec.ofInt 64 1).toNat)) == 1)
def bitsL (v : Int) : Nat → List Bool
  | 0 => []
  | n + 1 => bitE v (n : Int) :: bitsL v n
theorem bitsL_len (v : Int) : ∀ n, (bitsL v n).length = n
  | 0 => rfl
  | n + 1 => by rw [bitsL, List.length_cons, bitsL_len v n]
def bitsO (v size : Int) : Option (List Bool) := if 0 ≤ size ∧ size ≤ 64 then some (bitsL v size.toNat) else none
theorem refBits_l0_eq (v : Int) : ∀ (n m : Nat) (out : List Bool), n < m → n ≤ 64 → out.length + n ≤ 1000 → podestaref01_Bits_l0 v m ((n : Int) - 1) out = some (out ++ bitsL v n)
  | 0, m + 1, out, _, _, _ => by
      rw [podestaref01_Bits_l0, decide_eq_false (by omega), bitsL, List.append_nil]; rfl
  | n + 1, m + 1, out, h1, h2, h3 => by
      have e : (((n + 1 : Nat) : Int) - 1) = (n : Int) := by omega
      rw [podestaref01_Bits_l0, e, decide_eq_true (show ((n : Int)) ≥ 0 by omega), cond_true, fitO_eq (by rw [List.length_cons, List.length_nil]; omega), wrap_eq (by omega) (by omega)]
      rw [refBits_l0_eq v n m _ (by omega) (by omega) (by rw [List.length_append, List.length_cons, List.length_nil]; omega), List.append_assoc]
      rfl
theorem podestaref01_Bits_ok (v size : Int) (x : List Bool) (h : bitsO v size = some x) : ACalls Try.prog tab.S 75 [.sc (.int .u64 v), .sc (.int .i64 size)] [] (.sl 4 (List.map boolA x) false) [] := by
  unfold bitsO at h
  split at h
  · rename_i hc
    injection h with h
    subst h
    refine podestaref01_Bits_walk (size.toNat + 1) v size _ ?_
    rw [podestaref01_Bits_raw, wrap_eq (by omega) (by omega)]
    have := refBits_l0_eq v size.toNat (size.toNat + 1) [] (by omega) (by omega) (by rw [List.length_nil]; omega)
    rw [show ((size.toNat : Nat) : Int) = size by omega] at this
    rw [this]
    rfl
  · cases h

end Go.Proofs.Ythfidfjogecnpaa

set_option linter.unusedVariables false
set_option linter.unusedSimpArgs false
set_option maxRecDepth 100000
set_option maxHeartbeats 4000000
namespace Go.Proofs.Ythfidfjogecnpaa
open Go.Sh
/-! ### podestaref01.Head: function 34 -/
noncomputable def podestaref01_Head_F : Go.Sh.Fn := ⟨34, bodyOf Try.f34, 15⟩
def podestaref01_Head_l0s (h1 : List Int) : Nat → Nat → Sum (Unit) (Bool)
  | 0, i =>
    (.inl ())
  | rest + 1, i =>
    (bif (!(podestaref01_Fits (h1.getD (i) 0) (sizeT ((i : Nat) : Int)))) then
      (.inr false)
    else
      podestaref01_Head_l0s h1 rest (i + 1) )
theorem podestaref01_Head_l0_walk (h1 : List Int) (r : Bool) (c0 : Ctx) (hc0 : c0.m.length = 0) (res : Sum (Unit) (Bool)) (J : ∀ w : Unit, res = .inl w → AX Try.prog tab podestaref01_Head_F c0 (Rp tab.S c0 (.sc (.bool r)) []) (some ⟨[.code [1, 1]], [], [.box 27 [.arr .u64 12 h1]]⟩)) (Jr : ∀ w, res = .inr w → w = r) :
    ∀ (rest : Nat) (i : Nat) (z : Int) (hI : z = ((i : Nat) : Int)) (hd : i + rest = 12) (H : podestaref01_Head_l0s h1 rest i = res), AX Try.prog tab podestaref01_Head_F c0 (Rp tab.S c0 (.sc (.bool r)) []) (some ⟨[.code [1, 0, 1, 0, 0], .loop [1, 0, 1, 0], .blk 0, .code [1, 1]], [(1, .ptr 0 0 none), (3, .sc (.int .i64 z))], [.box 27 [.arr .u64 12 h1]]⟩) := by
  intro rest
  induction rest with
  | zero =>
    intro i z hI hd  H
    subst hI
    rw [podestaref01_Head_l0s] at H
    have hc : (decide (((i : Nat) : Int) < 12)) = false := decide_eq_false (by omega)
    exact .sg 3 [1,3,5] (.cdF hc (.sg 1 [] (.kp [] (.to (J () H.symm)))))
  | succ rest ih =>
    intro i z hI hd  H
    subst hI
    rw [podestaref01_Head_l0s] at H
    have hlt_i : i < 12 := by omega
    have hc : (decide (((i : Nat) : Int) < 12)) = true := decide_eq_true (by omega)
    have hw : IntKind.i64.wrap (((i : Nat) : Int) + 1) = ((i + 1 : Nat) : Int) := wrapI_succ (by omega)
    refine .sg 3 [1,3,5] (.cdT hc (.sg 4 [1,3] (.rg (.sg 1 [1,3,8] ?_))))
    have hreq := idx_in 12 hlt_i (by decide)
    refine .xa [1,3,9] hreq (.sg 2 [1,3,10,11] (.cp [1,3,10,12] (podestaref01_Size_ok ((i : Nat) : Int)) (.cp [1,3,13] (podestaref01_Fits_calls (h1.getD (i) 0) (sizeT ((i : Nat) : Int))) (.sg 1 [1,3,14] (.dn (.cd (!(podestaref01_Fits (h1.getD (i) 0) (sizeT ((i : Nat) : Int)))) H (fun hb H => ?_) (fun hb H => ?_)))))))
    ·
      refine .sg 2 [2] ?_
      subst H
      obtain rfl := Jr _ rfl
      exact .ret Try.func34 hc0
    ·
      exact .sg 3 [1,3] (.kp [1,3] (.into (.cl (ih (i + 1) _ hw (by omega) H))))

def podestaref01_Head (h1 : List Int) : Bool :=
  sumG (fun q => q) (podestaref01_Head_l0s h1 12 0) fun v =>
  true
theorem podestaref01_Head_calls (h1 : List Int) : ACalls Try.prog tab.S 34 [.arr .u64 12 h1] [] (.sc (.bool (podestaref01_Head h1))) [] := by
  generalize H : podestaref01_Head h1 = r
  refine .of_AX podestaref01_Head_F Try.func34 fun c0 hc0 => ?_
  rw [podestaref01_Head] at H
  refine .sg 6 [1,3] ?_
  rcases sumG_eq H with ⟨v, hv, H⟩ | ⟨r1, hv, hr1⟩
  case inr =>
    refine .into ?_
    replace hr1 : r1 = r := hr1
    subst hr1
    exact .to (podestaref01_Head_l0_walk h1 _ c0 hc0 (.inr _) (fun _ e => by cases e) (fun _ e => (Sum.inr.inj e).symm) 12 0 _ rfl rfl hv)
  refine .into (.to (podestaref01_Head_l0_walk h1 r c0 hc0 (.inl v) (fun w e => ?_) (fun _ e => by cases e) 12 0 _ rfl rfl hv))
  have e := Sum.inl.inj e
  subst e
  refine .sg 2 [2] ?_
  subst H
  exact .ret Try.func34 hc0

/-! ### podestaref01.Text: function 64 -/
noncomputable def podestaref01_Text_F : Go.Sh.Fn := ⟨64, bodyOf Try.f64, 70⟩
def podestaref01_Text_l1s (x2 : (List Bool)) (ok1 : Bool) : List Bool → Nat → List Int → Option (Bool × (List Int))
  | [], k1, out1 =>
    some (ok1, out1)
  | x3 :: rest1, k1, out1 =>
    (ixO x2 ((k1 : Nat) : Int)).bind fun x4 =>
    (bif (!x4) then
      fitO (out1.length + ([120] : List Int).length) 1 (
      podestaref01_Text_l1s x2 ok1 rest1 (k1 + 1) (out1 ++ ([120] : List Int)))
    else
      (bif x3 then
        fitO (out1.length + ([49] : List Int).length) 1 (
        podestaref01_Text_l1s x2 ok1 rest1 (k1 + 1) (out1 ++ ([49] : List Int)))
      else
        fitO (out1.length + ([48] : List Int).length) 1 (
        podestaref01_Text_l1s x2 ok1 rest1 (k1 + 1) (out1 ++ ([48] : List Int)))))
theorem podestaref01_Text_l1_walk (c : Cube) (i : Nat) (ok : Bool) (out : List Int) (hlt_i : i < 12) (x1 : (List Bool)) (x2 : (List Bool)) (ok1 : Bool) (r : ByteArray × Bool) (c0 : Ctx) (hc0 : c0.m.length = 0) (res : Bool × (List Int)) (J : AX Try.prog tab podestaref01_Text_F c0 (Rp tab.S c0 (.tup [.sc (.string r.1), .sc (.bool r.2)]) []) (some ⟨[.blk 1, .code [1, 1, 1, 0, 1, 0, 0, 1, 1], .loop [1, 1, 1, 0, 1, 0], .blk 0, .code [1, 1, 1, 1]], [(1, .ptr 0 0 none), (4, .own 1 1000000), (5, .sc (.bool res.1)), (6, .sc (.int .i64 ((i : Nat) : Int)))], [.box 29 (Cube.ch c), .row 5 (List.map (intA .u8) res.2) 1000000 true]⟩)) :
    ∀ (rest1 : List Bool) (k1 : Nat) (z : Int) (hI : z = ((k1 : Nat) : Int)) (hd : x1.drop k1 = rest1) (out1 : List Int) (H : podestaref01_Text_l1s x2 ok1 rest1 k1 out1 = some res), AX Try.prog tab podestaref01_Text_F c0 (Rp tab.S c0 (.tup [.sc (.string r.1), .sc (.bool r.2)]) []) (some ⟨[.code [1, 1, 1, 0, 1, 0, 0, 1, 0, 0, 1, 1, 1, 0, 0], .loop [1, 1, 1, 0, 1, 0, 0, 1, 0, 0, 1, 1, 1, 0], .blk 2, .blk 1, .code [1, 1, 1, 0, 1, 0, 0, 1, 1], .loop [1, 1, 1, 0, 1, 0], .blk 0, .code [1, 1, 1, 1]], [(1, .ptr 0 0 none), (4, .own 1 1000000), (5, .sc (.bool ok1)), (6, .sc (.int .i64 ((i : Nat) : Int))), (7, .sl 4 (List.map boolA x1) false), (8, .sl 4 (List.map boolA x2) false), (9, .sc (.int .i64 z))], [.box 29 (Cube.ch c), .row 5 (List.map (intA .u8) out1) 1000000 true]⟩) := by
  intro rest1
  induction rest1 with
  | nil =>
    intro k1 z hI hd out1 H
    subst hI
    rw [podestaref01_Text_l1s] at H
    refine .facts 7 fun hf => ?_
    have hlen : x1.length ≤ 9223372036854775807 := by have hq := len_ok hf.2.1; rw [List.length_map] at hq; exact hq
    have hge : x1.length ≤ k1 := List.drop_eq_nil_iff.1 hd
    have hc : (decide (((k1 : Nat) : Int) < (((List.map boolA x1).length : Nat) : Int))) = false := by rw [List.length_map]; exact decide_eq_false (by omega)
    refine .sg 3 [1,4,5,6,7,8,9,44] (.cdF hc (.sg 1 [1,4,5,6] (.kp [1,4,5,6] ?_)))
    obtain rfl := Option.some.inj H
    exact .to J
  | cons x3 rest1 ih =>
    intro k1 z hI hd out1 H
    subst hI
    rw [podestaref01_Text_l1s] at H
    refine .facts 7 fun hf => ?_
    have hlen : x1.length ≤ 9223372036854775807 := by have hq := len_ok hf.2.1; rw [List.length_map] at hq; exact hq
    obtain ⟨hlt, hv_k1, hd2⟩ := drop_cons hd
    have hc : (decide (((k1 : Nat) : Int) < (((List.map boolA x1).length : Nat) : Int))) = true := by rw [List.length_map]; exact decide_eq_true (by omega)
    have hw : IntKind.i64.wrap (((k1 : Nat) : Int) + 1) = ((k1 + 1 : Nat) : Int) := wrapI_succ (by omega)
    refine .sg 3 [1,4,5,6,7,8,9,44] (.cdT hc (.sg 5 [1,4,5,6,7,8,9] (.rg (.sg 2 [1,4,5,6,7,8,9,51,52] (bndO H fun x4 hv H => (.xi [1,4,5,6,7,8,9,53] boolA hv (.sg 3 [1,4,5,6,7,8,9,50] (.dn (.cd (!x4) H (fun hb H => ?_) (fun hb H => ?_))))))))))
    ·
      exact .rg (.sg 2 [1,5,6,7,8,9,56,57] (fitH H fun hfit H => (.ap [1,5,6,7,8,9,58] (intA .u8) hfit (.sg 1 [1,4,5,6,7,8,9] (.dn (.sg 3 [1,4,5,6,7,8,9] (.tl hc0 [0,1] [1,4,5,6,7,8,9] (.into (.cl (ih (k1 + 1) _ hw hd2 (out1 ++ ([120] : List Int)) H))))))))))
    ·
      refine .sg 1 [1,4,5,6,7,8,9] (.rg (.sg 2 [1,4,5,6,7,8,9,60,61] (.xi [1,4,5,6,7,8,9,62] boolA hv_k1 (.sg 2 [1,4,5,6,7,8,9,59] (.dn (.cd x3 H (fun hb H => ?_) (fun hb H => ?_)))))))
      ·
        exact .rg (.sg 2 [1,5,6,7,8,9,64,65] (fitH H fun hfit H => (.ap [1,5,6,7,8,9,66] (intA .u8) hfit (.sg 1 [1,4,5,6,7,8,9] (.dn (.sg 3 [1,4,5,6,7,8,9] (.tl hc0 [0,1] [1,4,5,6,7,8,9] (.into (.cl (ih (k1 + 1) _ hw hd2 (out1 ++ ([49] : List Int)) H))))))))))
      ·
        exact .rg (.sg 2 [1,5,6,7,8,9,47,48] (fitH H fun hfit H => (.ap [1,5,6,7,8,9,49] (intA .u8) hfit (.sg 1 [1,4,5,6,7,8,9] (.dn (.sg 3 [1,4,5,6,7,8,9] (.tl hc0 [0,1] [1,4,5,6,7,8,9] (.into (.cl (ih (k1 + 1) _ hw hd2 (out1 ++ ([48] : List Int)) H))))))))))

def podestaref01_Text_l0s (c : Cube) : Nat → Nat → Bool → List Int → Option (Bool × (List Int))
  | 0, i, ok, out =>
    some (ok, out)
  | rest + 1, i, ok, out =>
    (bitsO (c.Value.getD (i) 0) (sizeT ((i : Nat) : Int))).bind fun x1 =>
    (bitsO (c.Care.getD (i) 0) (sizeT ((i : Nat) : Int))).bind fun x2 =>
    (podestaref01_Text_l1s x2 (bif ((IntKind.u64.wrap ((BitVec.ofInt 64 (c.Value.getD (i) 0) &&& ~~~ (BitVec.ofInt 64 (c.Care.getD (i) 0))).toNat)) != 0) then false else ok) x1 0 out).bind fun v =>
    podestaref01_Text_l0s c rest (i + 1) v.1 v.2
theorem podestaref01_Text_l0_walk (c : Cube) (r : ByteArray × Bool) (c0 : Ctx) (hc0 : c0.m.length = 0) (res : Bool × (List Int)) (J : AX Try.prog tab podestaref01_Text_F c0 (Rp tab.S c0 (.tup [.sc (.string r.1), .sc (.bool r.2)]) []) (some ⟨[.code [1, 1, 1, 1]], [(4, .own 1 1000000), (5, .sc (.bool res.1))], [.box 29 (Cube.ch c), .row 5 (List.map (intA .u8) res.2) 1000000 true]⟩)) :
    ∀ (rest : Nat) (i : Nat) (z : Int) (hI : z = ((i : Nat) : Int)) (hd : i + rest = 12) (ok : Bool) (out : List Int) (H : podestaref01_Text_l0s c rest i ok out = some res), AX Try.prog tab podestaref01_Text_F c0 (Rp tab.S c0 (.tup [.sc (.string r.1), .sc (.bool r.2)]) []) (some ⟨[.code [1, 1, 1, 0, 1, 0, 0], .loop [1, 1, 1, 0, 1, 0], .blk 0, .code [1, 1, 1, 1]], [(1, .ptr 0 0 none), (4, .own 1 1000000), (5, .sc (.bool ok)), (6, .sc (.int .i64 z))], [.box 29 (Cube.ch c), .row 5 (List.map (intA .u8) out) 1000000 true]⟩) := by
  intro rest
  induction rest with
  | zero =>
    intro i z hI hd ok out H
    subst hI
    rw [podestaref01_Text_l0s] at H
    have hc : (decide (((i : Nat) : Int) < 12)) = false := decide_eq_false (by omega)
    refine .sg 3 [1,4,5,6,14] (.cdF hc (.sg 1 [4,5] (.kp [4,5] ?_)))
    obtain rfl := Option.some.inj H
    exact .to J
  | succ rest ih =>
    intro i z hI hd ok out H
    subst hI
    rw [podestaref01_Text_l0s] at H
    have hlt_i : i < 12 := by omega
    have hc : (decide (((i : Nat) : Int) < 12)) = true := decide_eq_true (by omega)
    have hw : IntKind.i64.wrap (((i : Nat) : Int) + 1) = ((i + 1 : Nat) : Int) := wrapI_succ (by omega)
    refine .sg 3 [1,4,5,6,14] (.cdT hc (.sg 5 [1,4,5,6] (.rg (.sg 2 [1,4,5,6,17,18] ?_))))
    have hreq := idx_in 12 hlt_i (by decide)
    refine .xa [1,4,5,6,19] hreq (.sg 3 [1,4,5,6,20,21,22] ?_)
    have hreq := idx_in 12 hlt_i (by decide)
    refine .xa [1,4,5,6,20,23] hreq (.sg 3 [1,4,5,6,26] (.dn (.jn ((IntKind.u64.wrap ((BitVec.ofInt 64 (c.Value.getD (i) 0) &&& ~~~ (BitVec.ofInt 64 (c.Care.getD (i) 0))).toNat)) != 0) [1, 4, 5, 6] (fun z => [(5, .sc (.bool (bif z then false else ok)))]) ?J5 (fun hb J => ?ht5) (fun hb J => ?hf5))))
    case ht5 =>
      exact .sg 1 [1,4,5,6] (.cl J)
    case hf5 =>
      exact .sg 1 [1,4,5,6] (.cl J)
    refine .sg 1 [1,4,5,6] (.rg (.sg 2 [1,4,5,6,27,28] ?_))
    have hreq := idx_in 12 hlt_i (by decide)
    refine .xa [1,4,5,6,29] hreq (.sg 2 [1,4,5,6,30,31] (.cp [1,4,5,6,30,32] (podestaref01_Size_ok ((i : Nat) : Int)) (bndO H fun x1 hv H => (.cp [1,4,5,6,33] (podestaref01_Bits_ok (c.Value.getD (i) 0) (sizeT ((i : Nat) : Int)) x1 hv) (.sg 2 [1,4,5,6,33,34,35] ?_)))))
    have hreq := idx_in 12 hlt_i (by decide)
    refine .xa [1,4,5,6,33,36] hreq (.sg 2 [1,4,5,6,33,37,38] (.cp [1,4,5,6,33,37,39] (podestaref01_Size_ok ((i : Nat) : Int)) (bndO H fun x2 hv H => (.cp [1,4,5,6,33,40] (podestaref01_Bits_ok (c.Care.getD (i) 0) (sizeT ((i : Nat) : Int)) x2 hv) (.sg 2 [1,4,5,6,7,8] (.dn (.sg 3 [1,4,5,6,7,8,9] ?_)))))))
    refine bndO H fun v hv H => (.into (.to (podestaref01_Text_l1_walk c i ok out hlt_i x1 x2 (bif ((IntKind.u64.wrap ((BitVec.ofInt 64 (c.Value.getD (i) 0) &&& ~~~ (BitVec.ofInt 64 (c.Care.getD (i) 0))).toNat)) != 0) then false else ok) r c0 hc0 v ?_ x1 0 _ rfl rfl out hv)))
    exact .sg 2 [1,4,5,6] (.kp [1,4,5,6] (.into (.cl (ih (i + 1) _ hw (by omega) v.1 v.2 H))))

def podestaref01_Text_raw (c : Cube) : Option (ByteArray × Bool) :=
  (podestaref01_Text_l0s c 12 0 (podestaref01_Head c.Care) ([] : List Int)).bind fun v =>
  some ((strOfNums v.2), v.1)
theorem podestaref01_Text_walk (c : Cube) (r : ByteArray × Bool) (H : podestaref01_Text_raw c = some r) : ACalls Try.prog tab.S 64 [Cube.av c] [] (.tup [.sc (.string r.1), .sc (.bool r.2)]) [] := by
  refine .of_AX podestaref01_Text_F Try.func64 fun c0 hc0 => ?_
  rw [podestaref01_Text_raw] at H
  refine .sg 5 [1,4] (.rg (.sg 2 [1,4,11] (.cp [1,4,12] (podestaref01_Head_calls c.Care) (.sg 1 [1,4,5] (.dn (.sg 4 [1,4,5,6] (.ad 4 5 true (.kp [1,4,5,6] ?_))))))))
  refine bndO H fun v hv H => (.into (.to (podestaref01_Text_l0_walk c r c0 hc0 v ?_ 12 0 _ rfl rfl (podestaref01_Head c.Care) ([] : List Int) hv)))
  refine .sg 1 [4,5] (.rg (.sg 1 [5,67] (.by_ [5,68] v.2 (.sg 3 [2,3] (.dn ?_)))))
  obtain rfl := Option.some.inj H
  exact .ret Try.func64 hc0

def chrB (v c : Bool) : Int := if c then (if v then 49 else 48) else 120
theorem Text_l1s_eq (x2 : List Bool) (ok : Bool) : ∀ (vs : List Bool) (k : Nat) (out : List Int), k + vs.length = x2.length → out.length + vs.length ≤ 10000 → podestaref01_Text_l1s x2 ok vs k out = some (ok, out ++ List.zipWith chrB vs (x2.drop k))
  | [], k, out, _, _ => by rw [podestaref01_Text_l1s]; simp
  | x :: vs, k, out, h1, h2 => by
      rw [List.length_cons] at h1 h2
      have hk : k < x2.length := by omega
      have step : ∀ q : Int, podestaref01_Text_l1s x2 ok vs (k + 1) (out ++ [q]) = some (ok, out ++ q :: List.zipWith chrB vs (x2.drop (k + 1))) := fun q => by
        rw [Text_l1s_eq x2 ok vs (k + 1) (out ++ [q]) (by omega) (by rw [List.length_append, List.length_cons, List.length_nil]; omega), List.append_assoc]; rfl
      rw [podestaref01_Text_l1s, ixO_lt hk, Option.bind_some, List.drop_eq_getElem_cons hk, List.zipWith_cons_cons, fitO_eq (by rw [List.length_cons, List.length_nil]; omega), fitO_eq (by rw [List.length_cons, List.length_nil]; omega), fitO_eq (by rw [List.length_cons, List.length_nil]; omega)]
      cases x2[k]
      · exact step 120
      · cases x
        · exact step 48
        · exact step 49
def badAt (c : Cube) (i : Nat) : Bool := ((IntKind.u64.wrap ((BitVec.ofInt 64 (c.Value.getD i 0) &&& ~~~ (BitVec.ofInt 64 (c.Care.getD i 0))).toNat)) != 0)
def textOk (c : Cube) : Nat → Nat → Bool → Bool
  | 0, _, ok => ok
  | r + 1, i, ok => textOk c r (i + 1) (bif badAt c i then false else ok)
def sizeN (i : Nat) : Nat := (sizeT ((i : Nat) : Int)).toNat
def textS (c : Cube) : Nat → Nat → List Int
  | 0, _ => []
  | r + 1, i => List.zipWith chrB (bitsL (c.Value.getD i 0) (sizeN i)) (bitsL (c.Care.getD i 0) (sizeN i)) ++ textS c r (i + 1)
theorem bitsO_size (v : Int) (i : Nat) : bitsO v (sizeT ((i : Nat) : Int)) = some (bitsL v (sizeN i)) := by
  have h := sizeT_in ((i : Nat) : Int)
  unfold bitsO sizeN
  rw [if_pos (by omega)]
theorem Text_l0s_eq (c : Cube) : ∀ (r i : Nat) (ok : Bool) (out : List Int), out.length + r * 64 ≤ 10000 → podestaref01_Text_l0s c r i ok out = some (textOk c r i ok, out ++ textS c r i)
  | 0, i, ok, out, _ => by rw [podestaref01_Text_l0s, textOk, textS, List.append_nil]
  | r + 1, i, ok, out, h => by
      have hs := sizeT_in ((i : Nat) : Int)
      have hn : sizeN i ≤ 64 := by unfold sizeN; omega
      rw [podestaref01_Text_l0s, bitsO_size, bitsO_size, Option.bind_some, Option.bind_some, Text_l1s_eq _ _ _ 0 out (by rw [bitsL_len, bitsL_len, Nat.zero_add]) (by rw [bitsL_len]; omega), Option.bind_some, List.drop_zero]
      show podestaref01_Text_l0s c r (i + 1) _ (out ++ _) = _
      rw [Text_l0s_eq c r (i + 1) _ _ (by rw [List.length_append, List.length_zipWith, bitsL_len, bitsL_len]; omega), textOk, textS, List.append_assoc]
      rfl
def textT (c : Cube) : ByteArray × Bool := (strOfNums (textS c 12 0), textOk c 12 0 (podestaref01_Head c.Care))
theorem podestaref01_Text_ok (c : Cube) : ACalls Try.prog tab.S 64 [Cube.av c] [] (.tup [.sc (.string (textT c).1), .sc (.bool (textT c).2)]) [] := by
  refine podestaref01_Text_walk c _ ?_
  rw [podestaref01_Text_raw, Text_l0s_eq c 12 0 _ [] (by decide)]
  rfl

end Go.Proofs.Ythfidfjogecnpaa

set_option linter.unusedVariables false
set_option linter.unusedSimpArgs false
set_option maxRecDepth 100000
set_option maxHeartbeats 4000000
namespace Go.Proofs.Ythfidfjogecnpaa
open Go.Sh
/-! ### podestaref01.Cube: function 50 -/
noncomputable def podestaref01_Cube_F : Go.Sh.Fn := ⟨50, bodyOf Try.f50, 11⟩
def podestaref01_Cube (c : Cube) : Bool :=
  (textT c).2
theorem podestaref01_Cube_calls (c : Cube) : ACalls Try.prog tab.S 50 [Cube.av c] [] (.sc (.bool (podestaref01_Cube c))) [] := by
  generalize H : podestaref01_Cube c = r
  refine .of_AX podestaref01_Cube_F Try.func50 fun c0 hc0 => ?_
  rw [podestaref01_Cube] at H
  refine .sg 3 [1] (.rg (.sg 1 [6] (.cp [7] (podestaref01_Text_ok c) (.sg 5 [4] (.dn (.sg 2 [2] ?_))))))
  subst H
  exact .ret Try.func50 hc0

/-! ### podestaref04.span: function 52 -/
noncomputable def podestaref04_span_F : Go.Sh.Fn := ⟨52, bodyOf Try.f52, 12⟩
def podestaref04_span (n : Int) (most : Int) : Bool :=
  ((decide (n ≥ 0)) && (decide (n ≤ most)))
theorem podestaref04_span_calls (n : Int) (most : Int) : ACalls Try.prog tab.S 52 [.sc (.int .i64 n), .sc (.int .i64 most)] [] (.sc (.bool (podestaref04_span n most))) [] := by
  generalize H : podestaref04_span n most = r
  refine .of_AX podestaref04_span_F Try.func52 fun c0 hc0 => ?_
  rw [podestaref04_span] at H
  refine .sg 3 [0,1] (.rg (.sg 3 [0,1,7] (.mx 0 [11] (.sg 1 [4] (.dn ?_)))))
  subst H
  exact .ret Try.func52 hc0

/-! ### podestaref04.Rule: function 35 -/
noncomputable def podestaref04_Rule_F : Go.Sh.Fn := ⟨35, bodyOf Try.f35, 46⟩
def podestaref04_Rule (r2 : Rule) : Bool :=
  (((((((((podestaref01_Cube r2.Match) && (podestaref04_Acts r2.Acts)) && (podestaref04_span r2.Prio 65535)) && (podestaref04_span r2.Idle 1048576)) && (podestaref04_span r2.Hard 1048576)) && (podestaref04_span r2.Owner 255)) && (decide (r2.Hits ≥ 0))) && (decide (r2.Quiet ≥ 0))) && (decide (r2.Age ≥ 0)))
theorem podestaref04_Rule_calls (r2 : Rule) : ACalls Try.prog tab.S 35 [Rule.av r2] [] (.sc (.bool (podestaref04_Rule r2))) [] := by
  generalize H : podestaref04_Rule r2 = r
  refine .of_AX podestaref04_Rule_F Try.func35 fun c0 hc0 => ?_
  rw [podestaref04_Rule] at H
  refine .sg 3 [1] (.rg (.sg 2 [1,4] (.cp [1,5] (podestaref01_Cube_calls r2.Match) (.sg 1 [1,6] (.mm 6 (podestaref01_Cube r2.Match) 4 [.pure, .pure, .read, .pure] [1, 10] 10 (fun z => .sc (.bool (z && (podestaref04_Acts r2.Acts)))) ?J1 (fun hb J => ?ht1) (fun hb J => ?hf1))))))
  case ht1 =>
    exact .sg 2 [1,6,8] (.cp [1,6,9] (podestaref04_Acts_calls r2.Acts false) (.sg 1 [1,10] (.cl J)))
  case hf1 =>
    exact .sg 4 [1,10] (.cl J)
  refine .sg 1 [1,11] (.mm 11 ((podestaref01_Cube r2.Match) && (podestaref04_Acts r2.Acts)) 4 [.pure, .pure, .read, .pure] [1, 15] 15 (fun z => .sc (.bool (z && (podestaref04_span r2.Prio 65535)))) ?J2 (fun hb J => ?ht2) (fun hb J => ?hf2))
  case ht2 =>
    exact .sg 2 [1,11,13] (.cp [1,11,14] (podestaref04_span_calls r2.Prio 65535) (.sg 1 [1,15] (.cl J)))
  case hf2 =>
    exact .sg 4 [1,15] (.cl J)
  refine .sg 1 [1,16] (.mm 16 (((podestaref01_Cube r2.Match) && (podestaref04_Acts r2.Acts)) && (podestaref04_span r2.Prio 65535)) 4 [.pure, .pure, .read, .pure] [1, 20] 20 (fun z => .sc (.bool (z && (podestaref04_span r2.Idle 1048576)))) ?J3 (fun hb J => ?ht3) (fun hb J => ?hf3))
  case ht3 =>
    exact .sg 2 [1,16,18] (.cp [1,16,19] (podestaref04_span_calls r2.Idle 1048576) (.sg 1 [1,20] (.cl J)))
  case hf3 =>
    exact .sg 4 [1,20] (.cl J)
  refine .sg 1 [1,21] (.mm 21 ((((podestaref01_Cube r2.Match) && (podestaref04_Acts r2.Acts)) && (podestaref04_span r2.Prio 65535)) && (podestaref04_span r2.Idle 1048576)) 4 [.pure, .pure, .read, .pure] [1, 25] 25 (fun z => .sc (.bool (z && (podestaref04_span r2.Hard 1048576)))) ?J4 (fun hb J => ?ht4) (fun hb J => ?hf4))
  case ht4 =>
    exact .sg 2 [1,21,23] (.cp [1,21,24] (podestaref04_span_calls r2.Hard 1048576) (.sg 1 [1,25] (.cl J)))
  case hf4 =>
    exact .sg 4 [1,25] (.cl J)
  refine .sg 1 [1,26] (.mm 26 (((((podestaref01_Cube r2.Match) && (podestaref04_Acts r2.Acts)) && (podestaref04_span r2.Prio 65535)) && (podestaref04_span r2.Idle 1048576)) && (podestaref04_span r2.Hard 1048576)) 4 [.pure, .pure, .read, .pure] [1, 30] 30 (fun z => .sc (.bool (z && (podestaref04_span r2.Owner 255)))) ?J5 (fun hb J => ?ht5) (fun hb J => ?hf5))
  case ht5 =>
    exact .sg 2 [1,26,28] (.cp [1,26,29] (podestaref04_span_calls r2.Owner 255) (.sg 1 [1,30] (.cl J)))
  case hf5 =>
    exact .sg 4 [1,30] (.cl J)
  refine .sg 1 [1,31] (.mx 0 [1,35] (.sg 1 [1,36] (.mx 0 [1,40] (.sg 1 [1,41] (.mx 0 [45] (.sg 1 [2] (.dn ?_)))))))
  subst H
  exact .ret Try.func35 hc0

/-! ### podestaref01.Order: function 76 -/
noncomputable def podestaref01_Order_F : Go.Sh.Fn := ⟨76, bodyOf Try.f76, 24⟩
def podestaref01_Order_l0s (a : List Int) (b : List Int) : Nat → Nat → Sum (Unit) (Int)
  | 0, i =>
    (.inl ())
  | rest + 1, i =>
    (bif (decide ((a.getD (i) 0) < (b.getD (i) 0))) then
      (.inr (-1))
    else
      (bif (decide ((a.getD (i) 0) > (b.getD (i) 0))) then
        (.inr 1)
      else
        podestaref01_Order_l0s a b rest (i + 1) ))
theorem podestaref01_Order_l0_walk (a : List Int) (b : List Int) (r : Int) (c0 : Ctx) (hc0 : c0.m.length = 0) (res : Sum (Unit) (Int)) (J : ∀ w : Unit, res = .inl w → AX Try.prog tab podestaref01_Order_F c0 (Rp tab.S c0 (.sc (.int .i64 r)) []) (some ⟨[.code [1, 1]], [], [.box 27 [.arr .u64 12 a], .box 27 [.arr .u64 12 b]]⟩)) (Jr : ∀ w, res = .inr w → w = r) :
    ∀ (rest : Nat) (i : Nat) (z : Int) (hI : z = ((i : Nat) : Int)) (hd : i + rest = 12) (H : podestaref01_Order_l0s a b rest i = res), AX Try.prog tab podestaref01_Order_F c0 (Rp tab.S c0 (.sc (.int .i64 r)) []) (some ⟨[.code [1, 0, 1, 0, 0], .loop [1, 0, 1, 0], .blk 0, .code [1, 1]], [(2, .ptr 0 0 none), (3, .ptr 1 0 none), (5, .sc (.int .i64 z))], [.box 27 [.arr .u64 12 a], .box 27 [.arr .u64 12 b]]⟩) := by
  intro rest
  induction rest with
  | zero =>
    intro i z hI hd  H
    subst hI
    rw [podestaref01_Order_l0s] at H
    have hc : (decide (((i : Nat) : Int) < 12)) = false := decide_eq_false (by omega)
    exact .sg 3 [2,3,5,7] (.cdF hc (.sg 1 [] (.kp [] (.to (J () H.symm)))))
  | succ rest ih =>
    intro i z hI hd  H
    subst hI
    rw [podestaref01_Order_l0s] at H
    have hlt_i : i < 12 := by omega
    have hc : (decide (((i : Nat) : Int) < 12)) = true := decide_eq_true (by omega)
    have hw : IntKind.i64.wrap (((i : Nat) : Int) + 1) = ((i + 1 : Nat) : Int) := wrapI_succ (by omega)
    refine .sg 3 [2,3,5,7] (.cdT hc (.sg 5 [2,3,5] (.rg (.sg 1 [2,3,5,10] ?_))))
    have hreq := idx_in 12 hlt_i (by decide)
    refine .xa [2,3,5,11] hreq (.sg 2 [2,3,5,12,13] ?_)
    have hreq := idx_in 12 hlt_i (by decide)
    refine .xa [2,3,5,12,14] hreq (.sg 2 [2,3,5,16] (.dn (.cd (decide ((a.getD (i) 0) < (b.getD (i) 0))) H (fun hb H => ?_) (fun hb H => ?_))))
    ·
      refine .sg 2 [4] ?_
      subst H
      obtain rfl := Jr _ rfl
      exact .ret Try.func76 hc0
    ·
      refine .sg 2 [2,3,5] (.rg (.sg 1 [2,3,5,17] ?_))
      have hreq := idx_in 12 hlt_i (by decide)
      refine .xa [2,3,5,18] hreq (.sg 2 [2,3,5,19,20] ?_)
      have hreq := idx_in 12 hlt_i (by decide)
      refine .xa [2,3,5,19,21] hreq (.sg 2 [2,3,5,23] (.dn (.cd (decide ((a.getD (i) 0) > (b.getD (i) 0))) H (fun hb H => ?_) (fun hb H => ?_))))
      ·
        refine .sg 2 [4] ?_
        subst H
        obtain rfl := Jr _ rfl
        exact .ret Try.func76 hc0
      ·
        exact .sg 3 [2,3,5] (.kp [2,3,5] (.into (.cl (ih (i + 1) _ hw (by omega) H))))

def podestaref01_Order (a : List Int) (b : List Int) : Int :=
  sumG (fun q => q) (podestaref01_Order_l0s a b 12 0) fun v =>
  0
theorem podestaref01_Order_calls (a : List Int) (b : List Int) : ACalls Try.prog tab.S 76 [.arr .u64 12 a, .arr .u64 12 b] [] (.sc (.int .i64 (podestaref01_Order a b))) [] := by
  generalize H : podestaref01_Order a b = r
  refine .of_AX podestaref01_Order_F Try.func76 fun c0 hc0 => ?_
  rw [podestaref01_Order] at H
  refine .sg 6 [2,3,5] ?_
  rcases sumG_eq H with ⟨v, hv, H⟩ | ⟨r1, hv, hr1⟩
  case inr =>
    refine .into ?_
    replace hr1 : r1 = r := hr1
    subst hr1
    exact .to (podestaref01_Order_l0_walk a b _ c0 hc0 (.inr _) (fun _ e => by cases e) (fun _ e => (Sum.inr.inj e).symm) 12 0 _ rfl rfl hv)
  refine .into (.to (podestaref01_Order_l0_walk a b r c0 hc0 (.inl v) (fun w e => ?_) (fun _ e => by cases e) 12 0 _ rfl rfl hv))
  have e := Sum.inl.inj e
  subst e
  refine .sg 2 [4] ?_
  subst H
  exact .ret Try.func76 hc0

/-! ### podestaref01.Compare: function 65 -/
noncomputable def podestaref01_Compare_F : Go.Sh.Fn := ⟨65, bodyOf Try.f65, 19⟩
def podestaref01_Compare (a : Cube) (b : Cube) : Int :=
  (bif ((podestaref01_Order a.Care b.Care) != 0) then
    (podestaref01_Order a.Care b.Care)
  else
    (podestaref01_Order a.Value b.Value))
theorem podestaref01_Compare_calls (a : Cube) (b : Cube) : ACalls Try.prog tab.S 65 [Cube.av a, Cube.av b] [] (.sc (.int .i64 (podestaref01_Compare a b))) [] := by
  generalize H : podestaref01_Compare a b = r
  refine .of_AX podestaref01_Compare_F Try.func65 fun c0 hc0 => ?_
  rw [podestaref01_Compare] at H
  refine .sg 3 [2,3] (.rg (.sg 4 [2,3,7,9] (.cp [2,3,10] (podestaref01_Order_calls a.Care b.Care) (.sg 1 [2,3,5] (.dn (.sg 3 [2,3,5,12] (.cd ((podestaref01_Order a.Care b.Care) != 0) H (fun hb H => ?_) (fun hb H => ?_))))))))
  ·
    refine .sg 2 [4] ?_
    subst H
    exact .ret Try.func65 hc0
  ·
    refine .sg 2 [2,3] (.rg (.sg 4 [15,17] (.cp [18] (podestaref01_Order_calls a.Value b.Value) (.sg 1 [4] (.dn ?_)))))
    subst H
    exact .ret Try.func65 hc0

/-! ### podestaref04.Before: function 55 -/
noncomputable def podestaref04_Before_F : Go.Sh.Fn := ⟨55, bodyOf Try.f55, 21⟩
def podestaref04_Before (a : Rule) (b : Rule) : Bool :=
  (bif (a.Prio != b.Prio) then
    (decide (a.Prio > b.Prio))
  else
    (decide ((podestaref01_Compare a.Match b.Match) < 0)))
theorem podestaref04_Before_calls (a : Rule) (b : Rule) : ACalls Try.prog tab.S 55 [Rule.av a, Rule.av b] [] (.sc (.bool (podestaref04_Before a b))) [] := by
  generalize H : podestaref04_Before a b = r
  refine .of_AX podestaref04_Before_F Try.func55 fun c0 hc0 => ?_
  rw [podestaref04_Before] at H
  refine .sg 5 [2,3,9] (.cd (a.Prio != b.Prio) H (fun hb H => ?_) (fun hb H => ?_))
  ·
    refine .sg 2 [4] ?_
    subst H
    exact .ret Try.func55 hc0
  ·
    refine .sg 2 [2,3] (.rg (.sg 4 [16,18] (.cp [19] (podestaref01_Compare_calls a.Match b.Match) (.sg 2 [4] (.dn ?_)))))
    subst H
    exact .ret Try.func55 hc0

/-! ### podestaref04.Table: function 36 -/
noncomputable def podestaref04_Table_F : Go.Sh.Fn := ⟨36, bodyOf Try.f36, 33⟩
def podestaref04_Table_l0s (l : List Rule) : List Rule → Nat → Option (Sum (Unit) (Bool))
  | [], i =>
    some (.inl ())
  | x :: rest, i =>
    (bif (!(podestaref04_Rule x)) then
      some (.inr false)
    else
      (bif (decide (((i : Nat) : Int) > 0)) then
        (ixO l (IntKind.i64.wrap (((i : Nat) : Int) - 1))).bind fun x1 =>
        (bif (!(podestaref04_Before x1 x)) then
          some (.inr false)
        else
          podestaref04_Table_l0s l rest (i + 1) )
      else
        podestaref04_Table_l0s l rest (i + 1) ))
theorem podestaref04_Table_l0_walk (l : List Rule) (f_l : Bool) (r : Bool) (c0 : Ctx) (hc0 : c0.m.length = 0) (res : Sum (Unit) (Bool)) (J : ∀ w : Unit, res = .inl w → AX Try.prog tab podestaref04_Table_F c0 (Rp tab.S c0 (.sc (.bool r)) []) (some ⟨[.code [1, 1]], [], []⟩)) (Jr : ∀ w, res = .inr w → w = r) :
    ∀ (rest : List Rule) (i : Nat) (z : Int) (hI : z = ((i : Nat) : Int)) (hd : l.drop i = rest) (H : podestaref04_Table_l0s l rest i = some res), AX Try.prog tab podestaref04_Table_F c0 (Rp tab.S c0 (.sc (.bool r)) []) (some ⟨[.code [1, 0, 1, 0, 0], .loop [1, 0, 1, 0], .blk 0, .code [1, 1]], [(0, .sl 68 (List.map Rule.av l) f_l), (3, .sc (.int .i64 z))], []⟩) := by
  intro rest
  induction rest with
  | nil =>
    intro i z hI hd  H
    subst hI
    rw [podestaref04_Table_l0s] at H
    refine .facts 0 fun hf => ?_
    have hlen : l.length ≤ 9223372036854775807 := by have hq := len_ok hf.2.1; rw [List.length_map] at hq; exact hq
    have hge : l.length ≤ i := List.drop_eq_nil_iff.1 hd
    have hc : (decide (((i : Nat) : Int) < (((List.map Rule.av l).length : Nat) : Int))) = false := by rw [List.length_map]; exact decide_eq_false (by omega)
    exact .sg 3 [0,3,7] (.cdF hc (.sg 1 [] (.kp [] (.to (J () (Option.some.inj H).symm)))))
  | cons x rest ih =>
    intro i z hI hd  H
    subst hI
    rw [podestaref04_Table_l0s] at H
    refine .facts 0 fun hf => ?_
    have hlen : l.length ≤ 9223372036854775807 := by have hq := len_ok hf.2.1; rw [List.length_map] at hq; exact hq
    obtain ⟨hlt, hv_i, hd2⟩ := drop_cons hd
    have hc : (decide (((i : Nat) : Int) < (((List.map Rule.av l).length : Nat) : Int))) = true := by rw [List.length_map]; exact decide_eq_true (by omega)
    have hw : IntKind.i64.wrap (((i : Nat) : Int) + 1) = ((i + 1 : Nat) : Int) := wrapI_succ (by omega)
    refine .sg 3 [0,3,7] (.cdT hc (.sg 4 [0,3] (.rg (.sg 2 [0,3,10,11] (.xi [0,3,12] Rule.av hv_i (.sg 1 [0,3,13] (.cp [0,3,14] (podestaref04_Rule_calls x) (.sg 2 [0,3,16] (.sp 16 (!(podestaref04_Rule x)) H (fun hb H => ?_) (fun hb H => ?_))))))))))
    ·
      refine .sg 16 [0,3,32] (.dn (.sg 3 [2] ?_))
      obtain rfl := Option.some.inj H
      obtain rfl := Jr _ rfl
      exact .ret Try.func36 hc0
    ·
      refine .sg 3 [0,3,16,19] (.sp 19 (decide (((i : Nat) : Int) > 0)) H (fun hb H => ?_) (fun hb H => ?_))
      ·
        refine .sg 3 [0,3,16,19,20,22] (bndO H fun x1 hv H => (.xi [0,3,16,19,23] Rule.av hv (.sg 3 [0,3,16,19,24,25,26] (.xi [0,3,16,19,24,27] Rule.av hv_i (.sg 1 [0,3,16,19,24,28] (.cp [0,3,16,19,29] (podestaref04_Before_calls x1 x) (.sg 3 [0,3,32] (.dn (.cd (!(podestaref04_Before x1 x)) H (fun hb H => ?_) (fun hb H => ?_))))))))))
        ·
          refine .sg 2 [2] ?_
          obtain rfl := Option.some.inj H
          obtain rfl := Jr _ rfl
          exact .ret Try.func36 hc0
        ·
          exact .sg 3 [0,3] (.kp [0,3] (.into (.cl (ih (i + 1) _ hw hd2 H))))
      ·
        exact .sg 13 [0,3,32] (.dn (.sg 4 [0,3] (.kp [0,3] (.into (.cl (ih (i + 1) _ hw hd2 H))))))

def podestaref04_Table_raw (l : List Rule) : Option (Bool) :=
  loopO (podestaref04_Table_l0s l l 0) fun v =>
  some true
theorem podestaref04_Table_walk (l : List Rule) (f_l : Bool) (r : Bool) (H : podestaref04_Table_raw l = some r) : ACalls Try.prog tab.S 36 [.sl 68 (List.map Rule.av l) f_l] [] (.sc (.bool r)) [] := by
  refine .of_AX podestaref04_Table_F Try.func36 fun c0 hc0 => ?_
  rw [podestaref04_Table_raw] at H
  refine .sg 6 [0,3] ?_
  rcases loopO_some H with ⟨v, hv, H⟩ | hv
  case inr =>
    exact .into (.to (podestaref04_Table_l0_walk l f_l _ c0 hc0 (.inr _) (fun _ e => by cases e) (fun _ e => (Sum.inr.inj e).symm) l 0 _ rfl rfl hv))
  refine .into (.to (podestaref04_Table_l0_walk l f_l r c0 hc0 (.inl v) (fun w e => ?_) (fun _ e => by cases e) l 0 _ rfl rfl hv))
  have e := Sum.inl.inj e
  subst e
  refine .sg 2 [2] ?_
  obtain rfl := Option.some.inj H
  exact .ret Try.func36 hc0

end Go.Proofs.Ythfidfjogecnpaa

set_option linter.unusedVariables false
set_option linter.unusedSimpArgs false
set_option maxRecDepth 100000
set_option maxHeartbeats 4000000
namespace Go.Proofs.Ythfidfjogecnpaa
open Go.Sh
theorem setT_ok {h : List Int} {n v : Int} : ((setT_ h n v).2 == 0) = (head_there n && fitsH n v) := by
  unfold setT_
  cases head_there n
  · rfl
  · cases fitsH n v <;> rfl
theorem act_sound_eq {x : Act} (hv : 0 ≤ x.Value) : act_sound x = actOk x := by
  unfold act_sound actOk
  rw [setT_ok]
  unfold fitsH head_there
  rw [decide_eq_true hv, Bool.true_and]
  rw [Bool.eq_iff_iff]
  cases (x.Kind == 1)
  · cases (x.Kind == 2)
    · simp only [cond_false, Bool.and_eq_true]
      constructor
      · rintro ⟨a, b, c, d⟩; exact ⟨a, ⟨b, c⟩, d⟩
      · rintro ⟨a, ⟨b, c⟩, d⟩; exact ⟨a, b, c, d⟩
    · simp only [cond_false, cond_true, Bool.and_eq_true]
      constructor
      · rintro ⟨⟨⟨a, b⟩, c⟩, d⟩; exact ⟨⟨⟨d, a⟩, b⟩, c⟩
      · rintro ⟨⟨⟨d, a⟩, b⟩, c⟩; exact ⟨⟨⟨a, b⟩, c⟩, d⟩
  · rfl
theorem act_Sound_eq {l : List Act} (hv : ∀ x ∈ l, 0 ≤ x.Value) : act_Sound l = ActsOk l := by
  unfold act_Sound ActsOk
  rw [slices_ContainsFunc__api_Act_any, List.length_map]
  have e : (l.any act_Sound_1) = !(l.all actOk) := by
    rw [← Bool.not_not (l.any act_Sound_1), List.not_any_eq_all_not]
    congr 1
    rw [Bool.eq_iff_iff, List.all_eq_true, List.all_eq_true]
    constructor
    · intro h x hx
      have := h x hx
      unfold act_Sound_1 at this
      rw [act_sound_eq (hv x hx), Bool.not_not] at this
      exact this
    · intro h x hx
      unfold act_Sound_1
      rw [act_sound_eq (hv x hx), Bool.not_not]
      exact h x hx
  rw [e, Bool.not_not, Bool.and_comm]
  congr 1
  rw [Bool.eq_iff_iff, decide_eq_true_eq, decide_eq_true_eq]
  omega

theorem u64_nonneg {v : Int} (h : intW .u64 v) : 0 ≤ v := by
  unfold intW Go.Lit.wf at h
  rw [Bool.and_eq_true, decide_eq_true_eq, decide_eq_true_eq] at h
  exact h.1
theorem Act.wf_val {l : List Act} (w : ∀ y ∈ l, Act.wf y) : ∀ x ∈ l, 0 ≤ x.Value := fun x hx => u64_nonneg (w x hx).2.2.2
theorem arr_nonneg {xs : List Int} {n : Nat} (h : arrW .u64 n xs) (i : Nat) : 0 ≤ xs.getD i 0 := by
  rw [List.getD_eq_getElem?_getD]
  by_cases hi : i < xs.length
  · rw [List.getElem?_eq_getElem hi]
    exact u64_nonneg (h.2 _ (List.getElem_mem hi))
  · rw [List.getElem?_eq_none (by omega)]; exact Int.le_refl 0
theorem head_Sound_l0s_eq {h : List Int} (w : arrW .u64 12 h) : ∀ (n i : Nat), head_Sound_l0s h n i = podestaref01_Head_l0s h n i
  | 0, i => rfl
  | n + 1, i => by
      rw [head_Sound_l0s, podestaref01_Head_l0s, head_Sound_l0s_eq w n (i + 1), refFits_eq]
      unfold fitsH
      rw [decide_eq_true (arr_nonneg w i), Bool.true_and]
theorem head_Sound_eq {h : List Int} (w : arrW .u64 12 h) : head_Sound h = podestaref01_Head h := by
  rw [head_Sound, podestaref01_Head, head_Sound_l0s_eq w]
theorem textOk_false (c : Cube) : ∀ (r i : Nat), textOk c r i false = false
  | 0, _ => rfl
  | r + 1, i => by
      rw [textOk]
      cases badAt c i <;> exact textOk_false c r (i + 1)
theorem cube_Sound_l0s_eq (c : Cube) : ∀ (r i : Nat), cube_Sound_l0s c r i = if textOk c r i true then .inl () else .inr false
  | 0, _ => rfl
  | r + 1, i => by
      rw [cube_Sound_l0s, cube_Sound_l0s_eq c r (i + 1), textOk]
      show (bif badAt c i then _ else _) = _
      cases badAt c i
      · rfl
      · rw [cond_true, cond_true, textOk_false]; rfl
theorem cube_Sound_eq {c : Cube} (w : Cube.wf c) : cube_Sound c = podestaref01_Cube c := by
  rw [cube_Sound, podestaref01_Cube, cube_Sound_l0s_eq]
  unfold textT
  rw [head_Sound_eq w.2]
  cases podestaref01_Head c.Care
  · rw [textOk_false]; rfl
  · cases textOk c 12 0 true <;> rfl
theorem min3_nonneg (a b c : Int) : decide ((if c < (if b < a then b else a) then c else (if b < a then b else a)) ≥ 0) = ((decide (a ≥ 0) && decide (b ≥ 0)) && decide (c ≥ 0)) := by
  rw [Bool.eq_iff_iff]
  simp only [Bool.and_eq_true, decide_eq_true_eq]
  (repeat' split) <;> omega
theorem rule_Sound_eq {x : Rule} (w : Rule.wf x) : rule_Sound x = podestaref04_Rule x := by
  rw [rule_Sound, podestaref04_Rule, cube_Sound_eq w.1, act_Sound_eq (Act.wf_val w.2.2.1), refActs_eq, min3_nonneg]
  have e : ∀ a b, rule_span a b = podestaref04_span a b := fun _ _ => rfl
  simp only [e, Bool.and_assoc]
theorem Order_l0s_eq : ∀ (n i : Nat) (a b : List Int), a.length = i + n → b.length = i + n → (match podestaref01_Order_l0s a b n i with | .inl _ => (0 : Int) | .inr v => v) = cmpL cmp_Compare_uint64 (a.drop i) (b.drop i)
  | 0, i, a, b, ha, hb => by
      rw [List.drop_eq_nil_of_le (by omega), List.drop_eq_nil_of_le (by omega)]; rfl
  | n + 1, i, a, b, ha, hb => by
      have h1 : i < a.length := by omega
      have h2 : i < b.length := by omega
      rw [List.drop_eq_getElem_cons h1, List.drop_eq_getElem_cons h2, cmpL_cons, ← Order_l0s_eq n (i + 1) a b (by omega) (by omega), podestaref01_Order_l0s]
      have ea : a.getD i 0 = a[i] := by rw [List.getD_eq_getElem?_getD, List.getElem?_eq_getElem h1]; rfl
      have eb : b.getD i 0 = b[i] := by rw [List.getD_eq_getElem?_getD, List.getElem?_eq_getElem h2]; rfl
      have hc : cmp_Compare_uint64 a[i] b[i] = if a[i] < b[i] then -1 else if a[i] > b[i] then 1 else 0 := by
        have h : ∀ z, cmp_isNaN_uint64 z = false := fun z => by simp [cmp_isNaN_uint64]
        rw [cmp_Compare_uint64, h, h]
        by_cases h1 : a[i] < b[i]
        · simp [h1]
        · by_cases h2 : a[i] > b[i]
          · simp [h1, h2]
          · simp [h1, h2]
      rw [ea, eb, hc]
      by_cases q1 : a[i] < b[i]
      · simp [q1]
      · by_cases q2 : a[i] > b[i]
        · simp [q1, q2]
        · simp [q1, q2]
theorem Order_eq {a b : List Int} (ha : a.length = 12) (hb : b.length = 12) : podestaref01_Order a b = cmpL cmp_Compare_uint64 a b := by
  rw [podestaref01_Order]
  have h := Order_l0s_eq 12 0 a b (by omega) (by omega)
  rw [List.drop_zero, List.drop_zero] at h
  rw [← h]
  cases podestaref01_Order_l0s a b 12 0 <;> rfl
theorem refBefore_eq {a b : Rule} (wa : Rule.wf a) (wb : Rule.wf b) : podestaref04_Before a b = rule_Before a b := by
  rw [rule_Before, rule_compare, podestaref04_Before, podestaref01_Compare, cube_Compare, cmp_Or_two, head_Compare_eq, head_Compare_eq, Order_eq wa.1.2.1 wb.1.2.1, Order_eq wa.1.1.1 wb.1.1.1]
  cases h : a.Prio != b.Prio
  · simp only [cond_false]
    by_cases q : cmpL cmp_Compare_uint64 a.Match.Care b.Match.Care = 0
    · simp [q]
    · have : (cmpL cmp_Compare_uint64 a.Match.Care b.Match.Care != 0) = true := by simp [q]
      rw [this, cond_true, if_neg q]
  · simp only [cond_true]
    cases decide (a.Prio > b.Prio) <;> rfl
theorem refTable_l0s_eq (all : List Rule) (w : ∀ y ∈ all, Rule.wf y) : ∀ (l : List Rule) (i : Nat), all.drop i = l → podestaref04_Table_l0s all l i = rule_Table_l0s all l i
  | [], i, _ => by rw [podestaref04_Table_l0s, rule_Table_l0s]
  | x :: l, i, h => by
      have hlt : i < all.length := by
        rcases Nat.lt_or_ge i all.length with q | q
        · exact q
        · rw [List.drop_eq_nil_of_le q] at h; cases h
      rw [List.drop_eq_getElem_cons hlt] at h
      injection h with h1 h2
      have hx : x ∈ all := by rw [← h1]; exact List.getElem_mem hlt
      rw [podestaref04_Table_l0s, rule_Table_l0s, refTable_l0s_eq all w l (i + 1) h2, rule_Sound_eq (w x hx)]
      cases podestaref04_Rule x
      · rfl
      · simp only [Bool.not_true, cond_false]
        cases decide (((i : Nat) : Int) > 0)
        · rfl
        · simp only [cond_true]
          cases hq : ixO all (IntKind.i64.wrap (((i : Nat) : Int) - 1)) with
          | none => rfl
          | some y =>
            have hy : y ∈ all := by
              unfold ixO at hq
              split at hq
              · exact List.mem_of_getElem? hq
              · cases hq
            simp only [Option.bind_some, refBefore_eq (w y hy) (w x hx)]
theorem refTable_raw_eq (l : List Rule) (w : ∀ y ∈ l, Rule.wf y) (h : l.length ≤ 1000000000000000) : podestaref04_Table_raw l = some (tableR l) := by
  rw [podestaref04_Table_raw, refTable_l0s_eq l w l 0 rfl, rule_Table_l0s_eq l h l 0 rfl, if_pos rfl]
  unfold tableR
  cases tableF none l <;> rfl

end Go.Proofs.Ythfidfjogecnpaa
