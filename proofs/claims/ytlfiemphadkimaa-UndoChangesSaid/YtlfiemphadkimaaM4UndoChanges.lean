import Derived.Test.YtlfiemphadkimaaProg
import Derived.Test.YtlfiemphadkimaaM3UndoChanges
set_option linter.unusedVariables false
set_option linter.unusedSimpArgs false
set_option maxRecDepth 100000
set_option maxHeartbeats 4000000
namespace Go.Proofs.Ytlfiemphadkimaa
open Go.Sh
def tab : Go.Sh.Tab := [
  (1, ⟨.other, 1, 8, [.sc .nilFunc]⟩),
  (2, ⟨.int .i64, 1, 8, [.sc (.int .i64 0)]⟩),
  (3, ⟨.int .i64, 1, 8, [.sc (.int .i64 0)]⟩),
  (4, ⟨.bool, 1, 1, [.sc (.bool false)]⟩),
  (5, ⟨.int .u8, 1, 1, [.sc (.int .u8 0)]⟩),
  (9, ⟨.str, 1, 16, [.sc (.string ⟨#[]⟩)]⟩),
  (12, ⟨.int .u64, 1, 8, [.sc (.int .u64 0)]⟩),
  (13, ⟨.struct [(0, 9), (1, 12)], 2, 24, [.sc (.string ⟨#[]⟩), .sc (.int .u64 0)]⟩),
  (21, ⟨.int .i32, 1, 4, [.sc (.int .i32 0)]⟩),
  (22, ⟨.slice 51, 1, 24, [.sl 0 [] true]⟩),
  (23, ⟨.slice 33, 1, 24, [.sl 0 [] true]⟩),
  (24, ⟨.other, 1, 8, [.sc .nilFunc]⟩),
  (25, ⟨.slice 35, 1, 24, [.sl 0 [] true]⟩),
  (26, ⟨.int .u64, 1, 8, [.sc (.int .u64 0)]⟩),
  (27, ⟨.arr 12 26, 12, 96, [.arr .u64 12 [0, 0, 0, 0, 0, 0, 0, 0, 0, 0, 0, 0]]⟩),
  (28, ⟨.arr 12 26, 12, 96, [.arr .u64 12 [0, 0, 0, 0, 0, 0, 0, 0, 0, 0, 0, 0]]⟩),
  (29, ⟨.struct [(0, 28), (12, 28)], 24, 192, [.arr .u64 12 [0, 0, 0, 0, 0, 0, 0, 0, 0, 0, 0, 0], .arr .u64 12 [0, 0, 0, 0, 0, 0, 0, 0, 0, 0, 0, 0]]⟩),
  (30, ⟨.struct [(0, 28), (12, 28)], 24, 192, [.arr .u64 12 [0, 0, 0, 0, 0, 0, 0, 0, 0, 0, 0, 0], .arr .u64 12 [0, 0, 0, 0, 0, 0, 0, 0, 0, 0, 0, 0]]⟩),
  (31, ⟨.slice 60, 1, 24, [.sl 0 [] true]⟩),
  (32, ⟨.struct [(0, 3), (1, 30), (25, 3), (26, 31), (27, 3), (28, 3), (29, 3), (30, 4)], 31, 264, [.sc (.int .i64 0), .arr .u64 12 [0, 0, 0, 0, 0, 0, 0, 0, 0, 0, 0, 0], .arr .u64 12 [0, 0, 0, 0, 0, 0, 0, 0, 0, 0, 0, 0], .sc (.int .i64 0), .sl 0 [] true, .sc (.int .i64 0), .sc (.int .i64 0), .sc (.int .i64 0), .sc (.bool false)]⟩),
  (33, ⟨.struct [(0, 3), (1, 30), (25, 3), (26, 31), (27, 3), (28, 3), (29, 3), (30, 4)], 31, 264, [.sc (.int .i64 0), .arr .u64 12 [0, 0, 0, 0, 0, 0, 0, 0, 0, 0, 0, 0], .arr .u64 12 [0, 0, 0, 0, 0, 0, 0, 0, 0, 0, 0, 0], .sc (.int .i64 0), .sl 0 [] true, .sc (.int .i64 0), .sc (.int .i64 0), .sc (.int .i64 0), .sc (.bool false)]⟩),
  (34, ⟨.struct [(0, 22), (1, 22)], 2, 48, [.sl 0 [] true, .sl 0 [] true]⟩),
  (35, ⟨.struct [(0, 22), (1, 22)], 2, 48, [.sl 0 [] true, .sl 0 [] true]⟩),
  (36, ⟨.int .i64, 1, 8, [.sc (.int .i64 0)]⟩),
  (38, ⟨.other, 1, 8, [.sc .nilFunc]⟩),
  (40, ⟨.other, 1, 8, [.sc .nilFunc]⟩),
  (41, ⟨.other, 1, 8, [.sc .nilFunc]⟩),
  (42, ⟨.other, 1, 8, [.sc .nilFunc]⟩),
  (43, ⟨.other, 1, 8, [.sc .nilFunc]⟩),
  (44, ⟨.other, 1, 8, [.sc .nilFunc]⟩),
  (45, ⟨.other, 1, 8, [.sc .nilFunc]⟩),
  (46, ⟨.other, 1, 8, [.sc .nilFunc]⟩),
  (47, ⟨.other, 1, 8, [.sc .nilFunc]⟩),
  (48, ⟨.other, 1, 8, [.sc .nilFunc]⟩),
  (49, ⟨.other, 1, 8, [.sc .nilFunc]⟩),
  (50, ⟨.struct [(0, 30), (24, 3), (25, 31), (26, 3), (27, 3), (28, 3), (29, 3), (30, 3), (31, 3)], 32, 272, [.arr .u64 12 [0, 0, 0, 0, 0, 0, 0, 0, 0, 0, 0, 0], .arr .u64 12 [0, 0, 0, 0, 0, 0, 0, 0, 0, 0, 0, 0], .sc (.int .i64 0), .sl 0 [] true, .sc (.int .i64 0), .sc (.int .i64 0), .sc (.int .i64 0), .sc (.int .i64 0), .sc (.int .i64 0), .sc (.int .i64 0)]⟩),
  (51, ⟨.struct [(0, 30), (24, 3), (25, 31), (26, 3), (27, 3), (28, 3), (29, 3), (30, 3), (31, 3)], 32, 272, [.arr .u64 12 [0, 0, 0, 0, 0, 0, 0, 0, 0, 0, 0, 0], .arr .u64 12 [0, 0, 0, 0, 0, 0, 0, 0, 0, 0, 0, 0], .sc (.int .i64 0), .sl 0 [] true, .sc (.int .i64 0), .sc (.int .i64 0), .sc (.int .i64 0), .sc (.int .i64 0), .sc (.int .i64 0), .sc (.int .i64 0)]⟩),
  (52, ⟨.other, 1, 8, [.sc .nilFunc]⟩),
  (53, ⟨.other, 1, 8, [.sc .nilFunc]⟩),
  (54, ⟨.slice 3, 1, 24, [.sl 0 [] true]⟩),
  (55, ⟨.other, 1, 8, [.sc .nilFunc]⟩),
  (56, ⟨.other, 1, 8, [.sc .nilFunc]⟩),
  (57, ⟨.other, 1, 8, [.sc .nilFunc]⟩),
  (58, ⟨.other, 1, 8, [.sc .nilFunc]⟩),
  (59, ⟨.struct [(0, 3), (1, 3), (2, 3), (3, 26)], 4, 32, [.sc (.int .i64 0), .sc (.int .i64 0), .sc (.int .i64 0), .sc (.int .u64 0)]⟩),
  (60, ⟨.struct [(0, 3), (1, 3), (2, 3), (3, 26)], 4, 32, [.sc (.int .i64 0), .sc (.int .i64 0), .sc (.int .i64 0), .sc (.int .u64 0)]⟩),
  (61, ⟨.other, 1, 8, [.sc .nilFunc]⟩),
  (62, ⟨.other, 1, 8, [.sc .nilFunc]⟩),
  (63, ⟨.other, 1, 8, [.sc .nilFunc]⟩),
  (65, ⟨.other, 1, 8, [.sc .nilFunc]⟩),
  (66, ⟨.other, 1, 8, [.sc .nilFunc]⟩),
  (67, ⟨.other, 1, 8, [.sc .nilFunc]⟩),
  (68, ⟨.other, 1, 8, [.sc .nilFunc]⟩),
  (69, ⟨.other, 1, 8, [.sc .nilFunc]⟩),
  (70, ⟨.other, 1, 8, [.sc .nilFunc]⟩),
  (71, ⟨.other, 1, 8, [.sc .nilFunc]⟩),
  (72, ⟨.other, 1, 8, [.sc .nilFunc]⟩),
  (74, ⟨.other, 1, 8, [.sc .nilFunc]⟩),
  (75, ⟨.other, 1, 8, [.sc .nilFunc]⟩),
  (76, ⟨.other, 1, 8, [.sc .nilFunc]⟩),
  (77, ⟨.slice 5, 1, 24, [.sl 0 [] true]⟩),
  (78, ⟨.other, 1, 8, [.sc .nilFunc]⟩),
  (80, ⟨.other, 1, 8, [.sc .nilFunc]⟩),
  (81, ⟨.other, 1, 8, [.sc .nilFunc]⟩),
  (82, ⟨.other, 1, 8, [.sc .nilFunc]⟩),
  (83, ⟨.other, 1, 8, [.sc .nilFunc]⟩),
  (84, ⟨.other, 1, 8, [.sc .nilFunc]⟩),
  (85, ⟨.other, 1, 8, [.sc .nilFunc]⟩),
  (86, ⟨.other, 1, 8, [.sc .nilFunc]⟩),
  (87, ⟨.slice 4, 1, 24, [.sl 0 [] true]⟩),
  (88, ⟨.other, 1, 8, [.sc .nilFunc]⟩),
  (89, ⟨.int .u64, 1, 8, [.sc (.int .u64 0)]⟩),
  (90, ⟨.other, 1, 8, [.sc .nilFunc]⟩),
  (91, ⟨.other, 1, 8, [.sc .nilFunc]⟩),
  (92, ⟨.other, 1, 8, [.sc .nilFunc]⟩),
  (94, ⟨.other, 1, 8, [.sc .nilFunc]⟩),
  (95, ⟨.other, 1, 8, [.sc .nilFunc]⟩),
  (96, ⟨.other, 1, 8, [.sc .nilFunc]⟩),
  (97, ⟨.other, 1, 8, [.sc .nilFunc]⟩),
  (98, ⟨.slice 26, 1, 24, [.sl 0 [] true]⟩),
  (99, ⟨.other, 1, 8, [.sc .nilFunc]⟩),
  (100, ⟨.other, 1, 8, [.sc .nilFunc]⟩),
  (101, ⟨.struct [(0, 9), (1, 3)], 2, 24, [.sc (.string ⟨#[]⟩), .sc (.int .i64 0)]⟩),
  (102, ⟨.struct [(0, 9), (1, 3)], 2, 24, [.sc (.string ⟨#[]⟩), .sc (.int .i64 0)]⟩),
  (103, ⟨.arr 12 102, 24, 288, [.sc (.string ⟨#[]⟩), .sc (.int .i64 0), .sc (.string ⟨#[]⟩), .sc (.int .i64 0), .sc (.string ⟨#[]⟩), .sc (.int .i64 0), .sc (.string ⟨#[]⟩), .sc (.int .i64 0), .sc (.string ⟨#[]⟩), .sc (.int .i64 0), .sc (.string ⟨#[]⟩), .sc (.int .i64 0), .sc (.string ⟨#[]⟩), .sc (.int .i64 0), .sc (.string ⟨#[]⟩), .sc (.int .i64 0), .sc (.string ⟨#[]⟩), .sc (.int .i64 0), .sc (.string ⟨#[]⟩), .sc (.int .i64 0), .sc (.string ⟨#[]⟩), .sc (.int .i64 0), .sc (.string ⟨#[]⟩), .sc (.int .i64 0)]⟩),
  (104, ⟨.other, 1, 8, [.sc .nilFunc]⟩),
  (105, ⟨.other, 1, 8, [.sc .nilFunc]⟩),
  (106, ⟨.other, 1, 8, [.sc .nilFunc]⟩),
  (112, ⟨.other, 1, 8, [.sc .nilFunc]⟩),
  (113, ⟨.int .u32, 1, 4, [.sc (.int .u32 0)]⟩),
  (116, ⟨.other, 1, 8, [.sc .nilFunc]⟩),
  (117, ⟨.ptr 5, 1, 8, [.sc (.pointer none)]⟩)]

theorem tab_ok : tab.ok Try.prog := Tab.ok_of (by kernel_rfl)
theorem mixed : Try.prog.follows .mixedOrders = true := by kernel_rfl
end Go.Proofs.Ytlfiemphadkimaa

set_option linter.unusedVariables false
set_option linter.unusedSimpArgs false
set_option maxRecDepth 100000
set_option maxHeartbeats 4000000
namespace Go.Proofs.Ytlfiemphadkimaa
open Go.Sh
instance : Ok Try.prog tab := ⟨tab_ok, mixed⟩
theorem wrap_eq {n : Int} (h1 : -9223372036854775808 ≤ n) (h2 : n ≤ 9223372036854775807) : IntKind.i64.wrap n = n := by
  rw [IntKind.wrap_i64]; omega
theorem wrap_succ {i : Nat} (h : i < 9223372036854775807) : IntKind.i64.wrap ((i : Int) + 1) = ((i + 1 : Nat) : Int) := by
  rw [wrap_eq (by omega) (by omega)]; rfl
theorem ixO_lt {α : Type} {xs : List α} {i : Nat} (h : i < xs.length) : ixO xs (i : Int) = some xs[i] := by
  unfold ixO
  rw [if_pos (by omega), Int.toNat_natCast, List.getElem?_eq_getElem h]
theorem fitO_eq {α : Type} {n b : Nat} {r : Option α} (h : n * b ≤ 140737488355328) : fitO n b r = r := by
  unfold fitO; rw [if_pos h]
theorem reqO_eq {α : Type} {b : Bool} {r : Option α} (h : b = true) : reqO b r = r := by
  subst h; rfl
theorem zero_nat : (0 : Int) = ((0 : Nat) : Int) := rfl
def idxF {α : Type} (f : α → Bool) (l : List α) : Int := match l.findIdx? f with | some i => (i : Int) | none => -1
theorem idxF_any {α : Type} (f : α → Bool) (l : List α) : decide (idxF f l ≥ 0) = l.any f := by
  unfold idxF
  cases h : l.findIdx? f with
  | none =>
    have : l.any f = false := by
      rw [Bool.eq_false_iff]
      intro ha
      obtain ⟨x, hx, hf⟩ := List.any_eq_true.1 ha
      have := List.findIdx?_eq_none_iff.1 h x hx
      rw [hf] at this
      cases this
    rw [this]
    rfl
  | some i =>
    have : l.any f = true := by
      obtain ⟨hlt, hp, _⟩ := List.findIdx?_eq_some_iff_getElem.1 h
      exact List.any_eq_true.2 ⟨l[i], List.getElem_mem hlt, hp⟩
    rw [this]
    simp
theorem findIdx_drop {α : Type} (f : α → Bool) {l : List α} {i : Nat} (h : i < l.length) : (l.drop i).findIdx? f = if f l[i] then some 0 else ((l.drop (i + 1)).findIdx? f).map (· + 1) := by
  rw [List.drop_eq_getElem_cons h, List.findIdx?_cons]
def zipAll {α β : Type} (f : α → β → Bool) : List α → List β → Bool
  | [], [] => true
  | x :: l, y :: r => f x y && zipAll f l r
  | _, _ => false
theorem zipAll_beq {α : Type} [DecidableEq α] : ∀ (l r : List α), zipAll (fun x y => x == y) l r = (l == r)
  | [], [] => rfl
  | x :: l, y :: r => by
      rw [zipAll, zipAll_beq l r]
      rfl
  | [], _ :: _ => rfl
  | _ :: _, [] => rfl
theorem zipAll_len {α β : Type} {f : α → β → Bool} : ∀ {l : List α} {r : List β}, zipAll f l r = true → l.length = r.length
  | [], [], _ => rfl
  | x :: l, y :: r, h => by
      rw [zipAll, Bool.and_eq_true] at h
      rw [List.length_cons, List.length_cons, zipAll_len h.2]
  | [], _ :: _, h => by cases h
  | _ :: _, [], h => by cases h
/-- two lists side by side -/
theorem cmp_loop {α β ε ρ : Type} {e : ε} {v : ρ} (L : List α → Nat → Option (Sum ε ρ)) (s2 : List β) (f : α → β → Bool) (h0 : ∀ i, L [] i = some (.inl e)) (h1 : ∀ x rest i, L (x :: rest) i = (ixO s2 ((i : Nat) : Int)).bind fun x1 => bif (!(f x x1)) then some (.inr v) else L rest (i + 1)) :
    ∀ (l : List α) (i : Nat), l.length + i = s2.length → L l i = some (if zipAll f l (s2.drop i) then .inl e else .inr v)
  | [], i, q => by
      rw [h0, List.drop_eq_nil_of_le (by simp at q; omega)]
      rfl
  | x :: l, i, q => by
      have hlt : i < s2.length := by simp at q; omega
      rw [h1, ixO_lt hlt, Option.bind_some, cmp_loop L s2 f h0 h1 l (i + 1) (by simp at q; omega), List.drop_eq_getElem_cons hlt, zipAll]
      cases f x s2[i]
      · rfl
      · simp only [Bool.not_true, cond_false, Bool.true_and]
theorem len_bne {α β : Type} (f : α → AV) (g : β → AV) (a : List α) (b : List β) : ((((List.map f a).length : Nat) : Int) != (((List.map g b).length : Nat) : Int)) = !decide (a.length = b.length) := by
  rw [List.length_map, List.length_map]
  by_cases h : a.length = b.length
  · rw [h]; simp
  · simp [h]; omega
theorem nil_app {α : Type} (l : List α) : ([] : List α) ++ l = l := rfl
theorem zipAll_refl {α : Type} {f : α → α → Bool} : ∀ {l : List α}, (∀ x ∈ l, f x x = true) → zipAll f l l = true
  | [], _ => rfl
  | x :: l, h => by
      rw [zipAll, h x (by simp), zipAll_refl fun y hy => h y (by simp [hy])]
      rfl

/-! ### The fields' sizes -/
def sizes : List Int := [16, 48, 48, 16, 12, 4, 32, 32, 8, 8, 12, 12]
def sizeT (n : Int) : Int := if 0 ≤ n ∧ n < 12 then sizes.getD n.toNat 0 else 0
theorem sizeT_cases (n : Int) : (¬ (0 ≤ n ∧ n < 12) ∧ sizeT n = 0) ∨ (0 ≤ n ∧ n < 12 ∧ ∃ k : Nat, n = k ∧ k < 12 ∧ sizeT n = sizes.getD k 0) := by
  by_cases h : 0 ≤ n ∧ n < 12
  · refine .inr ⟨h.1, h.2, n.toNat, by omega, by omega, ?_⟩
    unfold sizeT; rw [if_pos h]
  · refine .inl ⟨h, ?_⟩
    unfold sizeT; rw [if_neg h]
theorem sizes_in : ∀ k : Nat, 0 ≤ sizes.getD k 0 ∧ sizes.getD k 0 ≤ 48
  | 0 | 1 | 2 | 3 | 4 | 5 | 6 | 7 | 8 | 9 | 10 | 11 => by decide
  | n + 12 => by
    have : sizes.getD (n + 12) 0 = 0 := rfl
    rw [this]; decide
theorem sizeT_in (n : Int) : 0 ≤ sizeT n ∧ sizeT n ≤ 48 := by
  unfold sizeT
  split
  · exact sizes_in _
  · decide
/-- a number fits a field -/
def fitsT (n v : Int) : Bool := decide (v < 2 ^ (sizeT n).toNat)
theorem pow_le48 {k : Nat} (h : k ≤ 48) : (2 : Int) ^ k ≤ 281474976710656 := by
  have : (2 : Nat) ^ k ≤ 2 ^ 48 := Nat.pow_le_pow_right (by omega) h
  have e : ((2 ^ k : Nat) : Int) = (2 : Int) ^ k := by push_cast; rfl
  rw [← e]
  omega
theorem pow_pos2 (k : Nat) : (0 : Int) < (2 : Int) ^ k := Int.pow_pos (by decide)
theorem wrapU_eq {n : Int} (h1 : 0 ≤ n) (h2 : n < 18446744073709551616) : IntKind.u64.wrap n = n := by
  unfold IntKind.wrap
  simp only [IntKind.signed, IntKind.bits, Bool.false_and, Bool.false_eq_true, if_false]
  omega

structure Act where
  Kind : Int
  Port : Int
  Field : Int
  Value : Int
  deriving DecidableEq, Inhabited
def Act.ch (r : Act) : List AV := [.sc (.int .i64 r.Kind), .sc (.int .i64 r.Port), .sc (.int .i64 r.Field), .sc (.int .u64 r.Value)]
def Act.av (r : Act) : AV := .agg [.sc (.int .i64 r.Kind), .sc (.int .i64 r.Port), .sc (.int .i64 r.Field), .sc (.int .u64 r.Value)]
structure Cube where
  Value : List Int
  Care : List Int
  deriving DecidableEq, Inhabited
def Cube.ch (r : Cube) : List AV := [.arr .u64 12 r.Value, .arr .u64 12 r.Care]
def Cube.av (r : Cube) : AV := .agg [.arr .u64 12 r.Value, .arr .u64 12 r.Care]
structure Rule where
  Match : Cube
  Prio : Int
  Acts : List Act
  Idle : Int
  Hard : Int
  Owner : Int
  Hits : Int
  Quiet : Int
  Age : Int
  deriving DecidableEq, Inhabited
def Rule.ch (r : Rule) : List AV := [.arr .u64 12 r.Match.Value, .arr .u64 12 r.Match.Care, .sc (.int .i64 r.Prio), .sl 60 (List.map Act.av r.Acts) false, .sc (.int .i64 r.Idle), .sc (.int .i64 r.Hard), .sc (.int .i64 r.Owner), .sc (.int .i64 r.Hits), .sc (.int .i64 r.Quiet), .sc (.int .i64 r.Age)]
def Rule.av (r : Rule) : AV := .agg [.arr .u64 12 r.Match.Value, .arr .u64 12 r.Match.Care, .sc (.int .i64 r.Prio), .sl 60 (List.map Act.av r.Acts) false, .sc (.int .i64 r.Idle), .sc (.int .i64 r.Hard), .sc (.int .i64 r.Owner), .sc (.int .i64 r.Hits), .sc (.int .i64 r.Quiet), .sc (.int .i64 r.Age)]
structure Mod where
  Kind : Int
  Match : Cube
  Prio : Int
  Acts : List Act
  Idle : Int
  Hard : Int
  Owner : Int
  Check : Bool
  deriving DecidableEq, Inhabited
def Mod.ch (r : Mod) : List AV := [.sc (.int .i64 r.Kind), .arr .u64 12 r.Match.Value, .arr .u64 12 r.Match.Care, .sc (.int .i64 r.Prio), .sl 60 (List.map Act.av r.Acts) false, .sc (.int .i64 r.Idle), .sc (.int .i64 r.Hard), .sc (.int .i64 r.Owner), .sc (.bool r.Check)]
def Mod.av (r : Mod) : AV := .agg [.sc (.int .i64 r.Kind), .arr .u64 12 r.Match.Value, .arr .u64 12 r.Match.Care, .sc (.int .i64 r.Prio), .sl 60 (List.map Act.av r.Acts) false, .sc (.int .i64 r.Idle), .sc (.int .i64 r.Hard), .sc (.int .i64 r.Owner), .sc (.bool r.Check)]
structure Patch where
  Gone : List Rule
  New : List Rule
  deriving DecidableEq, Inhabited
def Patch.ch (r : Patch) : List AV := [.sl 51 (List.map Rule.av r.Gone) false, .sl 51 (List.map Rule.av r.New) false]
def Patch.av (r : Patch) : AV := .agg [.sl 51 (List.map Rule.av r.Gone) false, .sl 51 (List.map Rule.av r.New) false]
structure Field where
  name : ByteArray
  size : Int
  deriving DecidableEq, Inhabited
def Field.ch (r : Field) : List AV := [.sc (.string r.name), .sc (.int .i64 r.size)]
def Field.av (r : Field) : AV := .agg [.sc (.string r.name), .sc (.int .i64 r.size)]

end Go.Proofs.Ytlfiemphadkimaa

set_option linter.unusedVariables false
set_option linter.unusedSimpArgs false
set_option maxRecDepth 100000
set_option maxHeartbeats 4000000
namespace Go.Proofs.Ytlfiemphadkimaa
open Go.Sh
theorem splice_grow {α : Type} (cur xs za zb : List α) (p q r : Nat) (hp : p + r ≤ cur.length) (hx : xs.length = q) (hz : za.length = q + r) (L0 L1 L2 : List α) (h0 : L0 = cur.take p ++ za ++ zb) (h1 : L1 = L0.take p ++ xs ++ L0.drop (p + q)) (h2 : L2 = L1.take (p + q) ++ (cur.drop p).take r ++ L1.drop (p + q + r)) :
    L2.take (p + q + r) = cur.take p ++ xs ++ (cur.drop p).take r ∧ L2.length = p + (q + r) + zb.length := by
  have e0 : L0.take p = cur.take p := by
    rw [h0, List.append_assoc, List.take_left' (by rw [List.length_take]; omega)]
  have l0 : L0.length = p + (q + r) + zb.length := by
    rw [h0, List.length_append, List.length_append, List.length_take, hz]; omega
  have e1 : L1.take (p + q) = cur.take p ++ xs := by
    rw [h1, e0, List.take_left' (by rw [List.length_append, List.length_take, hx]; omega)]
  have l1 : L1.length = L0.length := by
    rw [h1, List.length_append, List.length_append, List.length_take, List.length_drop, hx]; omega
  refine ⟨?_, ?_⟩
  · rw [h2, e1, List.take_left' (by simp only [List.length_append, List.length_take, List.length_drop, hx]; omega)]
  · rw [h2, List.length_append, List.length_append, List.length_take, List.length_take, List.length_drop, List.length_drop]; omega
theorem splice_room {α : Type} (cur xs : List α) (p q r : Nat) (hp : p + q + r ≤ cur.length) (hx : xs.length = q) (L1 L2 : List α) (h1 : L1 = cur.take (p + q) ++ (cur.drop p).take r ++ cur.drop (p + q + r)) (h2 : L2 = L1.take p ++ xs ++ L1.drop (p + q)) :
    L2.take (p + q + r) = cur.take p ++ xs ++ (cur.drop p).take r ∧ L2.length = cur.length := by
  have e0 : L1.take p = cur.take p := by
    rw [h1, List.append_assoc, List.take_append, List.length_take, List.take_take, Nat.min_eq_left (by omega), show p - min (p + q) cur.length = 0 by omega, List.take_zero, List.append_nil]
  have l1 : L1.length = cur.length := by
    rw [h1, List.length_append, List.length_append, List.length_take, List.length_take, List.length_drop, List.length_drop]; omega
  have e1 : L1.drop (p + q) = (cur.drop p).take r ++ cur.drop (p + q + r) := by
    rw [h1, List.append_assoc, List.drop_left' (by rw [List.length_take]; omega)]
  refine ⟨?_, ?_⟩
  · rw [h2, e0, e1, ← List.append_assoc, List.take_left' (by simp only [List.length_append, List.length_take, List.length_drop, hx]; omega)]
  · rw [h2, List.length_append, List.length_append, List.length_take, List.length_drop, hx]; omega

/-! ### slices.Insert of one element into a row of ours (by hand) -/
noncomputable def slices_Insert__api_Rule_F : Go.Sh.Fn := ⟨69, bodyOf Try.f69, 95⟩
theorem slices_Insert__api_Rule_over : ∀ (vals : Array Value) (w : World), (callFunc 81 vals).run Try.prog w = ((Extern.SlicesOverlaps.overlaps #[22, 22] #[4] vals).run Try.prog w).andThen fun v w' => .ok (.value v) w' :=
  fun vals w => run_callFunc_extern Try.func81 (by kernel_rfl) (by kernel_rfl) (by kernel_rfl) (by kernel_rfl) vals w

/-- at the end: append -/
theorem slices_Insert__api_Rule_end (A : List Rule) (x : Rule) (f : Bool) (C : Ctx) (H : HRel tab.S C [.row 51 (List.map Rule.av A) 1000000 true]) (hfit : (A.length + [x].length) * 272 ≤ reach) (vals : Array Value)
    (hv : VRels tab.S C [.own 0 1000000, .sc (.int .i64 (A.length : Int)), .sl 51 (List.map Rule.av [x]) f] vals.toList) :
    Calls Try.prog 69 vals C.w (Rp tab.S C (.own 0 1000001) [.row 51 (List.map Rule.av (A ++ [x])) 1000001 true]) := by
  have hG := tab_ok
  have hm := mixed
  have hlen : C.m.length = 1 := H.len
  refine AR.start (G := tab) slices_Insert__api_Rule_F (fn := Try.f69) Try.func69 (by kernel_rfl) (by kernel_rfl) (Nat.le_of_ble_eq_true (by kernel_rfl)) H hv ?_
  refine AR.seg hG hm 3 [0, 1, 2] (k' := [.code [1, 0], .code [1, 1]]) (t' := [(0, .own 0 1000000), (1, .sc (.int .i64 (A.length : Int))), (2, .sl 51 (List.map Rule.av [x]) f)]) (h' := [.row 51 (List.map Rule.av A) 1000000 true]) (by kernel_rfl) ?_
  refine AR.regK (by kernel_rfl) ?_
  refine LK.seg hG 2 [0, 1, 2, 10, 11] (t' := [(0, .own 0 1000000), (1, .sc (.int .i64 (A.length : Int))), (2, .sl 51 (List.map Rule.av [x]) f), (10, .own 0 1000000), (11, .sc (.int .i64 (A.length : Int)))]) (h' := [.row 51 (List.map Rule.av A) 1000000 true]) (by kernel_rfl) rfl ?_
  refine LK.op [0, 1, 2] (t' := [(0, .own 0 1000000), (1, .sc (.int .i64 (A.length : Int))), (2, .sl 51 (List.map Rule.av [x]) f)]) (LSpec.sliceOwnU hG (ty := 22) (e := 51) (o := 0) (k := 1000000) (kk := .i64) (app := true) (rows := List.map Rule.av A) (x := .tmp 10) (y := .tmp 11) (j := A.length) (by kernel_rfl) (by kernel_rfl) (by kernel_rfl) (by kernel_rfl) (by kernel_rfl) (by kernel_rfl) (by rw [List.length_map]; exact Nat.le_refl _)) (by kernel_rfl) rfl ?_
  refine LK.done (by kernel_rfl) ?_
  refine AR.seg hG hm 5 [0, 1, 2, 16] (k' := [.code [1, 1, 1, 0, 1], .code [1, 1, 1, 1]]) (t' := [(0, .own 0 1000000), (1, .sc (.int .i64 (A.length : Int))), (2, .sl 51 (List.map Rule.av [x]) f), (16, .sc (.bool false))]) (h' := [.row 51 (List.map Rule.av A) 1000000 true]) (by kernel_rfl) ?_
  refine AR.cond (.tmp 16) false (by kernel_rfl) (by kernel_rfl) (fun hb => by cases hb) (fun _ => ?_)
  refine AR.seg hG hm 6 [0, 1, 2, 22] (k' := [.code [1, 1, 1, 1, 1, 0, 1], .code [1, 1, 1, 1, 1, 1]]) (t' := [(0, .own 0 1000000), (1, .sc (.int .i64 (A.length : Int))), (2, .sl 51 (List.map Rule.av [x]) f), (22, .sc (.bool (((A.length : Nat) : Int) == (((List.map Rule.av A).length : Nat) : Int))))]) (h' := [.row 51 (List.map Rule.av A) 1000000 true]) (by kernel_rfl) ?_
  refine AR.cond (.tmp 22) (((A.length : Nat) : Int) == (((List.map Rule.av A).length : Nat) : Int)) (by kernel_rfl) (by kernel_rfl) (fun _ => ?_) (fun hb => absurd hb (by rw [List.length_map]; simp))
  refine AR.seg hG hm 1 [0, 2] (k' := [.code [1, 1, 1, 1, 1, 0, 1, 0, 0], .code [1, 1, 1, 1, 1, 0, 1, 0, 1], .code [1, 1, 1, 1, 1, 1]]) (t' := [(0, .own 0 1000000), (2, .sl 51 (List.map Rule.av [x]) f)]) (h' := [.row 51 (List.map Rule.av A) 1000000 true]) (by kernel_rfl) ?_
  refine AR.regK (by kernel_rfl) ?_
  refine LK.seg hG 2 [23, 24] (t' := [(23, .own 0 1000000), (24, .sl 51 (List.map Rule.av [x]) f)]) (h' := [.row 51 (List.map Rule.av A) 1000000 true]) (by kernel_rfl) rfl ?_
  obtain ⟨ei, hei⟩ := Option.isSome_iff_exists.1 (by kernel_rfl : (tab.get 51).isSome = true)
  have hS := S_get hei
  have hS2 : tab.S 51 = (32, 272) := by kernel_rfl
  rw [hS2] at hS
  injection hS with hS3 hS4
  have L := fun t h hop hx ho hy hnb => LSpec.append (n := slices_Insert__api_Rule_F.n) (ops := opsOf (codeAt slices_Insert__api_Rule_F.B [1, 1, 1, 1, 1, 0, 1, 0, 0])) (i := 0 + 2) (t := t) (h := h) (ty := 22) (e := 51) (x := .tmp 23) (y := .tmp 24) (o := 0) (k := 1000000) (rows := List.map Rule.av A) (rows2 := List.map Rule.av [x]) (f := f) (k' := 1000001) hG hop (by kernel_rfl) hei (by omega) (by omega) hx ho hy hnb (by rw [List.length_map, List.length_map, ← hS4]; exact hfit) (by omega) (fun hq => .inl (by omega))
  rw [← List.map_append] at L
  refine LK.op [25] (t' := [(25, .own 0 1000001)]) (L _ _ (by kernel_rfl) (by kernel_rfl) (by kernel_rfl) (by kernel_rfl) (by kernel_rfl)) (by kernel_rfl) rfl ?_
  refine LK.seg hG 1 [6] (t' := [(6, .own 0 1000001)]) (h' := [.row 51 (List.map Rule.av (A ++ [x])) 1000001 true]) (by kernel_rfl) rfl ?_
  refine LK.done (by kernel_rfl) ?_
  exact AR.ret hG Try.func69 (by kernel_rfl) 1 (by omega) (aas := [.own 0 1000001]) (bs := [.own 0 1000001]) (by kernel_rfl) (by kernel_rfl) (by kernel_rfl) (by kernel_rfl) (by kernel_rfl)

end Go.Proofs.Ytlfiemphadkimaa

set_option linter.unusedVariables false
set_option linter.unusedSimpArgs false
set_option maxRecDepth 100000
set_option maxHeartbeats 4000000
namespace Go.Proofs.Ytlfiemphadkimaa
open Go.Sh

def slices_Insert__api_Rule_good (n i : Nat) (cur xs : List Value) (c' : Nat) (L : List Value) : Prop :=
  n + 1 ≤ c' ∧ c' ≤ maxLen ∧ L.length = c' * 32 ∧ L.take ((n + 1) * 32) = cur.take (i * 32) ++ xs ++ (cur.drop (i * 32)).take ((n - i) * 32)
def slices_Insert__api_Rule_R (n i c : Nat) (cur xs : List Value) (ex : AO) (c0 : Ctx) (e : Ending) (w : World) : Prop :=
  (∃ L, slices_Insert__api_Rule_good n i cur xs c L ∧ Rp tab.S c0 (rs 0 0 (n + 1) c) [rawO 51 L, ex] e w) ∨
  ∃ nc L, slices_Insert__api_Rule_good n i cur xs nc L ∧ Rp tab.S c0 (rs 2 0 (n + 1) nc) [rawO 51 cur, ex, rawO 51 L] e w
theorem slices_Insert__api_Rule_mid (n i c ov cv : Nat) (cur cur2 : List Value) (te2 : TypeId) (fr2 : Nat × Nat) (c0 : Ctx) (hc0 : c0.m.length = 2) (hi : i < n) (hnc : n ≤ c) (hcm : c ≤ maxLen) (hcl : cur.length = c * 32) (hc2 : ov + 32 ≤ cur2.length)
    (hone : ∀ v ∈ (cur.drop (i * 32)).take ((n - i) * 32), v.oneCell' = true) (hone2 : ∀ v ∈ (cur2.drop ov).take 32, v.oneCell' = true) (hfit : (n + 1) * 272 ≤ reach) :
    AR Try.prog tab slices_Insert__api_Rule_F c0 (slices_Insert__api_Rule_R n i c cur ((cur2.drop ov).take 32) (exO (.cells cur2.toArray te2 fr2)) c0) [.code []] [(0, rs 0 0 n c), (1, .sc (.int .i64 (i : Int))), (2, rs 1 ov 1 cv)] [rawO 51 cur, exO (.cells cur2.toArray te2 fr2)] := by
  have hG := tab_ok
  have hm := mixed
  have hreach : (n + 1) * 272 ≤ 140737488355328 := hfit
  have hw1 : IntKind.i64.wrap ((n : Int) + 1) = ((n + 1 : Nat) : Int) := by rw [wrap_eq (by omega) (by omega)]; rfl
  have hw2 : IntKind.i64.wrap ((i : Int) + 1) = ((i + 1 : Nat) : Int) := by rw [wrap_eq (by omega) (by omega)]; rfl
  have hw3 : IntKind.i64.wrap (((n + 1 : Nat) : Int) - (i : Int)) = ((n + 1 - i : Nat) : Int) := by rw [wrap_eq (by omega) (by omega)]; omega
  have hx : ((cur2.drop ov).take 32).length = 32 := by rw [List.length_take, List.length_drop]; omega
  have hx1 : (cur2.drop ov).take (1 * 32) = (cur2.drop ov).take 32 := by rw [Nat.one_mul]
  have en1 : (n + 1) * 32 = i * 32 + 32 + (n - i) * 32 := by omega
  have ei1 : (i + 1) * 32 = i * 32 + 32 := by omega
  refine AR.seg hG hm 3 [0, 1, 2] (k' := [.code [1, 0], .code [1, 1]]) (t' := [(0, rs 0 0 n c), (1, .sc (.int .i64 (i : Int))), (2, rs 1 ov 1 cv)]) (h' := [rawO 51 cur, exO (.cells cur2.toArray te2 fr2)]) (by kernel_rfl) ?_
  refine AR.regK (by kernel_rfl) ?_
  refine LK.seg hG 2 [0, 1, 2, 10, 11] (t' := [(0, rs 0 0 n c), (1, .sc (.int .i64 (i : Int))), (2, rs 1 ov 1 cv), (10, rs 0 0 n c), (11, .sc (.int .i64 (i : Int)))]) (h' := [rawO 51 cur, exO (.cells cur2.toArray te2 fr2)]) (by kernel_rfl) rfl ?_
  refine LK.op [0, 1, 2] (t' := [(0, rs 0 0 n c), (1, .sc (.int .i64 (i : Int))), (2, rs 1 ov 1 cv)]) (h' := [rawO 51 cur, exO (.cells cur2.toArray te2 fr2)]) (LSpec.sliceRaw hG (ty := 22) (e := 51) (x := .tmp 10) (lo := some (.tmp 11)) (hi := none) (o := 0) (off := 0) (len := n) (c := c) (i) (n) 32 (by kernel_rfl) (by kernel_rfl) (by kernel_rfl) (by kernel_rfl) (by kernel_rfl) (⟨.i64, by kernel_rfl⟩) (rfl) (by omega) (by omega) (by omega)) (by kernel_rfl) rfl ?_
  refine LK.done (by kernel_rfl) ?_
  refine AR.seg hG hm 1 [0, 1, 2] (k' := [.code [1, 1, 0], .code [1, 1, 1]]) (t' := [(0, rs 0 0 n c), (1, .sc (.int .i64 (i : Int))), (2, rs 1 ov 1 cv)]) (h' := [rawO 51 cur, exO (.cells cur2.toArray te2 fr2)]) (by kernel_rfl) ?_
  refine AR.regK (by kernel_rfl) ?_
  refine LK.seg hG 1 [0, 1, 2, 13] (t' := [(0, rs 0 0 n c), (1, .sc (.int .i64 (i : Int))), (2, rs 1 ov 1 cv), (13, rs 1 ov 1 cv)]) (h' := [rawO 51 cur, exO (.cells cur2.toArray te2 fr2)]) (by kernel_rfl) rfl ?_
  refine LK.op [0, 1, 2, 14] (t' := [(0, rs 0 0 n c), (1, .sc (.int .i64 (i : Int))), (2, rs 1 ov 1 cv), (14, .sc (.int .i64 ((1 : Nat) : Int)))]) (h' := [rawO 51 cur, exO (.cells cur2.toArray te2 fr2)]) (LSpec.lenRaw hG (ty := 22) (e := 51) (x := .tmp 13) (o := 1) (off := ov) (len := 1) (c := cv) (by kernel_rfl) (by kernel_rfl) (by kernel_rfl)) (by kernel_rfl) rfl ?_
  refine LK.seg hG 1 [0, 1, 2, 7] (t' := [(0, rs 0 0 n c), (1, .sc (.int .i64 (i : Int))), (2, rs 1 ov 1 cv), (7, .sc (.int .i64 1))]) (h' := [rawO 51 cur, exO (.cells cur2.toArray te2 fr2)]) (by kernel_rfl) rfl ?_
  refine LK.done (by kernel_rfl) ?_
  refine AR.seg hG hm 3 [0, 1, 2, 7, 16] (k' := [.code [1, 1, 1, 0, 1], .code [1, 1, 1, 1]]) (t' := [(0, rs 0 0 n c), (1, .sc (.int .i64 (i : Int))), (2, rs 1 ov 1 cv), (7, .sc (.int .i64 1)), (16, .sc (.bool false))]) (h' := [rawO 51 cur, exO (.cells cur2.toArray te2 fr2)]) (by kernel_rfl) ?_
  refine AR.cond (.tmp 16) false (by kernel_rfl) (by kernel_rfl) (fun hb => by cases hb) (fun _ => ?_)
  refine AR.seg hG hm 2 [0, 1, 2, 7] (k' := [.code [1, 1, 1, 1, 0], .code [1, 1, 1, 1, 1]]) (t' := [(0, rs 0 0 n c), (1, .sc (.int .i64 (i : Int))), (2, rs 1 ov 1 cv), (7, .sc (.int .i64 1))]) (h' := [rawO 51 cur, exO (.cells cur2.toArray te2 fr2)]) (by kernel_rfl) ?_
  refine AR.regK (by kernel_rfl) ?_
  refine LK.seg hG 1 [0, 1, 2, 7, 18] (t' := [(0, rs 0 0 n c), (1, .sc (.int .i64 (i : Int))), (2, rs 1 ov 1 cv), (7, .sc (.int .i64 1)), (18, rs 0 0 n c)]) (h' := [rawO 51 cur, exO (.cells cur2.toArray te2 fr2)]) (by kernel_rfl) rfl ?_
  refine LK.op [0, 1, 2, 7, 19] (t' := [(0, rs 0 0 n c), (1, .sc (.int .i64 (i : Int))), (2, rs 1 ov 1 cv), (7, .sc (.int .i64 1)), (19, .sc (.int .i64 (n : Int)))]) (h' := [rawO 51 cur, exO (.cells cur2.toArray te2 fr2)]) (LSpec.lenRaw hG (ty := 22) (e := 51) (x := .tmp 18) (o := 0) (off := 0) (len := n) (c := c) (by kernel_rfl) (by kernel_rfl) (by kernel_rfl)) (by kernel_rfl) rfl ?_
  refine LK.seg hG 1 [0, 1, 2, 7, 8] (t' := [(0, rs 0 0 n c), (1, .sc (.int .i64 (i : Int))), (2, rs 1 ov 1 cv), (7, .sc (.int .i64 1)), (8, .sc (.int .i64 (n : Int)))]) (h' := [rawO 51 cur, exO (.cells cur2.toArray te2 fr2)]) (by kernel_rfl) rfl ?_
  refine LK.done (by kernel_rfl) ?_
  refine AR.seg hG hm 3 [0, 1, 2, 7, 8, 22] (k' := [.code [1, 1, 1, 1, 1, 0, 1], .code [1, 1, 1, 1, 1, 1]]) (t' := [(0, rs 0 0 n c), (1, .sc (.int .i64 (i : Int))), (2, rs 1 ov 1 cv), (7, .sc (.int .i64 1)), (8, .sc (.int .i64 (n : Int))), (22, .sc (.bool ((i : Int) == (n : Int))))]) (h' := [rawO 51 cur, exO (.cells cur2.toArray te2 fr2)]) (by kernel_rfl) ?_
  refine AR.cond (.tmp 22) ((i : Int) == (n : Int)) (by kernel_rfl) (by kernel_rfl) (fun hb => absurd hb (by simp; omega)) (fun _ => ?_)
  refine AR.seg hG hm 3 [0, 1, 2, 7, 8] (k' := [.code [1, 1, 1, 1, 1, 1, 0, 0], .code [1, 1, 1, 1, 1, 1, 0, 1], .code [1, 1, 1, 1, 1, 1, 1]]) (t' := [(0, rs 0 0 n c), (1, .sc (.int .i64 (i : Int))), (2, rs 1 ov 1 cv), (7, .sc (.int .i64 1)), (8, .sc (.int .i64 (n : Int)))]) (h' := [rawO 51 cur, exO (.cells cur2.toArray te2 fr2)]) (by kernel_rfl) ?_
  refine AR.regK (by kernel_rfl) ?_
  refine LK.seg hG 4 [0, 1, 2, 7, 8, 28, 29] (t' := [(0, rs 0 0 n c), (1, .sc (.int .i64 (i : Int))), (2, rs 1 ov 1 cv), (7, .sc (.int .i64 1)), (8, .sc (.int .i64 (n : Int))), (28, .sc (.int .i64 (IntKind.i64.wrap ((n : Int) + 1)))), (29, rs 0 0 n c)]) (h' := [rawO 51 cur, exO (.cells cur2.toArray te2 fr2)]) (by kernel_rfl) rfl ?_
  refine LK.op [0, 1, 2, 7, 8, 28, 30] (t' := [(0, rs 0 0 n c), (1, .sc (.int .i64 (i : Int))), (2, rs 1 ov 1 cv), (7, .sc (.int .i64 1)), (8, .sc (.int .i64 (n : Int))), (28, .sc (.int .i64 (IntKind.i64.wrap ((n : Int) + 1)))), (30, .sc (.int .i64 (c : Int)))]) (h' := [rawO 51 cur, exO (.cells cur2.toArray te2 fr2)]) (LSpec.capRaw hG (ty := 22) (e := 51) (x := .tmp 29) (o := 0) (off := 0) (len := n) (c := c) (by kernel_rfl) (by kernel_rfl) (by kernel_rfl)) (by kernel_rfl) rfl ?_
  refine LK.seg hG 1 [0, 1, 2, 7, 8, 31] (t' := [(0, rs 0 0 n c), (1, .sc (.int .i64 (i : Int))), (2, rs 1 ov 1 cv), (7, .sc (.int .i64 1)), (8, .sc (.int .i64 (n : Int))), (31, .sc (.bool (decide (IntKind.i64.wrap ((n : Int) + 1) > (c : Int)))))]) (h' := [rawO 51 cur, exO (.cells cur2.toArray te2 fr2)]) (by kernel_rfl) rfl ?_
  refine LK.done (by kernel_rfl) ?_
  refine AR.cond (.tmp 31) (decide (IntKind.i64.wrap ((n : Int) + 1) > (c : Int))) (by kernel_rfl) (by kernel_rfl) (fun hb => ?B) (fun hb => ?C)
  case B =>
    have hgt : c < n + 1 := by have := of_decide_eq_true hb; rw [hw1] at this; omega
    refine AR.post (fun e w hq => .inr hq) ?_
    refine AR.seg hG hm 1 [0, 1, 2, 7, 8] (k' := [.code [1, 1, 1, 1, 1, 1, 0, 1, 0, 0], .code [1, 1, 1, 1, 1, 1, 0, 1, 0, 1], .code [1, 1, 1, 1, 1, 1, 1]]) (t' := [(0, rs 0 0 n c), (1, .sc (.int .i64 (i : Int))), (2, rs 1 ov 1 cv), (7, .sc (.int .i64 1)), (8, .sc (.int .i64 (n : Int)))]) (h' := [rawO 51 cur, exO (.cells cur2.toArray te2 fr2)]) (by kernel_rfl) ?_
    refine AR.regK (by kernel_rfl) ?_
    refine LK.seg hG 2 [0, 1, 2, 7, 8, 32, 33] (t' := [(0, rs 0 0 n c), (1, .sc (.int .i64 (i : Int))), (2, rs 1 ov 1 cv), (7, .sc (.int .i64 1)), (8, .sc (.int .i64 (n : Int))), (32, rs 0 0 n c), (33, .sc (.int .i64 (i : Int)))]) (h' := [rawO 51 cur, exO (.cells cur2.toArray te2 fr2)]) (by kernel_rfl) rfl ?_
    refine LK.op [0, 1, 2, 7, 8, 34] (t' := [(0, rs 0 0 n c), (1, .sc (.int .i64 (i : Int))), (2, rs 1 ov 1 cv), (7, .sc (.int .i64 1)), (8, .sc (.int .i64 (n : Int))), (34, rs 0 0 i c)]) (h' := [rawO 51 cur, exO (.cells cur2.toArray te2 fr2)]) (LSpec.sliceRaw hG (ty := 22) (e := 51) (x := .tmp 32) (lo := none) (hi := some (.tmp 33)) (o := 0) (off := 0) (len := n) (c := c) (0) (i) 32 (by kernel_rfl) (by kernel_rfl) (by kernel_rfl) (by kernel_rfl) (by kernel_rfl) (rfl) (⟨.i64, by kernel_rfl⟩) (by omega) (by omega) (.inr rfl)) (by kernel_rfl) rfl ?_
    refine LK.seg hG 3 [0, 1, 2, 7, 8, 34, 37] (t' := [(0, rs 0 0 n c), (1, .sc (.int .i64 (i : Int))), (2, rs 1 ov 1 cv), (7, .sc (.int .i64 1)), (8, .sc (.int .i64 (n : Int))), (34, rs 0 0 i c), (37, .sc (.int .i64 (IntKind.i64.wrap ((n : Int) + 1))))]) (h' := [rawO 51 cur, exO (.cells cur2.toArray te2 fr2)]) (by kernel_rfl) rfl ?_
    rw [hw1]
    refine LK.seg hG 2 [0, 1, 2, 7, 8, 34, 39] (t' := [(0, rs 0 0 n c), (1, .sc (.int .i64 (i : Int))), (2, rs 1 ov 1 cv), (7, .sc (.int .i64 1)), (8, .sc (.int .i64 (n : Int))), (34, rs 0 0 i c), (39, .sc (.int .i64 (IntKind.i64.wrap (((n + 1 : Nat) : Int) - (i : Int)))))]) (h' := [rawO 51 cur, exO (.cells cur2.toArray te2 fr2)]) (by kernel_rfl) rfl ?_
    rw [hw3]
    refine LK.appendMake hG (cur := cur) (te := 51) (ty := 22) (tn := 3) (e := 51) (x := .tmp 34) (y := .tmp 39) (o := 0) (off := 0) (len := i) (c := c) (sz := 32) (by_ := 272) (kk := .i64) (kn := .i64) (n + 1 - i) (by kernel_rfl) (by kernel_rfl) (by kernel_rfl) (by kernel_rfl) (by kernel_rfl) (by kernel_rfl) (by kernel_rfl) (by kernel_rfl) (by omega) (by omega) (by omega) (by omega) (by rw [show i + (n + 1 - i) = n + 1 by omega]; exact hfit) (by omega) ?_
    intro nc za zb hn1 hn2 hza hzb
    rw [show i + (n + 1 - i) = n + 1 by omega] at hn1 hzb ⊢
    obtain ⟨L0, hL0⟩ : ∃ L0, (cur.drop 0).take (i * 32) ++ za ++ zb = L0 := ⟨_, rfl⟩
    rw [hL0]
    refine LK.seg hG 1 [0, 1, 2, 7, 9] (t' := [(0, rs 0 0 n c), (1, .sc (.int .i64 (i : Int))), (2, rs 1 ov 1 cv), (7, .sc (.int .i64 1)), (9, rs 2 0 (n + 1) nc)]) (h' := [rawO 51 cur, exO (.cells cur2.toArray te2 fr2), rawO 51 L0]) (by kernel_rfl) rfl ?_
    refine LK.done (by kernel_rfl) ?_
    refine AR.seg hG hm 1 [0, 1, 2, 7, 9] (k' := [.code [1, 1, 1, 1, 1, 1, 0, 1, 0, 1, 0], .code [1, 1, 1, 1, 1, 1, 0, 1, 0, 1, 1], .code [1, 1, 1, 1, 1, 1, 1]]) (t' := [(0, rs 0 0 n c), (1, .sc (.int .i64 (i : Int))), (2, rs 1 ov 1 cv), (7, .sc (.int .i64 1)), (9, rs 2 0 (n + 1) nc)]) (h' := [rawO 51 cur, exO (.cells cur2.toArray te2 fr2), rawO 51 L0]) (by kernel_rfl) ?_
    refine AR.regK (by kernel_rfl) ?_
    refine LK.seg hG 2 [0, 1, 2, 7, 9, 41, 42] (t' := [(0, rs 0 0 n c), (1, .sc (.int .i64 (i : Int))), (2, rs 1 ov 1 cv), (7, .sc (.int .i64 1)), (9, rs 2 0 (n + 1) nc), (41, rs 2 0 (n + 1) nc), (42, .sc (.int .i64 (i : Int)))]) (h' := [rawO 51 cur, exO (.cells cur2.toArray te2 fr2), rawO 51 L0]) (by kernel_rfl) rfl ?_
    refine LK.op [0, 1, 2, 7, 9, 43] (t' := [(0, rs 0 0 n c), (1, .sc (.int .i64 (i : Int))), (2, rs 1 ov 1 cv), (7, .sc (.int .i64 1)), (9, rs 2 0 (n + 1) nc), (43, rs 2 (0 + i * 32) (n + 1 - i) (nc - i))]) (h' := [rawO 51 cur, exO (.cells cur2.toArray te2 fr2), rawO 51 L0]) (LSpec.sliceRaw hG (ty := 22) (e := 51) (x := .tmp 41) (lo := some (.tmp 42)) (hi := none) (o := 2) (off := 0) (len := n + 1) (c := nc) (i) (n + 1) 32 (by kernel_rfl) (by kernel_rfl) (by kernel_rfl) (by kernel_rfl) (by kernel_rfl) (⟨.i64, by kernel_rfl⟩) (rfl) (by omega) (by omega) (by omega)) (by kernel_rfl) rfl ?_
    refine LK.seg hG 1 [0, 1, 2, 7, 9, 43, 44] (t' := [(0, rs 0 0 n c), (1, .sc (.int .i64 (i : Int))), (2, rs 1 ov 1 cv), (7, .sc (.int .i64 1)), (9, rs 2 0 (n + 1) nc), (43, rs 2 (0 + i * 32) (n + 1 - i) (nc - i)), (44, rs 1 ov 1 cv)]) (h' := [rawO 51 cur, exO (.cells cur2.toArray te2 fr2), rawO 51 L0]) (by kernel_rfl) rfl ?_
    have l0 : L0.length = nc * 32 := by rw [← hL0, List.length_append, List.length_append, List.length_take, List.length_drop, hza, hzb]; omega
    refine LK.op [0, 1, 2, 7, 9] (t' := [(0, rs 0 0 n c), (1, .sc (.int .i64 (i : Int))), (2, rs 1 ov 1 cv), (7, .sc (.int .i64 1)), (9, rs 2 0 (n + 1) nc)]) (h' := [rawO 51 cur, exO (.cells cur2.toArray te2 fr2), rawO 51 (L0.take (0 + i * 32) ++ (cur2.drop ov).take (1 * 32) ++ L0.drop (0 + i * 32 + 1 * 32))]) (LSpec.copyRaw hG (ty := 22) (ty2 := 22) (e := 51) (te := 51) (te2 := te2) (x := .tmp 43) (y := .tmp 44) (o := 2) (off := 0 + i * 32) (dn := n + 1 - i) (dc := nc - i) (o2 := 1) (off2 := ov) (sn := 1) (sc := cv) (k := 1) (sz := 32) (cur := L0) (cur2 := cur2) (fr2 := fr2) (by kernel_rfl) (by kernel_rfl) (by kernel_rfl) (by kernel_rfl) (by kernel_rfl) (by kernel_rfl) (by kernel_rfl) (by kernel_rfl) (by omega) (by omega) (by omega) (by rw [hx1]; exact hone2)) (by kernel_rfl) rfl ?_
    refine LK.done (by kernel_rfl) ?_
    obtain ⟨L1, hL1⟩ : ∃ L1, L0.take (0 + i * 32) ++ (cur2.drop ov).take (1 * 32) ++ L0.drop (0 + i * 32 + 1 * 32) = L1 := ⟨_, rfl⟩
    rw [hL1]
    have l1 : L1.length = nc * 32 := by rw [← hL1, List.length_append, List.length_append, List.length_take, List.length_drop, hx1, hx]; omega
    refine AR.seg hG hm 1 [0, 1, 7, 9] (k' := [.code [1, 1, 1, 1, 1, 1, 0, 1, 0, 1, 1, 0], .code [1, 1, 1, 1, 1, 1, 0, 1, 0, 1, 1, 1], .code [1, 1, 1, 1, 1, 1, 1]]) (t' := [(0, rs 0 0 n c), (1, .sc (.int .i64 (i : Int))), (7, .sc (.int .i64 1)), (9, rs 2 0 (n + 1) nc)]) (h' := [rawO 51 cur, exO (.cells cur2.toArray te2 fr2), rawO 51 L1]) (by kernel_rfl) ?_
    refine AR.reg hm [.pure, .pure, .pure, .pure, .pure, .pure, .pure, .pure, .loud] (by kernel_rfl) ?_
    refine DK.seg hG 4 [0, 1, 7, 9, 46, 49] (t' := [(0, rs 0 0 n c), (1, .sc (.int .i64 (i : Int))), (7, .sc (.int .i64 1)), (9, rs 2 0 (n + 1) nc), (46, rs 2 0 (n + 1) nc), (49, .sc (.int .i64 (IntKind.i64.wrap ((i : Int) + 1))))]) (h' := [rawO 51 cur, exO (.cells cur2.toArray te2 fr2), rawO 51 L1]) (by kernel_rfl) rfl ?_
    rw [hw2]
    refine DK.op' [0, 1, 7, 9, 50] (t' := [(0, rs 0 0 n c), (1, .sc (.int .i64 (i : Int))), (7, .sc (.int .i64 1)), (9, rs 2 0 (n + 1) nc), (50, rs 2 (0 + (i + 1) * 32) (n + 1 - (i + 1)) (nc - (i + 1)))]) (h' := [rawO 51 cur, exO (.cells cur2.toArray te2 fr2), rawO 51 L1]) (LSpec.sliceRaw hG (ty := 22) (e := 51) (x := .tmp 46) (lo := some (.tmp 49)) (hi := none) (o := 2) (off := 0) (len := n + 1) (c := nc) (i + 1) (n + 1) 32 (by kernel_rfl) (by kernel_rfl) (by kernel_rfl) (by kernel_rfl) (by kernel_rfl) (⟨.i64, by kernel_rfl⟩) (rfl) (by omega) (by omega) (by omega)) (by kernel_rfl) rfl (by kernel_rfl) rfl ?_
    refine DK.seg hG 2 [0, 1, 7, 9, 50, 51, 52] (t' := [(0, rs 0 0 n c), (1, .sc (.int .i64 (i : Int))), (7, .sc (.int .i64 1)), (9, rs 2 0 (n + 1) nc), (50, rs 2 (0 + (i + 1) * 32) (n + 1 - (i + 1)) (nc - (i + 1))), (51, rs 0 0 n c), (52, .sc (.int .i64 (i : Int)))]) (h' := [rawO 51 cur, exO (.cells cur2.toArray te2 fr2), rawO 51 L1]) (by kernel_rfl) rfl ?_
    refine DK.op' [0, 1, 7, 9, 50, 53] (t' := [(0, rs 0 0 n c), (1, .sc (.int .i64 (i : Int))), (7, .sc (.int .i64 1)), (9, rs 2 0 (n + 1) nc), (50, rs 2 (0 + (i + 1) * 32) (n + 1 - (i + 1)) (nc - (i + 1))), (53, rs 0 (0 + i * 32) (n - i) (c - i))]) (h' := [rawO 51 cur, exO (.cells cur2.toArray te2 fr2), rawO 51 L1]) (LSpec.sliceRaw hG (ty := 22) (e := 51) (x := .tmp 51) (lo := some (.tmp 52)) (hi := none) (o := 0) (off := 0) (len := n) (c := c) (i) (n) 32 (by kernel_rfl) (by kernel_rfl) (by kernel_rfl) (by kernel_rfl) (by kernel_rfl) (⟨.i64, by kernel_rfl⟩) (rfl) (by omega) (by omega) (by omega)) (by kernel_rfl) rfl (by kernel_rfl) rfl ?_
    refine DK.op' [9] (t' := [(9, rs 2 0 (n + 1) nc)]) (h' := [rawO 51 cur, exO (.cells cur2.toArray te2 fr2), rawO 51 (L1.take (0 + (i + 1) * 32) ++ (cur.drop (0 + i * 32)).take ((n - i) * 32) ++ L1.drop (0 + (i + 1) * 32 + (n - i) * 32))]) (LSpec.copyRaw hG (ty := 22) (ty2 := 22) (e := 51) (te := 51) (te2 := 51) (x := .tmp 50) (y := .tmp 53) (o := 2) (off := 0 + (i + 1) * 32) (dn := n + 1 - (i + 1)) (dc := nc - (i + 1)) (o2 := 0) (off2 := 0 + i * 32) (sn := n - i) (sc := c - i) (k := n - i) (sz := 32) (cur := L1) (cur2 := cur) (fr2 := (0, 0)) (by kernel_rfl) (by kernel_rfl) (by kernel_rfl) (by kernel_rfl) (by kernel_rfl) (by kernel_rfl) (by kernel_rfl) (by kernel_rfl) (by omega) (by omega) (by omega) (by rw [Nat.zero_add]; exact hone)) (by kernel_rfl) (by kernel_rfl) (by kernel_rfl) rfl ?_
    refine DK.done (by kernel_rfl) (by kernel_rfl) ?_
    refine AR.seg hG hm 2 [6] (k' := [.code [1, 1, 1, 1, 1, 1, 0, 1, 0, 1, 1, 1, 1], .code [1, 1, 1, 1, 1, 1, 1]]) (t' := [(6, rs 2 0 (n + 1) nc)]) (h' := [rawO 51 cur, exO (.cells cur2.toArray te2 fr2), rawO 51 (L1.take (0 + (i + 1) * 32) ++ (cur.drop (0 + i * 32)).take ((n - i) * 32) ++ L1.drop (0 + (i + 1) * 32 + (n - i) * 32))]) (by kernel_rfl) ?_
    refine AR.post (fun e w hq => ⟨nc, L1.take (0 + (i + 1) * 32) ++ (cur.drop (0 + i * 32)).take ((n - i) * 32) ++ L1.drop (0 + (i + 1) * 32 + (n - i) * 32), ?_, hq⟩) (AR.ret hG Try.func69 (by kernel_rfl) 3 (by omega) (aas := [rs 2 0 (n + 1) nc]) (bs := [rs 2 0 (n + 1) nc]) (by kernel_rfl) (by kernel_rfl) (by kernel_rfl) (by kernel_rfl) (by kernel_rfl))
    have hs := splice_grow cur ((cur2.drop ov).take 32) za zb (i * 32) 32 ((n - i) * 32) (by omega) hx (by omega) L0 L1 (L1.take (0 + (i + 1) * 32) ++ (cur.drop (0 + i * 32)).take ((n - i) * 32) ++ L1.drop (0 + (i + 1) * 32 + (n - i) * 32)) (by rw [← hL0, List.drop_zero]) (by rw [← hL1, hx1, Nat.zero_add, Nat.one_mul]) (by rw [Nat.zero_add, Nat.zero_add, ei1])
    refine ⟨hn1, hn2, ?_, ?_⟩
    · rw [hs.2, hzb]; omega
    · rw [en1]; exact hs.1
  case C =>
    have hle : n + 1 ≤ c := by have := of_decide_eq_false hb; rw [hw1] at this; omega
    refine AR.post (fun e w hq => .inl hq) ?_
    refine AR.seg hG hm 2 [0, 1, 2, 7, 8] (k' := [.code [1, 1, 1, 1, 1, 1, 1, 0], .code [1, 1, 1, 1, 1, 1, 1, 1]]) (t' := [(0, rs 0 0 n c), (1, .sc (.int .i64 (i : Int))), (2, rs 1 ov 1 cv), (7, .sc (.int .i64 1)), (8, .sc (.int .i64 (n : Int)))]) (h' := [rawO 51 cur, exO (.cells cur2.toArray te2 fr2)]) (by kernel_rfl) ?_
    refine AR.regK (by kernel_rfl) ?_
    refine LK.seg hG 4 [1, 2, 7, 56, 59] (t' := [(1, .sc (.int .i64 (i : Int))), (2, rs 1 ov 1 cv), (7, .sc (.int .i64 1)), (56, rs 0 0 n c), (59, .sc (.int .i64 (IntKind.i64.wrap ((n : Int) + 1))))]) (h' := [rawO 51 cur, exO (.cells cur2.toArray te2 fr2)]) (by kernel_rfl) rfl ?_
    rw [hw1]
    refine LK.op [1, 2, 7, 60] (t' := [(1, .sc (.int .i64 (i : Int))), (2, rs 1 ov 1 cv), (7, .sc (.int .i64 1)), (60, rs 0 0 (n + 1) c)]) (h' := [rawO 51 cur, exO (.cells cur2.toArray te2 fr2)]) (LSpec.sliceRaw hG (ty := 22) (e := 51) (x := .tmp 56) (lo := none) (hi := some (.tmp 59)) (o := 0) (off := 0) (len := n) (c := c) (0) (n + 1) 32 (by kernel_rfl) (by kernel_rfl) (by kernel_rfl) (by kernel_rfl) (by kernel_rfl) (rfl) (⟨.i64, by kernel_rfl⟩) (by omega) (by omega) (.inr rfl)) (by kernel_rfl) rfl ?_
    refine LK.seg hG 1 [0, 1, 2, 7] (t' := [(0, rs 0 0 (n + 1) c), (1, .sc (.int .i64 (i : Int))), (2, rs 1 ov 1 cv), (7, .sc (.int .i64 1))]) (h' := [rawO 51 cur, exO (.cells cur2.toArray te2 fr2)]) (by kernel_rfl) rfl ?_
    refine LK.done (by kernel_rfl) ?_
    refine AR.seg hG hm 2 [0, 1, 2, 7] (k' := [.code [1, 1, 1, 1, 1, 1, 1, 1, 0, 0], .code [1, 1, 1, 1, 1, 1, 1, 1, 0, 1], .code [1, 1, 1, 1, 1, 1, 1, 1, 1]]) (t' := [(0, rs 0 0 (n + 1) c), (1, .sc (.int .i64 (i : Int))), (2, rs 1 ov 1 cv), (7, .sc (.int .i64 1))]) (h' := [rawO 51 cur, exO (.cells cur2.toArray te2 fr2)]) (by kernel_rfl) ?_
    refine AR.regK (by kernel_rfl) ?_
    refine LK.seg hG 5 [0, 1, 2, 7, 61, 62, 65] (t' := [(0, rs 0 0 (n + 1) c), (1, .sc (.int .i64 (i : Int))), (2, rs 1 ov 1 cv), (7, .sc (.int .i64 1)), (61, rs 1 ov 1 cv), (62, rs 0 0 (n + 1) c), (65, .sc (.int .i64 (IntKind.i64.wrap ((i : Int) + 1))))]) (h' := [rawO 51 cur, exO (.cells cur2.toArray te2 fr2)]) (by kernel_rfl) rfl ?_
    rw [hw2]
    refine LK.op [0, 1, 2, 7, 61, 66] (t' := [(0, rs 0 0 (n + 1) c), (1, .sc (.int .i64 (i : Int))), (2, rs 1 ov 1 cv), (7, .sc (.int .i64 1)), (61, rs 1 ov 1 cv), (66, rs 0 (0 + (i + 1) * 32) (n + 1 - (i + 1)) (c - (i + 1)))]) (h' := [rawO 51 cur, exO (.cells cur2.toArray te2 fr2)]) (LSpec.sliceRaw hG (ty := 22) (e := 51) (x := .tmp 62) (lo := some (.tmp 65)) (hi := none) (o := 0) (off := 0) (len := n + 1) (c := c) (i + 1) (n + 1) 32 (by kernel_rfl) (by kernel_rfl) (by kernel_rfl) (by kernel_rfl) (by kernel_rfl) (⟨.i64, by kernel_rfl⟩) (rfl) (by omega) (by omega) (by omega)) (by kernel_rfl) rfl ?_
    refine LK.op [0, 1, 2, 7, 67] (t' := [(0, rs 0 0 (n + 1) c), (1, .sc (.int .i64 (i : Int))), (2, rs 1 ov 1 cv), (7, .sc (.int .i64 1)), (67, .sc (.bool false))]) (h' := [rawO 51 cur, exO (.cells cur2.toArray te2 fr2)]) (LSpec.overlapsRaw hG (ts := #[22, 22]) (tR := 4) (tS := 22) (e := 51) (te := 51) (te2 := te2) (fc := .func 81) (x := .tmp 61) (y := .tmp 66) (o := 0) (off := 0 + (i + 1) * 32) (ln := n + 1 - (i + 1)) (cp := c - (i + 1)) (o2 := 1) (off2 := ov) (ln2 := 1) (cp2 := cv) (cur := cur) (cur2 := cur2) (fr2 := fr2) (by kernel_rfl) (by kernel_rfl) slices_Insert__api_Rule_over (by kernel_rfl) (by kernel_rfl) (by kernel_rfl) (by kernel_rfl) (by kernel_rfl) (by kernel_rfl) (by omega) (by omega)) (by kernel_rfl) rfl ?_
    refine LK.seg hG 1 [0, 1, 2, 7, 68] (t' := [(0, rs 0 0 (n + 1) c), (1, .sc (.int .i64 (i : Int))), (2, rs 1 ov 1 cv), (7, .sc (.int .i64 1)), (68, .sc (.bool true))]) (h' := [rawO 51 cur, exO (.cells cur2.toArray te2 fr2)]) (by kernel_rfl) rfl ?_
    refine LK.done (by kernel_rfl) ?_
    refine AR.cond (.tmp 68) true (by kernel_rfl) (by kernel_rfl) (fun _ => ?_) (fun hb => by cases hb)
    refine AR.seg hG hm 1 [0, 1, 2, 7] (k' := [.code [1, 1, 1, 1, 1, 1, 1, 1, 0, 1, 0, 0], .code [1, 1, 1, 1, 1, 1, 1, 1, 0, 1, 0, 1], .code [1, 1, 1, 1, 1, 1, 1, 1, 1]]) (t' := [(0, rs 0 0 (n + 1) c), (1, .sc (.int .i64 (i : Int))), (2, rs 1 ov 1 cv), (7, .sc (.int .i64 1))]) (h' := [rawO 51 cur, exO (.cells cur2.toArray te2 fr2)]) (by kernel_rfl) ?_
    refine AR.reg hm [.pure, .pure, .pure, .pure, .pure, .pure, .pure, .pure, .loud] (by kernel_rfl) ?_
    refine DK.seg hG 4 [0, 1, 2, 7, 69, 72] (t' := [(0, rs 0 0 (n + 1) c), (1, .sc (.int .i64 (i : Int))), (2, rs 1 ov 1 cv), (7, .sc (.int .i64 1)), (69, rs 0 0 (n + 1) c), (72, .sc (.int .i64 (IntKind.i64.wrap ((i : Int) + 1))))]) (h' := [rawO 51 cur, exO (.cells cur2.toArray te2 fr2)]) (by kernel_rfl) rfl ?_
    rw [hw2]
    refine DK.op' [0, 1, 2, 7, 73] (t' := [(0, rs 0 0 (n + 1) c), (1, .sc (.int .i64 (i : Int))), (2, rs 1 ov 1 cv), (7, .sc (.int .i64 1)), (73, rs 0 (0 + (i + 1) * 32) (n + 1 - (i + 1)) (c - (i + 1)))]) (h' := [rawO 51 cur, exO (.cells cur2.toArray te2 fr2)]) (LSpec.sliceRaw hG (ty := 22) (e := 51) (x := .tmp 69) (lo := some (.tmp 72)) (hi := none) (o := 0) (off := 0) (len := n + 1) (c := c) (i + 1) (n + 1) 32 (by kernel_rfl) (by kernel_rfl) (by kernel_rfl) (by kernel_rfl) (by kernel_rfl) (⟨.i64, by kernel_rfl⟩) (rfl) (by omega) (by omega) (by omega)) (by kernel_rfl) rfl (by kernel_rfl) rfl ?_
    refine DK.seg hG 2 [0, 1, 2, 7, 73, 74, 75] (t' := [(0, rs 0 0 (n + 1) c), (1, .sc (.int .i64 (i : Int))), (2, rs 1 ov 1 cv), (7, .sc (.int .i64 1)), (73, rs 0 (0 + (i + 1) * 32) (n + 1 - (i + 1)) (c - (i + 1))), (74, rs 0 0 (n + 1) c), (75, .sc (.int .i64 (i : Int)))]) (h' := [rawO 51 cur, exO (.cells cur2.toArray te2 fr2)]) (by kernel_rfl) rfl ?_
    refine DK.op' [0, 1, 2, 7, 73, 76] (t' := [(0, rs 0 0 (n + 1) c), (1, .sc (.int .i64 (i : Int))), (2, rs 1 ov 1 cv), (7, .sc (.int .i64 1)), (73, rs 0 (0 + (i + 1) * 32) (n + 1 - (i + 1)) (c - (i + 1))), (76, rs 0 (0 + i * 32) (n + 1 - i) (c - i))]) (h' := [rawO 51 cur, exO (.cells cur2.toArray te2 fr2)]) (LSpec.sliceRaw hG (ty := 22) (e := 51) (x := .tmp 74) (lo := some (.tmp 75)) (hi := none) (o := 0) (off := 0) (len := n + 1) (c := c) (i) (n + 1) 32 (by kernel_rfl) (by kernel_rfl) (by kernel_rfl) (by kernel_rfl) (by kernel_rfl) (⟨.i64, by kernel_rfl⟩) (rfl) (by omega) (by omega) (by omega)) (by kernel_rfl) rfl (by kernel_rfl) rfl ?_
    refine DK.op' [0, 1, 2] (t' := [(0, rs 0 0 (n + 1) c), (1, .sc (.int .i64 (i : Int))), (2, rs 1 ov 1 cv)]) (h' := [rawO 51 (cur.take (0 + (i + 1) * 32) ++ (cur.drop (0 + i * 32)).take ((n - i) * 32) ++ cur.drop (0 + (i + 1) * 32 + (n - i) * 32)), exO (.cells cur2.toArray te2 fr2)]) (LSpec.copyRaw hG (ty := 22) (ty2 := 22) (e := 51) (te := 51) (te2 := 51) (x := .tmp 73) (y := .tmp 76) (o := 0) (off := 0 + (i + 1) * 32) (dn := n + 1 - (i + 1)) (dc := c - (i + 1)) (o2 := 0) (off2 := 0 + i * 32) (sn := n + 1 - i) (sc := c - i) (k := n - i) (sz := 32) (cur := cur) (cur2 := cur) (fr2 := (0, 0)) (by kernel_rfl) (by kernel_rfl) (by kernel_rfl) (by kernel_rfl) (by kernel_rfl) (by kernel_rfl) (by kernel_rfl) (by kernel_rfl) (by omega) (by omega) (by omega) (by rw [Nat.zero_add]; exact hone)) (by kernel_rfl) (by kernel_rfl) (by kernel_rfl) rfl ?_
    refine DK.done (by kernel_rfl) (by kernel_rfl) ?_
    obtain ⟨L1, hL1⟩ : ∃ L1, cur.take (0 + (i + 1) * 32) ++ (cur.drop (0 + i * 32)).take ((n - i) * 32) ++ cur.drop (0 + (i + 1) * 32 + (n - i) * 32) = L1 := ⟨_, rfl⟩
    rw [hL1]
    have l1 : L1.length = c * 32 := by rw [← hL1, List.length_append, List.length_append, List.length_take, List.length_take, List.length_drop, List.length_drop]; omega
    refine AR.seg hG hm 1 [0, 1, 2] (k' := [.code [1, 1, 1, 1, 1, 1, 1, 1, 0, 1, 0, 1, 0], .code [1, 1, 1, 1, 1, 1, 1, 1, 0, 1, 0, 1, 1], .code [1, 1, 1, 1, 1, 1, 1, 1, 1]]) (t' := [(0, rs 0 0 (n + 1) c), (1, .sc (.int .i64 (i : Int))), (2, rs 1 ov 1 cv)]) (h' := [rawO 51 L1, exO (.cells cur2.toArray te2 fr2)]) (by kernel_rfl) ?_
    refine AR.regK (by kernel_rfl) ?_
    refine LK.seg hG 2 [0, 1, 2, 78, 79] (t' := [(0, rs 0 0 (n + 1) c), (1, .sc (.int .i64 (i : Int))), (2, rs 1 ov 1 cv), (78, rs 0 0 (n + 1) c), (79, .sc (.int .i64 (i : Int)))]) (h' := [rawO 51 L1, exO (.cells cur2.toArray te2 fr2)]) (by kernel_rfl) rfl ?_
    refine LK.op [0, 1, 2, 80] (t' := [(0, rs 0 0 (n + 1) c), (1, .sc (.int .i64 (i : Int))), (2, rs 1 ov 1 cv), (80, rs 0 (0 + i * 32) (n + 1 - i) (c - i))]) (h' := [rawO 51 L1, exO (.cells cur2.toArray te2 fr2)]) (LSpec.sliceRaw hG (ty := 22) (e := 51) (x := .tmp 78) (lo := some (.tmp 79)) (hi := none) (o := 0) (off := 0) (len := n + 1) (c := c) (i) (n + 1) 32 (by kernel_rfl) (by kernel_rfl) (by kernel_rfl) (by kernel_rfl) (by kernel_rfl) (⟨.i64, by kernel_rfl⟩) (rfl) (by omega) (by omega) (by omega)) (by kernel_rfl) rfl ?_
    refine LK.seg hG 1 [0, 1, 2, 80, 81] (t' := [(0, rs 0 0 (n + 1) c), (1, .sc (.int .i64 (i : Int))), (2, rs 1 ov 1 cv), (80, rs 0 (0 + i * 32) (n + 1 - i) (c - i)), (81, rs 1 ov 1 cv)]) (h' := [rawO 51 L1, exO (.cells cur2.toArray te2 fr2)]) (by kernel_rfl) rfl ?_
    refine LK.op [0] (t' := [(0, rs 0 0 (n + 1) c)]) (h' := [rawO 51 (L1.take (0 + i * 32) ++ (cur2.drop ov).take (1 * 32) ++ L1.drop (0 + i * 32 + 1 * 32)), exO (.cells cur2.toArray te2 fr2)]) (LSpec.copyRaw hG (ty := 22) (ty2 := 22) (e := 51) (te := 51) (te2 := te2) (x := .tmp 80) (y := .tmp 81) (o := 0) (off := 0 + i * 32) (dn := n + 1 - i) (dc := c - i) (o2 := 1) (off2 := ov) (sn := 1) (sc := cv) (k := 1) (sz := 32) (cur := L1) (cur2 := cur2) (fr2 := fr2) (by kernel_rfl) (by kernel_rfl) (by kernel_rfl) (by kernel_rfl) (by kernel_rfl) (by kernel_rfl) (by kernel_rfl) (by kernel_rfl) (by omega) (by omega) (by omega) (by rw [hx1]; exact hone2)) (by kernel_rfl) rfl ?_
    refine LK.done (by kernel_rfl) ?_
    refine AR.seg hG hm 2 [6] (k' := [.code [1, 1, 1, 1, 1, 1, 1, 1, 0, 1, 0, 1, 1, 1], .code [1, 1, 1, 1, 1, 1, 1, 1, 1]]) (t' := [(6, rs 0 0 (n + 1) c)]) (h' := [rawO 51 (L1.take (0 + i * 32) ++ (cur2.drop ov).take (1 * 32) ++ L1.drop (0 + i * 32 + 1 * 32)), exO (.cells cur2.toArray te2 fr2)]) (by kernel_rfl) ?_
    refine AR.post (fun e w hq => ⟨L1.take (0 + i * 32) ++ (cur2.drop ov).take (1 * 32) ++ L1.drop (0 + i * 32 + 1 * 32), ?_, hq⟩) (AR.ret hG Try.func69 (by kernel_rfl) 2 (by omega) (aas := [rs 0 0 (n + 1) c]) (bs := [rs 0 0 (n + 1) c]) (by kernel_rfl) (by kernel_rfl) (by kernel_rfl) (by kernel_rfl) (by kernel_rfl))
    have hs := splice_room cur ((cur2.drop ov).take 32) (i * 32) 32 ((n - i) * 32) (by omega) hx L1 (L1.take (0 + i * 32) ++ (cur2.drop ov).take (1 * 32) ++ L1.drop (0 + i * 32 + 1 * 32)) (by rw [← hL1, Nat.zero_add, Nat.zero_add, ei1]) (by rw [hx1, Nat.zero_add, Nat.one_mul])
    refine ⟨hle, hcm, ?_, ?_⟩
    · rw [hs.2, hcl]
    · rw [en1]; exact hs.1

end Go.Proofs.Ytlfiemphadkimaa

set_option linter.unusedVariables false
set_option linter.unusedSimpArgs false
set_option maxRecDepth 100000
set_option maxHeartbeats 4000000
namespace Go.Proofs.Ytlfiemphadkimaa
open Go.Sh
/-- one element put into a row of ours -/
theorem slices_Insert__api_Rule_contract (A : List Rule) (x : Rule) (i : Nat) (hi : i ≤ A.length) (f : Bool) (C : Ctx) (H : HRel tab.S C [.row 51 (List.map Rule.av A) 1000000 true]) (hfit : (A.length + 1) * 272 ≤ reach) (vals : Array Value)
    (hv : VRels tab.S C [.own 0 1000000, .sc (.int .i64 (i : Int)), .sl 51 [Rule.av x] f] vals.toList) :
    Calls Try.prog 69 vals C.w (Rp tab.S C (.own 0 1000001) [.row 51 (List.map Rule.av (A.take i ++ x :: A.drop i)) 1000001 true]) := by
  have hS2 : tab.S 51 = (32, 272) := by kernel_rfl
  by_cases hie : i = A.length
  · subst hie
    rw [List.take_length, List.drop_length]
    exact slices_Insert__api_Rule_end A x f C H hfit vals hv
  · have hlt : i < (List.map Rule.av A).length := by rw [List.length_map]; omega
    obtain ⟨g, n, cap, cur, b, off, cv, cur2, te, fr, v, q1, q2, q3, q4, q5, q6, q7, q8, q9, q10, q11, q12, q13, q14, q15, q16⟩ := insert_open (Nat.le_refl 1000000) H hv hlt
    rw [hS2] at q6 q8 q9 q10 q11
    rw [List.length_map] at q1
    have hmap : List.map Rule.av (A.take i ++ x :: A.drop i) = (List.map Rule.av A).take i ++ Rule.av x :: (List.map Rule.av A).drop i := by
      rw [List.map_append, List.map_cons, List.map_take, List.map_drop]
    rw [hmap]
    have hone := RelF.one _ _ q8
    have hncl : n * 32 ≤ cur.length := by rw [q6]; exact Nat.mul_le_mul_right _ q4
    have hmid := slices_Insert__api_Rule_mid n i cap off cv cur cur2 te fr ⟨C.w, [.blk g, .blk b], C.X⟩ rfl (by omega) q4 q5 q6 q10
      (fun u hu => hone u (by
        rw [Nat.sub_mul, ← List.drop_take] at hu
        exact List.mem_of_mem_drop hu))
      (fun u hu => RelV.one _ _ q11 u hu) (by rw [← q1]; exact hfit)
    refine (AR.start (G := tab) slices_Insert__api_Rule_F (fn := Try.f69) Try.func69 (by kernel_rfl) (by kernel_rfl) (Nat.le_of_ble_eq_true (by kernel_rfl)) (C := ⟨C.w, [.blk g, .blk b], C.X⟩) q15 q16 hmid).mono ?_
    intro en w hq
    exact insert_close q2 q3 H hS2 (by rw [List.length_map]; exact q1) (by omega) q8 hncl (by omega) q11 (by rw [List.length_take, List.length_drop]; omega) q12 (by rw [← q1]; exact hfit) hq
theorem slices_Insert__api_Rule_ent : Ent Try.prog 69 := ent_of Try.func69 (by kernel_rfl) (by kernel_rfl)
theorem slices_Insert__api_Rule_O (A : List Rule) (x : Rule) (j : Int) (A' : List Rule) (f : Bool) (hv : insO A j x = some A') (hfit : (A.length + [x].length) * 272 ≤ reach) (C : Ctx) (vals : Array Value) (H : HRel tab.S C [.row 51 (List.map Rule.av A) 1000000 true])
    (hq : VRels tab.S C (.own 0 1000000 :: [.sc (.int .i64 j), .sl 51 (List.map Rule.av [x]) f]) vals.toList) :
    Calls Try.prog 69 vals C.w (Rp tab.S C (.own 0 1000001) [.row 51 (List.map Rule.av A') 1000001 true]) := by
  obtain ⟨i, rfl, hi, rfl⟩ := insO_some hv
  exact slices_Insert__api_Rule_contract A x i hi f C H hfit vals hq

end Go.Proofs.Ytlfiemphadkimaa

set_option linter.unusedVariables false
set_option linter.unusedSimpArgs false
set_option maxRecDepth 100000
set_option maxHeartbeats 4000000
namespace Go.Proofs.Ytlfiemphadkimaa
open Go.Sh
/-! ### head.there: function 92 -/
noncomputable def head_there_F : Go.Sh.Fn := ⟨92, bodyOf Try.f92, 9⟩
def head_there (n : Int) : Bool :=
  ((decide (n ≥ 0)) && (decide (n < 12)))
theorem head_there_calls (n : Int) : ACalls Try.prog tab.S 92 [.sc (.int .i64 n)] [] (.sc (.bool (head_there n))) [] := by
  generalize H : head_there n = r
  refine .of_AX head_there_F Try.func92 fun c0 hc0 => ?_
  rw [head_there] at H
  refine .sg 3 [0] (.rg (.sg 3 [0,5] (.mx 0 [8] (.sg 1 [2] (.dn ?_)))))
  subst H
  exact .ret Try.func92 hc0

/-! ### head.fields: function 96 -/
noncomputable def head_fields_F : Go.Sh.Fn := ⟨96, bodyOf Try.f96, 14⟩
def head_fields : (List Field) :=
  [({ name := (ByteArray.mk #[105, 110]), size := 16 } : Field), ({ name := (ByteArray.mk #[101, 115, 114, 99]), size := 48 } : Field), ({ name := (ByteArray.mk #[101, 100, 115, 116]), size := 48 } : Field), ({ name := (ByteArray.mk #[101, 116, 121, 112, 101]), size := 16 } : Field), ({ name := (ByteArray.mk #[118, 108, 97, 110]), size := 12 } : Field), ({ name := (ByteArray.mk #[112, 99, 112]), size := 4 } : Field), ({ name := (ByteArray.mk #[115, 114, 99]), size := 32 } : Field), ({ name := (ByteArray.mk #[100, 115, 116]), size := 32 } : Field), ({ name := (ByteArray.mk #[112, 114, 111, 116, 111]), size := 8 } : Field), ({ name := (ByteArray.mk #[116, 111, 115]), size := 8 } : Field), ({ name := (ByteArray.mk #[115, 112, 111, 114, 116]), size := 12 } : Field), ({ name := (ByteArray.mk #[100, 112, 111, 114, 116]), size := 12 } : Field)]
theorem head_fields_calls : ACalls Try.prog tab.S 96 [] [] (.agg (List.flatMap Field.ch (head_fields))) [] := by
  generalize H : head_fields = r
  refine .of_AX head_fields_F Try.func96 fun c0 hc0 => ?_
  rw [head_fields] at H
  refine .sg 4 [0] ?_
  subst H
  exact .ret Try.func96 hc0

/-! ### head.Size: function 91 -/
noncomputable def head_Size_F : Go.Sh.Fn := ⟨91, bodyOf Try.f91, 10⟩
def head_Size_raw (n : Int) : Option (Int) :=
  (bif (!(head_there n)) then
    some 0
  else
    (ixO head_fields n).bind fun x =>
    some x.size)
theorem head_Size_walk (n : Int) (r : Int) (H : head_Size_raw n = some r) : ACalls Try.prog tab.S 91 [.sc (.int .i64 n)] [] (.sc (.int .i64 r)) [] := by
  refine .of_AX head_Size_F Try.func91 fun c0 hc0 => ?_
  rw [head_Size_raw] at H
  refine .sg 4 [0] (.rg (.sg 1 [0,3] (.cp [0,4] (head_there_calls n) (.sg 1 [0,5] (.dn (.cd (!(head_there n)) H (fun hb H => ?_) (fun hb H => ?_)))))))
  ·
    refine .sg 2 [2] ?_
    obtain rfl := Option.some.inj H
    exact .ret Try.func91 hc0
  ·
    refine .sg 2 [0] (.rg (.cp [0,6] (head_fields_calls) (.sg 1 [6,7] (bndO H fun x hv H => (.xr [8] head_fields Field.ch 2 hv (.fd [9] (.sg 1 [2] (.dn ?_))))))))
    obtain rfl := Option.some.inj H
    exact .ret Try.func91 hc0

theorem head_Size_ok (n : Int) : ACalls Try.prog tab.S 91 [.sc (.int .i64 n)] [] (.sc (.int .i64 (sizeT n))) [] := by
  refine head_Size_walk n (sizeT n) ?_
  rw [head_Size_raw, head_there]
  rcases sizeT_cases n with ⟨h, e⟩ | ⟨h1, h2, k, rfl, hk, e⟩
  · rw [e]
    have : (decide (n ≥ 0) && decide (n < 12)) = false := by
      rw [Bool.and_eq_false_iff, decide_eq_false_iff_not, decide_eq_false_iff_not]; omega
    rw [this]
    rfl
  · rw [e, decide_eq_true h1, decide_eq_true h2]
    match k, hk with
    | 0, _ | 1, _ | 2, _ | 3, _ | 4, _ | 5, _ | 6, _ | 7, _ | 8, _ | 9, _ | 10, _ | 11, _ => rfl

/-! ### head.fits: function 84 -/
noncomputable def head_fits_F : Go.Sh.Fn := ⟨84, bodyOf Try.f84, 10⟩
def head_fits_raw (n : Int) (v : Int) : Option (Bool) :=
  reqO (decide (0 ≤ (sizeT n))) (
  some ((Int.fdiv v (2 ^ (min ((sizeT n) : Int).toNat (IntKind.u64).bits))) == 0))
theorem head_fits_walk (n : Int) (v : Int) (r : Bool) (H : head_fits_raw n v = some r) : ACalls Try.prog tab.S 84 [.sc (.int .i64 n), .sc (.int .u64 v)] [] (.sc (.bool r)) [] := by
  refine .of_AX head_fits_F Try.func84 fun c0 hc0 => ?_
  rw [head_fits_raw] at H
  refine .sg 3 [0,1] (.rg (.sg 2 [5,6] (.cp [5,7] (head_Size_ok n) (reqH H fun hreq H => (.sr_ [8] (b := (sizeT n)) hreq (.sg 2 [4] (.dn ?_)))))))
  obtain rfl := Option.some.inj H
  exact .ret Try.func84 hc0

theorem fits_fdiv {n v : Int} : (Int.fdiv v (2 ^ (min (sizeT n).toNat (IntKind.u64).bits)) == 0) = (decide (0 ≤ v) && fitsT n v) := by
  have hs := sizeT_in n
  have hm : min (sizeT n).toNat (IntKind.u64).bits = (sizeT n).toNat := Nat.min_eq_left (by show _ ≤ 64; omega)
  rw [hm]
  have hp := pow_pos2 (sizeT n).toNat
  unfold fitsT
  rw [Bool.eq_iff_iff, Bool.and_eq_true, decide_eq_true_eq, decide_eq_true_eq, beq_iff_eq]
  rw [Int.fdiv_eq_ediv_of_nonneg _ (Int.le_of_lt hp)]
  constructor
  · intro h
    have h1 := Int.mul_ediv_add_emod v ((2 : Int) ^ (sizeT n).toNat)
    have h2 := Int.emod_nonneg v (Int.ne_of_gt hp)
    have h3 := Int.emod_lt_of_pos v hp
    rw [h, Int.mul_zero, Int.zero_add] at h1
    rw [h1] at h2 h3
    exact ⟨h2, h3⟩
  · intro h
    exact Int.ediv_eq_zero_of_lt h.1 h.2
def fitsH (n v : Int) : Bool := decide (0 ≤ v) && fitsT n v
theorem head_fits_ok (n v : Int) : ACalls Try.prog tab.S 84 [.sc (.int .i64 n), .sc (.int .u64 v)] [] (.sc (.bool (fitsH n v))) [] := by
  refine head_fits_walk n v _ ?_
  rw [head_fits_raw, reqO_eq (decide_eq_true (sizeT_in n).1), fits_fdiv]
  rfl

/-! ### head.Set: function 86 -/
noncomputable def head_Set_F : Go.Sh.Fn := ⟨86, bodyOf Try.f86, 23⟩
def head_Set_raw (h1 : List Int) (n : Int) (v : Int) : Option ((List Int) × Int) :=
  (bif (!(head_there n)) then
    some ([0, 0, 0, 0, 0, 0, 0, 0, 0, 0, 0, 0], 1)
  else
    (bif (!(fitsH n v)) then
      some ([0, 0, 0, 0, 0, 0, 0, 0, 0, 0, 0, 0], 13)
    else
      reqO (decide (0 ≤ n) && decide (n < ((12 : Nat) : Int))) (
      some ((h1.set (n.toNat) v), 0))))
theorem head_Set_walk (h1 : List Int) (n : Int) (v : Int) (r : (List Int) × Int) (H : head_Set_raw h1 n v = some r) : ACalls Try.prog tab.S 86 [.arr .u64 12 h1, .sc (.int .i64 n), .sc (.int .u64 v)] [] (.tup [.arr .u64 12 r.1, .sc (.int .i64 r.2)]) [] := by
  refine .of_AX head_Set_F Try.func86 fun c0 hc0 => ?_
  rw [head_Set_raw] at H
  refine .sg 5 [1,2,3,6] (.rg (.sg 1 [1,2,3,6,9] (.cp [1,2,3,6,10] (head_there_calls n) (.sg 2 [1,2,3,6,8] (.dn (.cd (!(head_there n)) H (fun hb H => ?_) (fun hb H => ?_)))))))
  ·
    refine .sg 2 [6,7] ?_
    obtain rfl := Option.some.inj H
    exact .ret Try.func86 hc0
  ·
    refine .sg 1 [1,2,3,6] (.rg (.sg 2 [1,2,3,6,14,15] (.cp [1,2,3,6,16] (head_fits_ok n v) (.sg 2 [1,2,3,6,13] (.dn (.cd (!(fitsH n v)) H (fun hb H => ?_) (fun hb H => ?_)))))))
    ·
      refine .sg 2 [6,7] ?_
      obtain rfl := Option.some.inj H
      exact .ret Try.func86 hc0
    ·
      refine .sg 3 [1,2,3,6] (.rg (.sg 2 [3,6,19,20] (reqH H fun hreq H => (.xa [3,6,20,21] hreq (.sg 1 [3,6] (.dn (.sg 2 [6,7] ?_)))))))
      obtain rfl := Option.some.inj H
      exact .ret Try.func86 hc0

def setT_ (h : List Int) (n v : Int) : List Int × Int :=
  if head_there n then (if fitsH n v then (h.set n.toNat v, 0) else ([0, 0, 0, 0, 0, 0, 0, 0, 0, 0, 0, 0], 13)) else ([0, 0, 0, 0, 0, 0, 0, 0, 0, 0, 0, 0], 1)
theorem head_Set_ok (h : List Int) (n v : Int) : ACalls Try.prog tab.S 86 [.arr .u64 12 h, .sc (.int .i64 n), .sc (.int .u64 v)] [] (.tup [.arr .u64 12 (setT_ h n v).1, .sc (.int .i64 (setT_ h n v).2)]) [] := by
  refine head_Set_walk h n v (setT_ h n v) ?_
  rw [head_Set_raw]
  unfold setT_
  cases ht : head_there n
  · rfl
  · cases hf : fitsH n v
    · rfl
    · have hn : (decide (0 ≤ n) && decide (n < ((12 : Nat) : Int))) = true := ht
      simp only [Bool.not_true, cond_false, if_true]
      rw [reqO_eq hn]

/-! ### head.Sound: function 73 -/
noncomputable def head_Sound_F : Go.Sh.Fn := ⟨73, bodyOf Try.f73, 15⟩
def head_Sound_l0s (h1 : List Int) : Nat → Nat → Sum (Unit) (Bool)
  | 0, t6 =>
    (.inl ())
  | rest + 1, t6 =>
    (bif (!(fitsH ((t6 : Nat) : Int) (h1.getD t6 0))) then
      (.inr false)
    else
      head_Sound_l0s h1 rest (t6 + 1) )
theorem head_Sound_l0_walk (h1 : List Int) (r : Bool) (c0 : Ctx) (hc0 : c0.m.length = 0) (res : Sum (Unit) (Bool)) (J : ∀ w : Unit, res = .inl w → AX Try.prog tab head_Sound_F c0 (Rp tab.S c0 (.sc (.bool r)) []) (some ⟨[.code [1, 1]], [], [.box 28 [.arr .u64 12 h1]]⟩)) (Jr : ∀ w, res = .inr w → w = r) :
    ∀ (rest : Nat) (t6 : Nat) (z : Int) (hI : z = ((t6 : Nat) : Int)) (hd : t6 + rest = 12) (H : head_Sound_l0s h1 rest t6 = res), AX Try.prog tab head_Sound_F c0 (Rp tab.S c0 (.sc (.bool r)) []) (some ⟨[.code [1, 0, 1, 0, 0], .loop [1, 0, 1, 0], .blk 0, .code [1, 1]], [(5, .arr .u64 12 h1), (6, .sc (.int .i64 z))], [.box 28 [.arr .u64 12 h1]]⟩) := by
  intro rest
  induction rest with
  | zero =>
    intro t6 z hI hd  H
    subst hI
    rw [head_Sound_l0s] at H
    have hc : (decide (((t6 : Nat) : Int) < 12)) = false := decide_eq_false (by omega)
    exact .sg 3 [5,6,7] (.cdF hc (.sg 1 [] (.kp [] (.to (J () H.symm)))))
  | succ rest ih =>
    intro t6 z hI hd  H
    subst hI
    rw [head_Sound_l0s] at H
    have hlt_t6 : t6 < 12 := by omega
    have hc : (decide (((t6 : Nat) : Int) < 12)) = true := decide_eq_true (by omega)
    have hw : IntKind.i64.wrap (((t6 : Nat) : Int) + 1) = ((t6 + 1 : Nat) : Int) := wrapI_succ (by omega)
    refine .sg 3 [5,6,7] (.cdT hc (.sg 4 [5,6] (.rg (.sg 1 [5,6,8] ?_))))
    have hreq := idx_in 12 hlt_t6 (by decide)
    refine .xv [5,6,8,9] hreq (.sg 2 [3,4,5,6] (.dn (.sg 1 [3,4,5,6] (.rg (.sg 2 [5,6,10,11] (.cp [5,6,12] (head_fits_ok ((t6 : Nat) : Int) (h1.getD t6 0)) (.sg 1 [5,6,13] (.dn (.cd (!(fitsH ((t6 : Nat) : Int) (h1.getD t6 0))) H (fun hb H => ?_) (fun hb H => ?_))))))))))
    ·
      refine .sg 2 [2] ?_
      subst H
      obtain rfl := Jr _ rfl
      exact .ret Try.func73 hc0
    ·
      exact .sg 3 [5,6] (.kp [5,6] (.into (.cl (ih (t6 + 1) _ hw (by omega) H))))

def head_Sound (h1 : List Int) : Bool :=
  sumG (fun q => q) (head_Sound_l0s h1 12 0) fun v =>
  true
theorem head_Sound_calls (h1 : List Int) : ACalls Try.prog tab.S 73 [.arr .u64 12 h1] [] (.sc (.bool (head_Sound h1))) [] := by
  generalize H : head_Sound h1 = r
  refine .of_AX head_Sound_F Try.func73 fun c0 hc0 => ?_
  rw [head_Sound] at H
  refine .sg 6 [5,6] ?_
  rcases sumG_eq H with ⟨v, hv, H⟩ | ⟨r1, hv, hr1⟩
  case inr =>
    refine .into ?_
    replace hr1 : r1 = r := hr1
    subst hr1
    exact .to (head_Sound_l0_walk h1 _ c0 hc0 (.inr _) (fun _ e => by cases e) (fun _ e => (Sum.inr.inj e).symm) 12 0 _ rfl rfl hv)
  refine .into (.to (head_Sound_l0_walk h1 r c0 hc0 (.inl v) (fun w e => ?_) (fun _ e => by cases e) 12 0 _ rfl rfl hv))
  have e := Sum.inl.inj e
  subst e
  refine .sg 2 [2] ?_
  subst H
  exact .ret Try.func73 hc0

/-! ### cube.Sound: function 51 -/
noncomputable def cube_Sound_F : Go.Sh.Fn := ⟨51, bodyOf Try.f51, 23⟩
def cube_Sound_l0s (c : Cube) : Nat → Nat → Sum (Unit) (Bool)
  | 0, t11 =>
    (.inl ())
  | rest + 1, t11 =>
    (bif ((IntKind.u64.wrap ((BitVec.ofInt 64 (c.Value.getD t11 0) &&& ~~~ (BitVec.ofInt 64 (c.Care.getD (t11) 0))).toNat)) != 0) then
      (.inr false)
    else
      cube_Sound_l0s c rest (t11 + 1) )
theorem cube_Sound_l0_walk (c : Cube) (r : Bool) (c0 : Ctx) (hc0 : c0.m.length = 0) (res : Sum (Unit) (Bool)) (J : ∀ w : Unit, res = .inl w → AX Try.prog tab cube_Sound_F c0 (Rp tab.S c0 (.sc (.bool r)) []) (some ⟨[.code [1, 1, 1]], [], [.box 30 (Cube.ch c)]⟩)) (Jr : ∀ w, res = .inr w → w = r) :
    ∀ (rest : Nat) (t11 : Nat) (z : Int) (hI : z = ((t11 : Nat) : Int)) (hd : t11 + rest = 12) (H : cube_Sound_l0s c rest t11 = res), AX Try.prog tab cube_Sound_F c0 (Rp tab.S c0 (.sc (.bool r)) []) (some ⟨[.code [1, 1, 0, 1, 0, 0], .loop [1, 1, 0, 1, 0], .blk 0, .code [1, 1, 1]], [(1, .ptr 0 0 none), (10, .arr .u64 12 c.Value), (11, .sc (.int .i64 z))], [.box 30 (Cube.ch c)]⟩) := by
  intro rest
  induction rest with
  | zero =>
    intro t11 z hI hd  H
    subst hI
    rw [cube_Sound_l0s] at H
    have hc : (decide (((t11 : Nat) : Int) < 12)) = false := decide_eq_false (by omega)
    exact .sg 3 [1,10,11,12] (.cdF hc (.sg 1 [] (.kp [] (.to (J () H.symm)))))
  | succ rest ih =>
    intro t11 z hI hd  H
    subst hI
    rw [cube_Sound_l0s] at H
    have hlt_t11 : t11 < 12 := by omega
    have hc : (decide (((t11 : Nat) : Int) < 12)) = true := decide_eq_true (by omega)
    have hw : IntKind.i64.wrap (((t11 : Nat) : Int) + 1) = ((t11 + 1 : Nat) : Int) := wrapI_succ (by omega)
    refine .sg 3 [1,10,11,12] (.cdT hc (.sg 4 [1,10,11] (.rg (.sg 1 [1,10,11,13] ?_))))
    have hreq := idx_in 12 hlt_t11 (by decide)
    refine .xv [1,10,11,13,14] hreq (.sg 2 [1,3,4,10,11] (.dn (.sg 1 [1,3,4,10,11] (.rg (.sg 3 [1,10,11,15,16,17] ?_)))))
    have hreq := idx_in 12 hlt_t11 (by decide)
    refine .xa [1,10,11,15,18] hreq (.sg 3 [1,10,11,21] (.dn (.cd ((IntKind.u64.wrap ((BitVec.ofInt 64 (c.Value.getD t11 0) &&& ~~~ (BitVec.ofInt 64 (c.Care.getD (t11) 0))).toNat)) != 0) H (fun hb H => ?_) (fun hb H => ?_))))
    ·
      refine .sg 2 [2] ?_
      subst H
      obtain rfl := Jr _ rfl
      exact .ret Try.func51 hc0
    ·
      exact .sg 3 [1,10,11] (.kp [1,10,11] (.into (.cl (ih (t11 + 1) _ hw (by omega) H))))

def cube_Sound (c : Cube) : Bool :=
  (bif (!(head_Sound c.Care)) then
    false
  else
    sumG (fun q => q) (cube_Sound_l0s c 12 0) fun v =>
    true)
theorem cube_Sound_calls (c : Cube) : ACalls Try.prog tab.S 51 [Cube.av c] [] (.sc (.bool (cube_Sound c))) [] := by
  generalize H : cube_Sound c = r
  refine .of_AX cube_Sound_F Try.func51 fun c0 hc0 => ?_
  rw [cube_Sound] at H
  refine .sg 4 [1] (.rg (.sg 2 [1,6] (.cp [1,7] (head_Sound_calls c.Care) (.sg 1 [1,8] (.dn (.cd (!(head_Sound c.Care)) H (fun hb H => ?_) (fun hb H => ?_)))))))
  ·
    refine .sg 2 [2] ?_
    subst H
    exact .ret Try.func51 hc0
  ·
    refine .sg 5 [1,10,11] ?_
    rcases sumG_eq H with ⟨v, hv, H⟩ | ⟨r1, hv, hr1⟩
    case inr =>
      refine .into ?_
      replace hr1 : r1 = r := hr1
      subst hr1
      exact .to (cube_Sound_l0_walk c _ c0 hc0 (.inr _) (fun _ e => by cases e) (fun _ e => (Sum.inr.inj e).symm) 12 0 _ rfl rfl hv)
    refine .into (.to (cube_Sound_l0_walk c r c0 hc0 (.inl v) (fun w e => ?_) (fun _ e => by cases e) 12 0 _ rfl rfl hv))
    have e := Sum.inl.inj e
    subst e
    refine .sg 2 [2] ?_
    subst H
    exact .ret Try.func51 hc0

/-! ### act.sound: function 76 -/
noncomputable def act_sound_F : Go.Sh.Fn := ⟨76, bodyOf Try.f76, 48⟩
def act_sound (a : Act) : Bool :=
  (bif (a.Kind == 1) then
    ((((decide (a.Port ≥ 1)) && (decide (a.Port ≤ 16))) && (a.Field == 0)) && (a.Value == 0))
  else
    (bif (a.Kind == 2) then
      (((setT_ [0, 0, 0, 0, 0, 0, 0, 0, 0, 0, 0, 0] a.Field a.Value).2 == 0) && (a.Port == 0))
    else
      ((a.Kind == 3) && ((a.Port == 0) && ((a.Field == 0) && (a.Value == 0))))))
theorem act_sound_calls (a : Act) : ACalls Try.prog tab.S 76 [Act.av a] [] (.sc (.bool (act_sound a))) [] := by
  generalize H : act_sound a = r
  refine .of_AX act_sound_F Try.func76 fun c0 hc0 => ?_
  rw [act_sound] at H
  refine .sg 8 [1,6,7] (.cd (a.Kind == 1) H (fun hb H => ?_) (fun hb H => ?_))
  ·
    refine .sg 1 [1] (.rg (.sg 4 [1,12] (.mx 0 [1,16] (.sg 1 [1,17] (.mx 0 [1,21] (.sg 1 [1,22] (.mx 0 [26] (.sg 1 [2] (.dn ?_)))))))))
    subst H
    exact .ret Try.func76 hc0
  ·
    refine .sg 2 [1,27] (.cd (a.Kind == 2) H (fun hb H => ?_) (fun hb H => ?_))
    ·
      refine .sg 1 [1] (.rg (.sg 5 [1,30,32,34] (.cp [1,35] (head_Set_ok [0, 0, 0, 0, 0, 0, 0, 0, 0, 0, 0, 0] a.Field a.Value) (.sg 6 [1,4] (.dn (.sg 1 [1,4] (.rg (.sg 3 [1,40] (.mx 0 [44] (.sg 1 [2] (.dn ?_)))))))))))
      subst H
      exact .ret Try.func76 hc0
    ·
      refine .sg 3 [1] (.rg (.sg 2 [45,46] (.eq_ [47] 9 (.sg 1 [2] (.dn ?_)))))
      subst H
      exact .ret Try.func76 hc0

/-! ### slices.IndexFunc: function 85 -/
noncomputable def slices_IndexFunc__api_Act_F : Go.Sh.Fn := ⟨85, bodyOf Try.f85, 19⟩
def slices_IndexFunc__api_Act_l0s (f : Act → Bool) : List Act → Nat → Sum (Unit) (Int)
  | [], t8 =>
    (.inl ())
  | x :: rest, t8 =>
    (bif (f x) then
      (.inr ((t8 : Nat) : Int))
    else
      slices_IndexFunc__api_Act_l0s f rest (t8 + 1) )
theorem slices_IndexFunc__api_Act_l0_walk (s : List Act) (F_f : FuncId) (C_f : List AV) (f : Act → Bool) (P_f : plainL C_f = true) (O_f : C_f.all oneA = true) (H_f : ∀ (y0 : Act), ACalls Try.prog tab.S F_f ([Act.av y0] ++ C_f) [] (.sc (.bool (f y0))) []) (f_s : Bool) (r : Int) (c0 : Ctx) (hc0 : c0.m.length = 0) (res : Sum (Unit) (Int)) (J : ∀ w : Unit, res = .inl w → AX Try.prog tab slices_IndexFunc__api_Act_F c0 (Rp tab.S c0 (.sc (.int .i64 r)) []) (some ⟨[.code [1, 1]], [], []⟩)) (Jr : ∀ w, res = .inr w → w = r) :
    ∀ (rest : List Act) (t8 : Nat) (z : Int) (hI : z = ((t8 : Nat) : Int)) (hd : s.drop t8 = rest) (H : slices_IndexFunc__api_Act_l0s f rest t8 = res), AX Try.prog tab slices_IndexFunc__api_Act_F c0 (Rp tab.S c0 (.sc (.int .i64 r)) []) (some ⟨[.code [1, 0, 1, 0, 0], .loop [1, 0, 1, 0], .blk 0, .code [1, 1]], [(0, .sl 60 (List.map Act.av s) f_s), (1, .fn F_f C_f), (7, .sc (.int .i64 (((List.map Act.av s).length : Nat) : Int))), (8, .sc (.int .i64 z))], []⟩) := by
  intro rest
  induction rest with
  | nil =>
    intro t8 z hI hd  H
    subst hI
    rw [slices_IndexFunc__api_Act_l0s] at H
    refine .facts 0 fun hf => ?_
    have hlen : s.length ≤ 9223372036854775807 := by have hq := len_ok hf.2.1; rw [List.length_map] at hq; exact hq
    have hge : s.length ≤ t8 := List.drop_eq_nil_iff.1 hd
    have hc : (decide (((t8 : Nat) : Int) < (((List.map Act.av s).length : Nat) : Int))) = false := by rw [List.length_map]; exact decide_eq_false (by omega)
    exact .sg 3 [0,1,7,8,9] (.cdF hc (.sg 1 [] (.kp [] (.to (J () H.symm)))))
  | cons x rest ih =>
    intro t8 z hI hd  H
    subst hI
    rw [slices_IndexFunc__api_Act_l0s] at H
    refine .facts 0 fun hf => ?_
    have hlen : s.length ≤ 9223372036854775807 := by have hq := len_ok hf.2.1; rw [List.length_map] at hq; exact hq
    obtain ⟨hlt, hv_t8, hd2⟩ := drop_cons hd
    have hc : (decide (((t8 : Nat) : Int) < (((List.map Act.av s).length : Nat) : Int))) = true := by rw [List.length_map]; exact decide_eq_true (by omega)
    have hw : IntKind.i64.wrap (((t8 : Nat) : Int) + 1) = ((t8 + 1 : Nat) : Int) := wrapI_succ (by omega)
    refine .sg 3 [0,1,7,8,9] (.cdT hc (.sg 6 [0,1,5,7,8] (.rg (.sg 3 [0,1,5,7,8,11,12,13] (.xi [0,1,5,7,8,11,14] Act.av hv_t8 (.sg 1 [0,1,5,7,8,11,15] (.cf [0,1,5,7,8,16] (H_f x) P_f O_f (.dn (.cd (f x) H (fun hb H => ?_) (fun hb H => ?_))))))))))
    ·
      refine .sg 2 [4] ?_
      subst H
      obtain rfl := Jr _ rfl
      exact .ret Try.func85 hc0
    ·
      exact .sg 3 [0,1,7,8] (.kp [0,1,7,8] (.into (.cl (ih (t8 + 1) _ hw hd2 H))))

def slices_IndexFunc__api_Act (s : List Act) (f : Act → Bool) : Int :=
  sumG (fun q => q) (slices_IndexFunc__api_Act_l0s f s 0) fun v =>
  (-1)
theorem slices_IndexFunc__api_Act_calls (s : List Act) (F_f : FuncId) (C_f : List AV) (f : Act → Bool) (P_f : plainL C_f = true) (O_f : C_f.all oneA = true) (H_f : ∀ (y0 : Act), ACalls Try.prog tab.S F_f ([Act.av y0] ++ C_f) [] (.sc (.bool (f y0))) []) (f_s : Bool) : ACalls Try.prog tab.S 85 [.sl 60 (List.map Act.av s) f_s, .fn F_f C_f] [] (.sc (.int .i64 (slices_IndexFunc__api_Act s f))) [] := by
  generalize H : slices_IndexFunc__api_Act s f = r
  refine .of_AX slices_IndexFunc__api_Act_F Try.func85 fun c0 hc0 => ?_
  rw [slices_IndexFunc__api_Act] at H
  refine .sg 6 [0,1,7,8] ?_
  rcases sumG_eq H with ⟨v, hv, H⟩ | ⟨r1, hv, hr1⟩
  case inr =>
    refine .into ?_
    replace hr1 : r1 = r := hr1
    subst hr1
    exact .to (slices_IndexFunc__api_Act_l0_walk s F_f C_f f P_f O_f H_f f_s _ c0 hc0 (.inr _) (fun _ e => by cases e) (fun _ e => (Sum.inr.inj e).symm) s 0 _ rfl rfl hv)
  refine .into (.to (slices_IndexFunc__api_Act_l0_walk s F_f C_f f P_f O_f H_f f_s r c0 hc0 (.inl v) (fun w e => ?_) (fun _ e => by cases e) s 0 _ rfl rfl hv))
  have e := Sum.inl.inj e
  subst e
  refine .sg 2 [4] ?_
  subst H
  exact .ret Try.func85 hc0

theorem slices_IndexFunc__api_Act_l0s_eq (f : Act → Bool) : ∀ (l : List Act) (i : Nat), slices_IndexFunc__api_Act_l0s f l i = match l.findIdx? f with | some k => .inr ((i + k : Nat) : Int) | none => .inl ()
  | [], i => rfl
  | x :: l, i => by
      rw [slices_IndexFunc__api_Act_l0s, List.findIdx?_cons, slices_IndexFunc__api_Act_l0s_eq f l (i + 1)]
      cases f x
      · simp only [cond_false, Bool.false_eq_true, if_false]
        cases l.findIdx? f with
        | none => rfl
        | some k => simp only [Option.map_some]; rw [show i + 1 + k = i + (k + 1) by omega]
      · rfl
theorem slices_IndexFunc__api_Act_idx (s : List Act) (f : Act → Bool) : slices_IndexFunc__api_Act s f = idxF f s := by
  rw [slices_IndexFunc__api_Act, slices_IndexFunc__api_Act_l0s_eq]
  unfold idxF sumG
  cases s.findIdx? f with
  | none => rfl
  | some k => simp only [Nat.zero_add]

/-! ### slices.ContainsFunc: function 74 -/
noncomputable def slices_ContainsFunc__api_Act_F : Go.Sh.Fn := ⟨74, bodyOf Try.f74, 9⟩
def slices_ContainsFunc__api_Act (s : List Act) (f : Act → Bool) : Bool :=
  (decide ((slices_IndexFunc__api_Act s f) ≥ 0))
theorem slices_ContainsFunc__api_Act_calls (s : List Act) (F_f : FuncId) (C_f : List AV) (f : Act → Bool) (P_f : plainL C_f = true) (O_f : C_f.all oneA = true) (H_f : ∀ (y0 : Act), ACalls Try.prog tab.S F_f ([Act.av y0] ++ C_f) [] (.sc (.bool (f y0))) []) (f_s : Bool) : ACalls Try.prog tab.S 74 [.sl 60 (List.map Act.av s) f_s, .fn F_f C_f] [] (.sc (.bool (slices_ContainsFunc__api_Act s f))) [] := by
  generalize H : slices_ContainsFunc__api_Act s f = r
  refine .of_AX slices_ContainsFunc__api_Act_F Try.func74 fun c0 hc0 => ?_
  rw [slices_ContainsFunc__api_Act] at H
  refine .sg 3 [0,1] (.rg (.sg 2 [5,6] (.cl_ [7] (caps := []) (slices_IndexFunc__api_Act_calls s F_f C_f f P_f O_f H_f f_s) (.same rfl (.fn (caps := C_f) (lendC_plain C_f P_f) .nil)) (by kernel_rfl) rfl rfl (.sg 2 [4] (.dn ?_)))))
  subst H
  exact .ret Try.func74 hc0

theorem slices_ContainsFunc__api_Act_any (s : List Act) (f : Act → Bool) : slices_ContainsFunc__api_Act s f = s.any f := by
  rw [slices_ContainsFunc__api_Act, slices_IndexFunc__api_Act_idx, idxF_any]

/-! ### act.Sound$1: function 75 -/
noncomputable def act_Sound_1_F : Go.Sh.Fn := ⟨75, bodyOf Try.f75, 6⟩
def act_Sound_1 (a : Act) : Bool :=
  (!(act_sound a))
theorem act_Sound_1_calls (a : Act) : ACalls Try.prog tab.S 75 [Act.av a] [] (.sc (.bool (act_Sound_1 a))) [] := by
  generalize H : act_Sound_1 a = r
  refine .of_AX act_Sound_1_F Try.func75 fun c0 hc0 => ?_
  rw [act_Sound_1] at H
  refine .sg 3 [1] (.rg (.sg 1 [3] (.cp [4] (act_sound_calls a) (.sg 2 [2] (.dn ?_)))))
  subst H
  exact .ret Try.func75 hc0

/-! ### act.Sound: function 52 -/
noncomputable def act_Sound_F : Go.Sh.Fn := ⟨52, bodyOf Try.f52, 11⟩
def act_Sound (list : List Act) : Bool :=
  ((decide ((((List.map Act.av list).length : Nat) : Int) ≤ 8)) && (!(slices_ContainsFunc__api_Act list act_Sound_1)))
theorem act_Sound_calls (list : List Act) (f_list : Bool) : ACalls Try.prog tab.S 52 [.sl 60 (List.map Act.av list) f_list] [] (.sc (.bool (act_Sound list))) [] := by
  generalize H : act_Sound list = r
  refine .of_AX act_Sound_F Try.func52 fun c0 hc0 => ?_
  rw [act_Sound] at H
  refine .sg 3 [0] (.rg (.sg 4 [0,6] (.mm 6 (decide ((((List.map Act.av list).length : Nat) : Int) ≤ 8)) 4 [.pure, .pure, .read, .pure] [10] 10 (fun z => .sc (.bool (z && (!(slices_ContainsFunc__api_Act list act_Sound_1))))) ?J1 (fun hb J => ?ht1) (fun hb J => ?hf1))))
  case ht1 =>
    exact .sg 1 [6,7] (.cl_ [6,8] (caps := []) (slices_ContainsFunc__api_Act_calls list 75 [] act_Sound_1 rfl rfl (fun y0 => act_Sound_1_calls y0) f_list) (.same rfl (.fn (caps := []) (by kernel_rfl) .nil)) (by kernel_rfl) rfl rfl (.sg 2 [10] (.cl J)))
  case hf1 =>
    exact .sg 4 [10] (.cl J)
  refine .sg 1 [2] (.dn ?_)
  subst H
  exact .ret Try.func52 hc0

/-! ### rule.span: function 70 -/
noncomputable def rule_span_F : Go.Sh.Fn := ⟨70, bodyOf Try.f70, 12⟩
def rule_span (n : Int) (most : Int) : Bool :=
  ((decide (n ≥ 0)) && (decide (n ≤ most)))
theorem rule_span_calls (n : Int) (most : Int) : ACalls Try.prog tab.S 70 [.sc (.int .i64 n), .sc (.int .i64 most)] [] (.sc (.bool (rule_span n most))) [] := by
  generalize H : rule_span n most = r
  refine .of_AX rule_span_F Try.func70 fun c0 hc0 => ?_
  rw [rule_span] at H
  refine .sg 3 [0,1] (.rg (.sg 3 [0,1,7] (.mx 0 [11] (.sg 1 [4] (.dn ?_)))))
  subst H
  exact .ret Try.func70 hc0

/-! ### rule.Sound: function 46 -/
noncomputable def rule_Sound_F : Go.Sh.Fn := ⟨46, bodyOf Try.f46, 41⟩
def rule_Sound (r2 : Rule) : Bool :=
  (((((((cube_Sound r2.Match) && (act_Sound r2.Acts)) && (rule_span r2.Prio 65535)) && (rule_span r2.Idle 1048576)) && (rule_span r2.Hard 1048576)) && (rule_span r2.Owner 255)) && (decide ((if r2.Age < (if r2.Quiet < r2.Hits then r2.Quiet else r2.Hits) then r2.Age else (if r2.Quiet < r2.Hits then r2.Quiet else r2.Hits)) ≥ 0)))
theorem rule_Sound_calls (r2 : Rule) : ACalls Try.prog tab.S 46 [Rule.av r2] [] (.sc (.bool (rule_Sound r2))) [] := by
  generalize H : rule_Sound r2 = r
  refine .of_AX rule_Sound_F Try.func46 fun c0 hc0 => ?_
  rw [rule_Sound] at H
  refine .sg 3 [1] (.rg (.sg 2 [1,4] (.cp [1,5] (cube_Sound_calls r2.Match) (.sg 1 [1,6] (.mm 6 (cube_Sound r2.Match) 4 [.pure, .pure, .read, .pure] [1, 10] 10 (fun z => .sc (.bool (z && (act_Sound r2.Acts)))) ?J1 (fun hb J => ?ht1) (fun hb J => ?hf1))))))
  case ht1 =>
    exact .sg 2 [1,6,8] (.cp [1,6,9] (act_Sound_calls r2.Acts false) (.sg 1 [1,10] (.cl J)))
  case hf1 =>
    exact .sg 4 [1,10] (.cl J)
  refine .sg 1 [1,11] (.mm 11 ((cube_Sound r2.Match) && (act_Sound r2.Acts)) 4 [.pure, .pure, .read, .pure] [1, 15] 15 (fun z => .sc (.bool (z && (rule_span r2.Prio 65535)))) ?J2 (fun hb J => ?ht2) (fun hb J => ?hf2))
  case ht2 =>
    exact .sg 2 [1,11,13] (.cp [1,11,14] (rule_span_calls r2.Prio 65535) (.sg 1 [1,15] (.cl J)))
  case hf2 =>
    exact .sg 4 [1,15] (.cl J)
  refine .sg 1 [1,16] (.mm 16 (((cube_Sound r2.Match) && (act_Sound r2.Acts)) && (rule_span r2.Prio 65535)) 4 [.pure, .pure, .read, .pure] [1, 20] 20 (fun z => .sc (.bool (z && (rule_span r2.Idle 1048576)))) ?J3 (fun hb J => ?ht3) (fun hb J => ?hf3))
  case ht3 =>
    exact .sg 2 [1,16,18] (.cp [1,16,19] (rule_span_calls r2.Idle 1048576) (.sg 1 [1,20] (.cl J)))
  case hf3 =>
    exact .sg 4 [1,20] (.cl J)
  refine .sg 1 [1,21] (.mm 21 ((((cube_Sound r2.Match) && (act_Sound r2.Acts)) && (rule_span r2.Prio 65535)) && (rule_span r2.Idle 1048576)) 4 [.pure, .pure, .read, .pure] [1, 25] 25 (fun z => .sc (.bool (z && (rule_span r2.Hard 1048576)))) ?J4 (fun hb J => ?ht4) (fun hb J => ?hf4))
  case ht4 =>
    exact .sg 2 [1,21,23] (.cp [1,21,24] (rule_span_calls r2.Hard 1048576) (.sg 1 [1,25] (.cl J)))
  case hf4 =>
    exact .sg 4 [1,25] (.cl J)
  refine .sg 1 [1,26] (.mm 26 (((((cube_Sound r2.Match) && (act_Sound r2.Acts)) && (rule_span r2.Prio 65535)) && (rule_span r2.Idle 1048576)) && (rule_span r2.Hard 1048576)) 4 [.pure, .pure, .read, .pure] [1, 30] 30 (fun z => .sc (.bool (z && (rule_span r2.Owner 255)))) ?J5 (fun hb J => ?ht5) (fun hb J => ?hf5))
  case ht5 =>
    exact .sg 2 [1,26,28] (.cp [1,26,29] (rule_span_calls r2.Owner 255) (.sg 1 [1,30] (.cl J)))
  case hf5 =>
    exact .sg 4 [1,30] (.cl J)
  refine .sg 1 [1,31] (.mm 31 ((((((cube_Sound r2.Match) && (act_Sound r2.Acts)) && (rule_span r2.Prio 65535)) && (rule_span r2.Idle 1048576)) && (rule_span r2.Hard 1048576)) && (rule_span r2.Owner 255)) 9 [.pure, .pure, .pure, .read, .pure, .read, .pure, .read, .pure] [40] 40 (fun z => .sc (.bool (z && (decide ((if r2.Age < (if r2.Quiet < r2.Hits then r2.Quiet else r2.Hits) then r2.Age else (if r2.Quiet < r2.Hits then r2.Quiet else r2.Hits)) ≥ 0))))) ?J6 (fun hb J => ?ht6) (fun hb J => ?hf6))
  case ht6 =>
    exact .sg 6 [31,33,35,37] (.m3 [31,38] (.sg 2 [40] (.cl J)))
  case hf6 =>
    exact .sg 9 [40] (.cl J)
  refine .sg 1 [2] (.dn ?_)
  subst H
  exact .ret Try.func46 hc0

end Go.Proofs.Ytlfiemphadkimaa

set_option linter.unusedVariables false
set_option linter.unusedSimpArgs false
set_option maxRecDepth 100000
set_option maxHeartbeats 4000000
namespace Go.Proofs.Ytlfiemphadkimaa
open Go.Sh
/-! ### cmp.isNaN: function 97 -/
noncomputable def cmp_isNaN_uint64_F : Go.Sh.Fn := ⟨97, bodyOf Try.f97, 6⟩
def cmp_isNaN_uint64 (x : Int) : Bool :=
  (x != x)
theorem cmp_isNaN_uint64_calls (x : Int) : ACalls Try.prog tab.S 97 [.sc (.int .u64 x)] [] (.sc (.bool (cmp_isNaN_uint64 x))) [] := by
  generalize H : cmp_isNaN_uint64 x = r
  refine .of_AX cmp_isNaN_uint64_F Try.func97 fun c0 hc0 => ?_
  rw [cmp_isNaN_uint64] at H
  refine .sg 4 [2] ?_
  subst H
  exact .ret Try.func97 hc0

/-! ### cmp.Compare: function 94 -/
noncomputable def cmp_Compare_uint64_F : Go.Sh.Fn := ⟨94, bodyOf Try.f94, 20⟩
def cmp_Compare_uint64 (x : Int) (y : Int) : Int :=
  (bif (cmp_isNaN_uint64 x) then
    (bif (cmp_isNaN_uint64 y) then
      0
    else
      (-1))
  else
    (bif (cmp_isNaN_uint64 y) then
      1
    else
      (bif (decide (x < y)) then
        (-1)
      else
        (bif (decide (x > y)) then
          1
        else
          0))))
theorem cmp_Compare_uint64_calls (x : Int) (y : Int) : ACalls Try.prog tab.S 94 [.sc (.int .u64 x), .sc (.int .u64 y)] [] (.sc (.int .i64 (cmp_Compare_uint64 x y))) [] := by
  generalize H : cmp_Compare_uint64 x y = r
  refine .of_AX cmp_Compare_uint64_F Try.func94 fun c0 hc0 => ?_
  rw [cmp_Compare_uint64] at H
  refine .sg 3 [0,1] (.rg (.sg 1 [0,1,7] (.cp [0,1,8] (cmp_isNaN_uint64_calls x) (.sg 1 [0,1,5] (.dn (.sg 1 [0,1,5] (.rg (.sg 1 [0,1,5,9] (.cp [0,1,5,10] (cmp_isNaN_uint64_calls y) (.sg 1 [0,1,5,6] (.dn (.sg 3 [0,1,6,11] (.cd (cmp_isNaN_uint64 x) H (fun hb H => ?_) (fun hb H => ?_))))))))))))))
  ·
    refine .sg 3 [12] (.cd (cmp_isNaN_uint64 y) H (fun hb H => ?_) (fun hb H => ?_))
    ·
      refine .sg 2 [4] ?_
      subst H
      exact .ret Try.func94 hc0
    ·
      refine .sg 3 [4] ?_
      subst H
      exact .ret Try.func94 hc0
  ·
    refine .sg 4 [0,1,13] (.cd (cmp_isNaN_uint64 y) H (fun hb H => ?_) (fun hb H => ?_))
    ·
      refine .sg 2 [4] ?_
      subst H
      exact .ret Try.func94 hc0
    ·
      refine .sg 4 [0,1,16] (.cd (decide (x < y)) H (fun hb H => ?_) (fun hb H => ?_))
      ·
        refine .sg 2 [4] ?_
        subst H
        exact .ret Try.func94 hc0
      ·
        refine .sg 4 [19] (.cd (decide (x > y)) H (fun hb H => ?_) (fun hb H => ?_))
        ·
          refine .sg 2 [4] ?_
          subst H
          exact .ret Try.func94 hc0
        ·
          refine .sg 3 [4] ?_
          subst H
          exact .ret Try.func94 hc0

/-! ### slices.CompareFunc: function 93 -/
noncomputable def slices_CompareFunc__uint64_F : Go.Sh.Fn := ⟨93, bodyOf Try.f93, 39⟩
def slices_CompareFunc__uint64_l0s (s2 : List Int) (cmp : Int → Int → Int) : List Int → Nat → Option (Sum (Unit) (Int))
  | [], t13 =>
    some (.inl ())
  | x :: rest, t13 =>
    (bif (decide (((t13 : Nat) : Int) ≥ (((List.map (intA .u64) s2).length : Nat) : Int))) then
      some (.inr 1)
    else
      (ixO s2 ((t13 : Nat) : Int)).bind fun x1 =>
      (bif ((cmp x x1) != 0) then
        some (.inr (cmp x x1))
      else
        slices_CompareFunc__uint64_l0s s2 cmp rest (t13 + 1) ))
theorem slices_CompareFunc__uint64_l0_walk (s1 : List Int) (s2 : List Int) (F_cmp : FuncId) (C_cmp : List AV) (cmp : Int → Int → Int) (P_cmp : plainL C_cmp = true) (O_cmp : C_cmp.all oneA = true) (H_cmp : ∀ (y0 : Int) (y1 : Int), ACalls Try.prog tab.S F_cmp ([.sc (.int .u64 y0), .sc (.int .u64 y1)] ++ C_cmp) [] (.sc (.int .i64 (cmp y0 y1))) []) (f_s1 : Bool) (f_s2 : Bool) (r : Int) (c0 : Ctx) (hc0 : c0.m.length = 0) (res : Sum (Unit) (Int)) (J : ∀ w : Unit, res = .inl w → AX Try.prog tab slices_CompareFunc__uint64_F c0 (Rp tab.S c0 (.sc (.int .i64 r)) []) (some ⟨[.code [1, 1]], [(0, .sl 26 (List.map (intA .u64) s1) f_s1), (1, .sl 26 (List.map (intA .u64) s2) f_s2)], []⟩)) (Jr : ∀ w, res = .inr w → w = r) :
    ∀ (rest : List Int) (t13 : Nat) (z : Int) (hI : z = ((t13 : Nat) : Int)) (hd : s1.drop t13 = rest) (H : slices_CompareFunc__uint64_l0s s2 cmp rest t13 = some res), AX Try.prog tab slices_CompareFunc__uint64_F c0 (Rp tab.S c0 (.sc (.int .i64 r)) []) (some ⟨[.code [1, 0, 1, 0, 0], .loop [1, 0, 1, 0], .blk 0, .code [1, 1]], [(0, .sl 26 (List.map (intA .u64) s1) f_s1), (1, .sl 26 (List.map (intA .u64) s2) f_s2), (2, .fn F_cmp C_cmp), (11, .sl 26 (List.map (intA .u64) s1) f_s1), (12, .sc (.int .i64 (((List.map (intA .u64) s1).length : Nat) : Int))), (13, .sc (.int .i64 z))], []⟩) := by
  intro rest
  induction rest with
  | nil =>
    intro t13 z hI hd  H
    subst hI
    rw [slices_CompareFunc__uint64_l0s] at H
    refine .facts 0 fun hf => ?_
    have hlen : s1.length ≤ 9223372036854775807 := by have hq := len_ok hf.2.1; rw [List.length_map] at hq; exact hq
    have hge : s1.length ≤ t13 := List.drop_eq_nil_iff.1 hd
    have hc : (decide (((t13 : Nat) : Int) < (((List.map (intA .u64) s1).length : Nat) : Int))) = false := by rw [List.length_map]; exact decide_eq_false (by omega)
    exact .sg 3 [0,1,2,11,12,13,14] (.cdF hc (.sg 1 [0,1] (.kp [0,1] (.to (J () (Option.some.inj H).symm)))))
  | cons x rest ih =>
    intro t13 z hI hd  H
    subst hI
    rw [slices_CompareFunc__uint64_l0s] at H
    refine .facts 0 fun hf => ?_
    have hlen : s1.length ≤ 9223372036854775807 := by have hq := len_ok hf.2.1; rw [List.length_map] at hq; exact hq
    obtain ⟨hlt, hv_t13, hd2⟩ := drop_cons hd
    have hc : (decide (((t13 : Nat) : Int) < (((List.map (intA .u64) s1).length : Nat) : Int))) = true := by rw [List.length_map]; exact decide_eq_true (by omega)
    have hw : IntKind.i64.wrap (((t13 : Nat) : Int) + 1) = ((t13 + 1 : Nat) : Int) := wrapI_succ (by omega)
    refine .sg 3 [0,1,2,11,12,13,14] (.cdT hc (.sg 4 [0,1,2,11,12,13] (.rg (.sg 1 [0,1,2,11,12,13,15] (.xi [0,1,2,11,12,13,15,16] (intA .u64) hv_t13 (.sg 3 [0,1,2,7,8,11,12,13] (.dn (.sg 3 [0,1,2,7,8,11,12,13,21] (.cd (decide (((t13 : Nat) : Int) ≥ (((List.map (intA .u64) s2).length : Nat) : Int))) H (fun hb H => ?_) (fun hb H => ?_))))))))))
    ·
      refine .sg 2 [6] ?_
      obtain rfl := Option.some.inj H
      obtain rfl := Jr _ rfl
      exact .ret Try.func93 hc0
    ·
      refine .sg 2 [0,1,2,7,8,11,12,13] (.rg (.sg 2 [0,1,2,8,11,12,13,22,23] (bndO H fun x1 hv H => (.xi [0,1,2,8,11,12,13,24] (intA .u64) hv (.sg 2 [0,1,2,8,9,11,12,13] (.dn (.sg 1 [0,1,2,8,9,11,12,13] (.rg (.sg 3 [0,1,2,11,12,13,26,27,28] (.cf [0,1,2,11,12,13,29] (H_cmp x x1) P_cmp O_cmp (.sg 1 [0,1,2,10,11,12,13] (.dn (.sg 2 [0,1,2,10,11,12,13,31] (.cd ((cmp x x1) != 0) H (fun hb H => ?_) (fun hb H => ?_)))))))))))))))
      ·
        refine .sg 2 [6] ?_
        obtain rfl := Option.some.inj H
        obtain rfl := Jr _ rfl
        exact .ret Try.func93 hc0
      ·
        exact .sg 3 [0,1,2,11,12,13] (.kp [0,1,2,11,12,13] (.into (.cl (ih (t13 + 1) _ hw hd2 H))))

def slices_CompareFunc__uint64_raw (s1 : List Int) (s2 : List Int) (cmp : Int → Int → Int) : Option (Int) :=
  loopO (slices_CompareFunc__uint64_l0s s2 cmp s1 0) fun v =>
  (bif (decide ((((List.map (intA .u64) s1).length : Nat) : Int) < (((List.map (intA .u64) s2).length : Nat) : Int))) then
    some (-1)
  else
    some 0)
theorem slices_CompareFunc__uint64_walk (s1 : List Int) (s2 : List Int) (F_cmp : FuncId) (C_cmp : List AV) (cmp : Int → Int → Int) (P_cmp : plainL C_cmp = true) (O_cmp : C_cmp.all oneA = true) (H_cmp : ∀ (y0 : Int) (y1 : Int), ACalls Try.prog tab.S F_cmp ([.sc (.int .u64 y0), .sc (.int .u64 y1)] ++ C_cmp) [] (.sc (.int .i64 (cmp y0 y1))) []) (f_s1 : Bool) (f_s2 : Bool) (r : Int) (H : slices_CompareFunc__uint64_raw s1 s2 cmp = some r) : ACalls Try.prog tab.S 93 [.sl 26 (List.map (intA .u64) s1) f_s1, .sl 26 (List.map (intA .u64) s2) f_s2, .fn F_cmp C_cmp] [] (.sc (.int .i64 r)) [] := by
  refine .of_AX slices_CompareFunc__uint64_F Try.func93 fun c0 hc0 => ?_
  rw [slices_CompareFunc__uint64_raw] at H
  refine .sg 6 [0,1,2,11,12,13] ?_
  rcases loopO_some H with ⟨v, hv, H⟩ | hv
  case inr =>
    exact .into (.to (slices_CompareFunc__uint64_l0_walk s1 s2 F_cmp C_cmp cmp P_cmp O_cmp H_cmp f_s1 f_s2 _ c0 hc0 (.inr _) (fun _ e => by cases e) (fun _ e => (Sum.inr.inj e).symm) s1 0 _ rfl rfl hv))
  refine .into (.to (slices_CompareFunc__uint64_l0_walk s1 s2 F_cmp C_cmp cmp P_cmp O_cmp H_cmp f_s1 f_s2 r c0 hc0 (.inl v) (fun w e => ?_) (fun _ e => by cases e) s1 0 _ rfl rfl hv))
  have e := Sum.inl.inj e
  subst e
  refine .sg 3 [38] (.cd (decide ((((List.map (intA .u64) s1).length : Nat) : Int) < (((List.map (intA .u64) s2).length : Nat) : Int))) H (fun hb H => ?_) (fun hb H => ?_))
  ·
    refine .sg 2 [6] ?_
    obtain rfl := Option.some.inj H
    exact .ret Try.func93 hc0
  ·
    refine .sg 3 [6] ?_
    obtain rfl := Option.some.inj H
    exact .ret Try.func93 hc0

def cmpL {α : Type} (cmp : α → α → Int) : List α → List α → Int
  | [], [] => 0
  | [], _ :: _ => -1
  | _ :: _, [] => 1
  | x :: l, y :: r => bif cmp x y != 0 then cmp x y else cmpL cmp l r
def cmpS {α : Type} (cmp : α → α → Int) : List α → List α → Sum Unit Int
  | [], _ => .inl ()
  | _ :: _, [] => .inr 1
  | x :: l, y :: r => bif cmp x y != 0 then .inr (cmp x y) else cmpS cmp l r
theorem cmpS_L {α : Type} (cmp : α → α → Int) : ∀ (l r : List α), (match cmpS cmp l r with | .inl _ => if l.length < r.length then -1 else 0 | .inr v => v) = cmpL cmp l r
  | [], [] => rfl
  | [], _ :: _ => by simp [cmpS, cmpL]
  | _ :: _, [] => rfl
  | x :: l, y :: r => by
      rw [cmpS, cmpL, ← cmpS_L cmp l r]
      cases cmp x y != 0
      · simp only [cond_false, List.length_cons, Nat.add_lt_add_iff_right]
      · rfl
theorem slices_CompareFunc__uint64_l0s_eq (s2 : List Int) (cmp : Int → Int → Int) : ∀ (l : List Int) (i : Nat), slices_CompareFunc__uint64_l0s s2 cmp l i = some (cmpS cmp l (s2.drop i))
  | [], i => by rw [slices_CompareFunc__uint64_l0s]; rfl
  | x :: l, i => by
      rw [slices_CompareFunc__uint64_l0s, List.length_map]
      by_cases h : i < s2.length
      · have hc : decide (((i : Nat) : Int) ≥ ((s2.length : Nat) : Int)) = false := decide_eq_false (by omega)
        rw [hc, cond_false, ixO_lt h, Option.bind_some, List.drop_eq_getElem_cons h, cmpS, slices_CompareFunc__uint64_l0s_eq s2 cmp l (i + 1)]
        cases cmp x s2[i] != 0 <;> rfl
      · have hc : decide (((i : Nat) : Int) ≥ ((s2.length : Nat) : Int)) = true := decide_eq_true (by omega)
        rw [hc, cond_true, List.drop_eq_nil_of_le (by omega)]
        rfl
theorem slices_CompareFunc__uint64_eq (s1 s2 : List Int) (cmp : Int → Int → Int) : slices_CompareFunc__uint64_raw s1 s2 cmp = some (cmpL cmp s1 s2) := by
  rw [slices_CompareFunc__uint64_raw, slices_CompareFunc__uint64_l0s_eq, List.drop_zero, ← cmpS_L]
  cases cmpS cmp s1 s2 with
  | inr v => rfl
  | inl u =>
    show (bif _ then _ else _) = _
    rw [List.length_map, List.length_map]
    by_cases h : s1.length < s2.length
    · rw [decide_eq_true (by omega), if_pos h]; rfl
    · rw [decide_eq_false (by omega), if_neg h]; rfl
theorem slices_CompareFunc__uint64_ok (s1 s2 : List Int) (F_cmp : FuncId) (C_cmp : List AV) (cmp : Int → Int → Int) (P_cmp : plainL C_cmp = true) (O_cmp : C_cmp.all oneA = true) (H_cmp : ∀ (y0 : Int) (y1 : Int), ACalls Try.prog tab.S F_cmp ([.sc (.int .u64 y0), .sc (.int .u64 y1)] ++ C_cmp) [] (.sc (.int .i64 (cmp y0 y1))) []) (f_s1 f_s2 : Bool) :
    ACalls Try.prog tab.S 93 [.sl 26 (List.map (intA .u64) s1) f_s1, .sl 26 (List.map (intA .u64) s2) f_s2, .fn F_cmp C_cmp] [] (.sc (.int .i64 (cmpL cmp s1 s2))) [] :=
  slices_CompareFunc__uint64_walk s1 s2 F_cmp C_cmp cmp P_cmp O_cmp H_cmp f_s1 f_s2 _ (slices_CompareFunc__uint64_eq s1 s2 cmp)

/-! ### head.Compare: function 89 -/
noncomputable def head_Compare_F : Go.Sh.Fn := ⟨89, bodyOf Try.f89, 8⟩
def head_Compare (a : List Int) (b : List Int) : Int :=
  (cmpL cmp_Compare_uint64 a b)
theorem head_Compare_calls (a : List Int) (b : List Int) : ACalls Try.prog tab.S 89 [.arr .u64 12 a, .arr .u64 12 b] [] (.sc (.int .i64 (head_Compare a b))) [] := by
  generalize H : head_Compare a b = r
  refine .of_AX head_Compare_F Try.func89 fun c0 hc0 => ?_
  rw [head_Compare] at H
  refine .sg 1 [0,1] (.rg (.bx [1,2] (.bx [2,3] (.sg 1 [2,3] (.dn (.sg 1 [2,3] (.rg (.se [3,5] (.se [5,6] (.cl_ [7] (caps := []) (slices_CompareFunc__uint64_ok a b 94 [] cmp_Compare_uint64 rfl rfl (fun y0 y1 => cmp_Compare_uint64_calls y0 y1) true true) (.same rfl (.same rfl (.fn (caps := []) (by kernel_rfl) .nil))) (by kernel_rfl) rfl rfl (.sg 1 [4] (.dn ?_))))))))))))
  subst H
  exact .ret Try.func89 hc0

/-! ### cmp.Or: function 88 -/
noncomputable def cmp_Or_int_F : Go.Sh.Fn := ⟨88, bodyOf Try.f88, 18⟩
def cmp_Or_int_l0s : List Int → Sum (Unit) (Int)
  | [] =>
    (.inl ())
  | x :: rest =>
    (bif (x != 0) then
      (.inr x)
    else
      cmp_Or_int_l0s rest )
theorem cmp_Or_int_l0_walk (vals : List Int) (f_vals : Bool) (r : Int) (c0 : Ctx) (hc0 : c0.m.length = 0) (res : Sum (Unit) (Int)) (J : ∀ w : Unit, res = .inl w → AX Try.prog tab cmp_Or_int_F c0 (Rp tab.S c0 (.sc (.int .i64 r)) []) (some ⟨[.code [1, 1, 1]], [(3, .sc (.int .i64 0))], []⟩)) (Jr : ∀ w, res = .inr w → w = r) :
    ∀ (rest : List Int) (t8 : Nat) (z : Int) (hI : z = ((t8 : Nat) : Int)) (hd : vals.drop t8 = rest) (H : cmp_Or_int_l0s rest = res), AX Try.prog tab cmp_Or_int_F c0 (Rp tab.S c0 (.sc (.int .i64 r)) []) (some ⟨[.code [1, 1, 0, 1, 0, 0], .loop [1, 1, 0, 1, 0], .blk 0, .code [1, 1, 1]], [(3, .sc (.int .i64 0)), (6, .sl 3 (List.map (intA .i64) vals) f_vals), (7, .sc (.int .i64 (((List.map (intA .i64) vals).length : Nat) : Int))), (8, .sc (.int .i64 z))], []⟩) := by
  intro rest
  induction rest with
  | nil =>
    intro t8 z hI hd  H
    subst hI
    rw [cmp_Or_int_l0s] at H
    refine .facts 6 fun hf => ?_
    have hlen : vals.length ≤ 9223372036854775807 := by have hq := len_ok hf.2.1; rw [List.length_map] at hq; exact hq
    have hge : vals.length ≤ t8 := List.drop_eq_nil_iff.1 hd
    have hc : (decide (((t8 : Nat) : Int) < (((List.map (intA .i64) vals).length : Nat) : Int))) = false := by rw [List.length_map]; exact decide_eq_false (by omega)
    exact .sg 3 [3,6,7,8,9] (.cdF hc (.sg 1 [3] (.kp [3] (.to (J () H.symm)))))
  | cons x rest ih =>
    intro t8 z hI hd  H
    subst hI
    rw [cmp_Or_int_l0s] at H
    refine .facts 6 fun hf => ?_
    have hlen : vals.length ≤ 9223372036854775807 := by have hq := len_ok hf.2.1; rw [List.length_map] at hq; exact hq
    obtain ⟨hlt, hv_t8, hd2⟩ := drop_cons hd
    have hc : (decide (((t8 : Nat) : Int) < (((List.map (intA .i64) vals).length : Nat) : Int))) = true := by rw [List.length_map]; exact decide_eq_true (by omega)
    have hw : IntKind.i64.wrap (((t8 : Nat) : Int) + 1) = ((t8 + 1 : Nat) : Int) := wrapI_succ (by omega)
    refine .sg 3 [3,6,7,8,9] (.cdT hc (.sg 4 [3,6,7,8] (.rg (.xi [3,6,7,8,10] (intA .i64) hv_t8 (.sg 2 [3,5,6,7,8] (.dn (.sg 2 [3,5,6,7,8,14] (.cd (x != 0) H (fun hb H => ?_) (fun hb H => ?_)))))))))
    ·
      refine .sg 2 [2] ?_
      subst H
      obtain rfl := Jr _ rfl
      exact .ret Try.func88 hc0
    ·
      exact .sg 3 [3,6,7,8] (.kp [3,6,7,8] (.into (.cl (ih (t8 + 1) _ hw hd2 H))))

def cmp_Or_int (vals : List Int) : Int :=
  sumG (fun q => q) (cmp_Or_int_l0s vals) fun v =>
  0
theorem cmp_Or_int_calls (vals : List Int) (f_vals : Bool) : ACalls Try.prog tab.S 88 [.sl 3 (List.map (intA .i64) vals) f_vals] [] (.sc (.int .i64 (cmp_Or_int vals))) [] := by
  generalize H : cmp_Or_int vals = r
  refine .of_AX cmp_Or_int_F Try.func88 fun c0 hc0 => ?_
  rw [cmp_Or_int] at H
  refine .sg 8 [3,6,7,8] ?_
  rcases sumG_eq H with ⟨v, hv, H⟩ | ⟨r1, hv, hr1⟩
  case inr =>
    refine .into ?_
    replace hr1 : r1 = r := hr1
    subst hr1
    exact .to (cmp_Or_int_l0_walk vals f_vals _ c0 hc0 (.inr _) (fun _ e => by cases e) (fun _ e => (Sum.inr.inj e).symm) vals 0 _ rfl rfl hv)
  refine .into (.to (cmp_Or_int_l0_walk vals f_vals r c0 hc0 (.inl v) (fun w e => ?_) (fun _ e => by cases e) vals 0 _ rfl rfl hv))
  have e := Sum.inl.inj e
  subst e
  refine .sg 2 [2] ?_
  subst H
  exact .ret Try.func88 hc0

/-! ### cube.Compare: function 80 -/
noncomputable def cube_Compare_F : Go.Sh.Fn := ⟨80, bodyOf Try.f80, 17⟩
def cube_Compare (a : Cube) (b : Cube) : Int :=
  (cmp_Or_int [(head_Compare a.Care b.Care), (head_Compare a.Value b.Value)])
theorem cube_Compare_calls (a : Cube) (b : Cube) : ACalls Try.prog tab.S 80 [Cube.av a, Cube.av b] [] (.sc (.int .i64 (cube_Compare a b))) [] := by
  generalize H : cube_Compare a b = r
  refine .of_AX cube_Compare_F Try.func80 fun c0 hc0 => ?_
  rw [cube_Compare] at H
  refine .sg 3 [2,3] (.rg (.sg 4 [2,3,6,8] (.cp [2,3,9] (head_Compare_calls a.Care b.Care) (.sg 4 [9,11,13] (.cp [9,14] (head_Compare_calls a.Value b.Value) (.sg 1 [15] (.cp [16] (cmp_Or_int_calls [(head_Compare a.Care b.Care), (head_Compare a.Value b.Value)] true) (.sg 1 [4] (.dn ?_)))))))))
  subst H
  exact .ret Try.func80 hc0

/-! ### rule.compare: function 68 -/
noncomputable def rule_compare_F : Go.Sh.Fn := ⟨68, bodyOf Try.f68, 20⟩
def rule_compare (a : Rule) (b : Rule) : Int :=
  (bif (a.Prio != b.Prio) then
    (bif (decide (a.Prio > b.Prio)) then
      (-1)
    else
      1)
  else
    (cube_Compare a.Match b.Match))
theorem rule_compare_calls (a : Rule) (b : Rule) : ACalls Try.prog tab.S 68 [Rule.av a, Rule.av b] [] (.sc (.int .i64 (rule_compare a b))) [] := by
  generalize H : rule_compare a b = r
  refine .of_AX rule_compare_F Try.func68 fun c0 hc0 => ?_
  rw [rule_compare] at H
  refine .sg 5 [2,3,9] (.cd (a.Prio != b.Prio) H (fun hb H => ?_) (fun hb H => ?_))
  ·
    refine .sg 3 [14] (.cd (decide (a.Prio > b.Prio)) H (fun hb H => ?_) (fun hb H => ?_))
    ·
      refine .sg 2 [4] ?_
      subst H
      exact .ret Try.func68 hc0
    ·
      refine .sg 3 [4] ?_
      subst H
      exact .ret Try.func68 hc0
  ·
    refine .sg 2 [2,3] (.rg (.sg 4 [16,18] (.cp [19] (cube_Compare_calls a.Match b.Match) (.sg 1 [4] (.dn ?_)))))
    subst H
    exact .ret Try.func68 hc0

/-! ### rule.Before: function 47 -/
noncomputable def rule_Before_F : Go.Sh.Fn := ⟨47, bodyOf Try.f47, 9⟩
def rule_Before (a : Rule) (b : Rule) : Bool :=
  (decide ((rule_compare a b) < 0))
theorem rule_Before_calls (a : Rule) (b : Rule) : ACalls Try.prog tab.S 47 [Rule.av a, Rule.av b] [] (.sc (.bool (rule_Before a b))) [] := by
  generalize H : rule_Before a b = r
  refine .of_AX rule_Before_F Try.func47 fun c0 hc0 => ?_
  rw [rule_Before] at H
  refine .sg 3 [2,3] (.rg (.sg 2 [5,6] (.cp [7] (rule_compare_calls a b) (.sg 2 [4] (.dn ?_)))))
  subst H
  exact .ret Try.func47 hc0

/-! ### rule.Key: function 44 -/
noncomputable def rule_Key_F : Go.Sh.Fn := ⟨44, bodyOf Try.f44, 17⟩
def rule_Key (a : Rule) (b : Rule) : Bool :=
  (((a.Match.Value == b.Match.Value) && (a.Match.Care == b.Match.Care)) && (a.Prio == b.Prio))
theorem rule_Key_calls (a : Rule) (b : Rule) : ACalls Try.prog tab.S 44 [Rule.av a, Rule.av b] [] (.sc (.bool (rule_Key a b))) [] := by
  generalize H : rule_Key a b = r
  refine .of_AX rule_Key_F Try.func44 fun c0 hc0 => ?_
  rw [rule_Key] at H
  refine .sg 3 [2,3] (.rg (.sg 4 [2,3,6,8] (.eq_ [2,3,9] 9 (.sg 1 [2,3,10] (.mx 0 [16] (.sg 1 [4] (.dn ?_)))))))
  subst H
  exact .ret Try.func44 hc0

end Go.Proofs.Ytlfiemphadkimaa

set_option linter.unusedVariables false
set_option linter.unusedSimpArgs false
set_option maxRecDepth 100000
set_option maxHeartbeats 4000000
namespace Go.Proofs.Ytlfiemphadkimaa
open Go.Sh
noncomputable def slices_Clone__api_Act_F : Go.Sh.Fn := ⟨35, bodyOf Try.f35, 8⟩
theorem slices_Clone__api_Act_calls (s : List Act) (f_s : Bool) : ACalls Try.prog tab.S 35 [.sl 60 (List.map Act.av s) f_s] [] (.sl 60 (List.map Act.av s) false) [] := by
  have hG := tab_ok
  have hm := mixed
  have hE : Ent Try.prog 35 := ent_of Try.func35 (by kernel_rfl) (by kernel_rfl)
  cases s with
  | nil =>
    refine ACalls.empty hE fun p c => ?_
    refine ACalls.of_AR (G := tab) slices_Clone__api_Act_F (fn := Try.f35) Try.func35 (by kernel_rfl) (by kernel_rfl) (by kernel_rfl) (Nat.le_of_ble_eq_true (by kernel_rfl)) ?_
    intro c0 hc0
    replace hc0 : c0.m.length = 0 := hc0
    refine AR.seg hG hm 4 [0] (k' := [.code [1, 0, 0], .code [1, 0, 1], .code [1, 1]]) (t' := [(0, .sc (.slice p 0 c))]) (h' := []) (by kernel_rfl) ?_
    refine AR.reg hm [.pure, .pure] (by kernel_rfl) ?_
    refine DK.seg hG 1 [0, 3] (t' := [(0, .sc (.slice p 0 c)), (3, .sc (.slice p 0 c))]) (h' := []) (by kernel_rfl) rfl ?_
    refine DK.op' [0, 4] (t' := [(0, .sc (.slice p 0 c)), (4, .sc (.bool p.isNone))]) (h' := []) (LSpec.nilEq hG (p := p) (l := 0) (c := c) (by kernel_rfl)) (by kernel_rfl) rfl (by kernel_rfl) rfl ?_
    refine DK.done (by kernel_rfl) (by kernel_rfl) ?_
    refine AR.cond (.tmp 4) p.isNone (by kernel_rfl) (by kernel_rfl) (fun hb => ?ht) (fun hb => ?hf)
    case ht =>
      refine AR.seg hG hm 2 [2] (k' := [.code [1, 0, 1, 0, 1], .code [1, 1]]) (t' := [(2, .sl 0 [] true)]) (h' := []) (by kernel_rfl) ?_
      exact AR.ret0 (fn := Try.f35) hG Try.func35 (by kernel_rfl) hc0 (r0 := .sl 0 [] true) (by kernel_rfl) (WkV.sl (Wk1.nil 60 false))
    case hf =>
      refine AR.seg hG hm 2 [0] (k' := [.code [1, 1, 0], .code [1, 1, 1]]) (t' := [(0, .sc (.slice p 0 c))]) (h' := []) (by kernel_rfl) ?_
      refine AR.reg hm [.pure, .pure, .pure, .pure] (by kernel_rfl) ?_
      refine DK.seg hG 2 [5, 6] (t' := [(5, .sl 60 [] true), (6, .sc (.slice p 0 c))]) (h' := []) (by kernel_rfl) rfl ?_
      refine DK.op' [7] (t' := [(7, .sl 60 [] true)]) (h' := []) (LSpec.app0 hG (e0 := 60) (rows := []) (f := true) (by kernel_rfl)) (by kernel_rfl) rfl (by kernel_rfl) rfl ?_
      refine DK.seg hG 1 [2] (t' := [(2, .sl 60 [] true)]) (h' := []) (by kernel_rfl) rfl ?_
      refine DK.done (by kernel_rfl) (by kernel_rfl) ?_
      exact AR.ret0 (fn := Try.f35) hG Try.func35 (by kernel_rfl) hc0 (r0 := .sl 60 [] true) (by kernel_rfl) (WkV.sl (Wk1.nil 60 false))
  | cons x xs =>
    refine ACalls.facts hE fun hf => ?_
    have hfit : (([] : List Act).length + (x :: xs).length) * 32 ≤ reach := by
      have h1 : (List.map Act.av (x :: xs)).length * 32 ≤ reach := hf.1.1
      simpa using h1
    refine ACalls.of_AR (G := tab) slices_Clone__api_Act_F (fn := Try.f35) Try.func35 (by kernel_rfl) (by kernel_rfl) (by kernel_rfl) (Nat.le_of_ble_eq_true (by kernel_rfl)) ?_
    intro c0 hc0
    replace hc0 : c0.m.length = 0 := hc0
    refine AR.seg hG hm 4 [0] (k' := [.code [1, 0, 0], .code [1, 0, 1], .code [1, 1]]) (t' := [(0, .sl 60 (List.map Act.av (x :: xs)) f_s)]) (h' := []) (by kernel_rfl) ?_
    refine AR.reg hm [.pure, .pure] (by kernel_rfl) ?_
    refine DK.seg hG 1 [0, 3] (t' := [(0, .sl 60 (List.map Act.av (x :: xs)) f_s), (3, .sl 60 (List.map Act.av (x :: xs)) f_s)]) (h' := []) (by kernel_rfl) rfl ?_
    refine DK.op' [0, 4] (t' := [(0, .sl 60 (List.map Act.av (x :: xs)) f_s), (4, .sc (.bool false))]) (h' := []) (LSpec.neNil hG (by kernel_rfl)) (by kernel_rfl) rfl (by kernel_rfl) rfl ?_
    refine DK.done (by kernel_rfl) (by kernel_rfl) ?_
    refine AR.seg hG hm 3 [0] (k' := [.code [1, 1, 0], .code [1, 1, 1]]) (t' := [(0, .sl 60 (List.map Act.av (x :: xs)) f_s)]) (h' := []) (by kernel_rfl) ?_
    refine AR.reg hm [.pure, .pure, .loud, .pure] (by kernel_rfl) ?_
    refine DK.seg hG 2 [5, 6] (t' := [(5, .sl 60 [] true), (6, .sl 60 (List.map Act.av (x :: xs)) f_s)]) (h' := []) (by kernel_rfl) rfl ?_
    refine DK.op' [7] (t' := [(7, .own 0 1)]) (h' := [.row 60 (List.map Act.av ([] ++ (x :: xs))) 1 true]) (LSpec.appendN hG Act.av [] (x :: xs) 60 32 hfit (by kernel_rfl)) (by kernel_rfl) (by kernel_rfl) (by kernel_rfl) rfl ?_
    refine DK.seg hG 1 [2] (t' := [(2, .own 0 1)]) (h' := [.row 60 (List.map Act.av ([] ++ (x :: xs))) 1 true]) (by kernel_rfl) rfl ?_
    refine DK.done (by kernel_rfl) (by kernel_rfl) ?_
    exact AR.ret0 (fn := Try.f35) hG Try.func35 (by kernel_rfl) hc0 (r0 := .sl 60 (List.map Act.av (x :: xs)) false) (by kernel_rfl) (WkV.refl _)

/-! ### slices.Clip: function 34 -/
noncomputable def slices_Clip__api_Act_F : Go.Sh.Fn := ⟨34, bodyOf Try.f34, 9⟩
def slices_Clip__api_Act_raw (s : List Act) : Option ((List Act)) :=
  (sliceO s none (some (((List.map Act.av s).length : Nat) : Int)) (some (((List.map Act.av s).length : Nat) : Int))).bind fun x =>
  some x
theorem slices_Clip__api_Act_walk (s : List Act) (f_s : Bool) (r : (List Act)) (H : slices_Clip__api_Act_raw s = some r) : ACalls Try.prog tab.S 34 [.sl 60 (List.map Act.av s) f_s] [] (.sl 60 (List.map Act.av r) true) [] := by
  refine .of_AX slices_Clip__api_Act_F Try.func34 fun c0 hc0 => ?_
  rw [slices_Clip__api_Act_raw] at H
  refine .sg 3 [0] (.rg (.sg 5 [3,5,7] (bndO H fun x hv H => (.so [8] Act.av hv (.sg 1 [2] (.dn ?_))))))
  obtain rfl := Option.some.inj H
  exact .ret Try.func34 hc0

theorem slices_Clip__api_Act_calls (s : List Act) (f_s : Bool) : ACalls Try.prog tab.S 34 [.sl 60 (List.map Act.av s) f_s] [] (.sl 60 (List.map Act.av s) true) [] :=
  slices_Clip__api_Act_walk s f_s s (by simp [slices_Clip__api_Act_raw, sliceO])

/-! ### slices.Clip: function 61 -/
noncomputable def slices_Clip__api_Rule_F : Go.Sh.Fn := ⟨61, bodyOf Try.f61, 9⟩
def slices_Clip__api_Rule_raw (s : List Rule) : Option ((List Rule)) :=
  (sliceO s none (some (((List.map Rule.av s).length : Nat) : Int)) (some (((List.map Rule.av s).length : Nat) : Int))).bind fun x =>
  some x
theorem slices_Clip__api_Rule_walk (s : List Rule) (f_s : Bool) (r : (List Rule)) (H : slices_Clip__api_Rule_raw s = some r) : ACalls Try.prog tab.S 61 [.sl 51 (List.map Rule.av s) f_s] [] (.sl 51 (List.map Rule.av r) true) [] := by
  refine .of_AX slices_Clip__api_Rule_F Try.func61 fun c0 hc0 => ?_
  rw [slices_Clip__api_Rule_raw] at H
  refine .sg 3 [0] (.rg (.sg 5 [3,5,7] (bndO H fun x hv H => (.so [8] Rule.av hv (.sg 1 [2] (.dn ?_))))))
  obtain rfl := Option.some.inj H
  exact .ret Try.func61 hc0

theorem slices_Clip__api_Rule_calls (s : List Rule) (f_s : Bool) : ACalls Try.prog tab.S 61 [.sl 51 (List.map Rule.av s) f_s] [] (.sl 51 (List.map Rule.av s) true) [] :=
  slices_Clip__api_Rule_walk s f_s s (by simp [slices_Clip__api_Rule_raw, sliceO])

/-! ### rule.copied: function 60 -/
noncomputable def rule_copied_F : Go.Sh.Fn := ⟨60, bodyOf Try.f60, 9⟩
def rule_copied (r2 : Rule) : Rule :=
  r2
theorem rule_copied_calls (r2 : Rule) : ACalls Try.prog tab.S 60 [Rule.av r2] [] (Rule.av (rule_copied r2)) [] := by
  generalize H : rule_copied r2 = r
  refine .of_AX rule_copied_F Try.func60 fun c0 hc0 => ?_
  rw [rule_copied] at H
  refine .sg 3 [1,2] (.rg (.sg 2 [1,2,4] (.cp [1,2,5] (slices_Clone__api_Act_calls r2.Acts false) (.cp [1,2,6] (slices_Clip__api_Act_calls r2.Acts false) (.sg 2 [1,2] (.dn (.sg 2 [2] ?_)))))))
  subst H
  exact .ret Try.func60 hc0 [] [(0, false)]

end Go.Proofs.Ytlfiemphadkimaa

set_option linter.unusedVariables false
set_option linter.unusedSimpArgs false
set_option maxRecDepth 100000
set_option maxHeartbeats 4000000
namespace Go.Proofs.Ytlfiemphadkimaa
open Go.Sh
/-! ### slices.BinarySearchFunc: function 67 -/
noncomputable def slices_BinarySearchFunc__api_Rule_F : Go.Sh.Fn := ⟨67, bodyOf Try.f67, 49⟩
def slices_BinarySearchFunc__api_Rule_l0 (x : List Rule) (target : Rule) (cmp : Rule → Rule → Int) : Nat → Int → Int → Option (Int)
  | 0, _, _ => none
  | m + 1, i, j =>
    (bif (decide (i < j)) then
    (ixO x (IntKind.i64.wrap (Int.fdiv (IntKind.u64.wrap (IntKind.i64.wrap (i + j))) (2 ^ (min (1 : Int).toNat (IntKind.u64).bits))))).bind fun x1 =>
    slices_BinarySearchFunc__api_Rule_l0 x target cmp m (bif (decide ((cmp x1 target) < 0)) then (IntKind.i64.wrap ((IntKind.i64.wrap (Int.fdiv (IntKind.u64.wrap (IntKind.i64.wrap (i + j))) (2 ^ (min (1 : Int).toNat (IntKind.u64).bits)))) + 1)) else i) (bif (decide ((cmp x1 target) < 0)) then j else (IntKind.i64.wrap (Int.fdiv (IntKind.u64.wrap (IntKind.i64.wrap (i + j))) (2 ^ (min (1 : Int).toNat (IntKind.u64).bits)))))
  else
    some i)
theorem slices_BinarySearchFunc__api_Rule_l0_walk (q0 : Nat) (x : List Rule) (target : Rule) (F_cmp : FuncId) (C_cmp : List AV) (cmp : Rule → Rule → Int) (P_cmp : plainL C_cmp = true) (O_cmp : C_cmp.all oneA = true) (H_cmp : ∀ (y0 : Rule) (y1 : Rule), ACalls Try.prog tab.S F_cmp ([Rule.av y0, Rule.av y1] ++ C_cmp) [] (.sc (.int .i64 (cmp y0 y1))) []) (f_x : Bool) (r : Int × Bool) (c0 : Ctx) (hc0 : c0.m.length = 0) (res : Int) (J : AX Try.prog tab slices_BinarySearchFunc__api_Rule_F c0 (Rp tab.S c0 (.tup [.sc (.int .i64 r.1), .sc (.bool r.2)]) []) (some ⟨[.code [1, 1, 1, 1]], [(0, .sl 51 (List.map Rule.av x) f_x), (2, .fn F_cmp C_cmp), (4, .ptr 0 0 none), (8, .sc (.int .i64 (((List.map Rule.av x).length : Nat) : Int))), (9, .sc (.int .i64 res))], [.box 51 (Rule.ch target)]⟩)) :
    ∀ (m : Nat) (i : Int) (j : Int) (H : slices_BinarySearchFunc__api_Rule_l0 x target cmp m i j = some res), AX Try.prog tab slices_BinarySearchFunc__api_Rule_F c0 (Rp tab.S c0 (.tup [.sc (.int .i64 r.1), .sc (.bool r.2)]) []) (some ⟨[.code [1, 1, 1, 0, 0, 0], .loop [1, 1, 1, 0, 0], .blk 0, .code [1, 1, 1, 1]], [(0, .sl 51 (List.map Rule.av x) f_x), (2, .fn F_cmp C_cmp), (4, .ptr 0 0 none), (8, .sc (.int .i64 (((List.map Rule.av x).length : Nat) : Int))), (9, .sc (.int .i64 i)), (10, .sc (.int .i64 j))], [.box 51 (Rule.ch target)]⟩) := by
  intro m
  induction m with
  | zero => intro i j H; cases H
  | succ m ih =>
    intro i j H
    rw [slices_BinarySearchFunc__api_Rule_l0] at H
    refine .sg 3 [0,2,4,8,9,10,17] (.cd (decide (i < j)) H (fun hb H => ?_) (fun hb H => ?_))
    ·
      refine .sg 3 [0,2,4,8,9,10] (.rg (.sg 4 [0,2,4,8,9,10,21] (.sr_ [0,2,4,8,9,10,22] (b := 1) (by decide) (.sg 2 [0,2,4,8,9,10,11] (.dn (.sg 1 [0,2,4,8,9,10,11] (.rg (.sg 3 [0,2,4,8,9,10,11,24,25,26] (bndO H fun x1 hv H => (.xi [0,2,4,8,9,10,11,24,27] Rule.av hv (.sg 2 [0,2,4,8,9,10,11,24,28,29] (.cf [0,2,4,8,9,10,11,30] (H_cmp x1 target) P_cmp O_cmp (.sg 1 [0,2,4,8,9,10,11,31] (.dn (.jn (decide ((cmp x1 target) < 0)) [0, 2, 4, 8, 9, 10] (fun z => [(9, .sc (.int .i64 (bif z then (IntKind.i64.wrap ((IntKind.i64.wrap (Int.fdiv (IntKind.u64.wrap (IntKind.i64.wrap (i + j))) (2 ^ (min (1 : Int).toNat (IntKind.u64).bits)))) + 1)) else i))), (10, .sc (.int .i64 (bif z then j else (IntKind.i64.wrap (Int.fdiv (IntKind.u64.wrap (IntKind.i64.wrap (i + j))) (2 ^ (min (1 : Int).toNat (IntKind.u64).bits)))))))]) ?J3 (fun hb J => ?ht3) (fun hb J => ?hf3))))))))))))))))
      case ht3 =>
        exact .sg 1 [0,2,4,8,9,10] (.cl J)
      case hf3 =>
        exact .sg 1 [0,2,4,8,9,10] (.cl J)
      exact .sg 1 [0,2,4,8,9,10] (.kp [0,2,4,8,9,10] (.into (.to (ih (bif (decide ((cmp x1 target) < 0)) then (IntKind.i64.wrap ((IntKind.i64.wrap (Int.fdiv (IntKind.u64.wrap (IntKind.i64.wrap (i + j))) (2 ^ (min (1 : Int).toNat (IntKind.u64).bits)))) + 1)) else i) (bif (decide ((cmp x1 target) < 0)) then j else (IntKind.i64.wrap (Int.fdiv (IntKind.u64.wrap (IntKind.i64.wrap (i + j))) (2 ^ (min (1 : Int).toNat (IntKind.u64).bits))))) H))))
    ·
      refine .sg 1 [0,2,4,8,9] (.kp [0,2,4,8,9] ?_)
      obtain rfl := Option.some.inj H
      exact .to J
def slices_BinarySearchFunc__api_Rule_raw (q0 : Nat) (x : List Rule) (target : Rule) (cmp : Rule → Rule → Int) : Option (Int × Bool) :=
  (slices_BinarySearchFunc__api_Rule_l0 x target cmp q0 0 (((List.map Rule.av x).length : Nat) : Int)).bind fun v =>
  (bif (decide (v < (((List.map Rule.av x).length : Nat) : Int))) then
    (ixO x v).bind fun x1 =>
    some (v, ((cmp x1 target) == 0))
  else
    some (v, false))
theorem slices_BinarySearchFunc__api_Rule_walk (q0 : Nat) (x : List Rule) (target : Rule) (F_cmp : FuncId) (C_cmp : List AV) (cmp : Rule → Rule → Int) (P_cmp : plainL C_cmp = true) (O_cmp : C_cmp.all oneA = true) (H_cmp : ∀ (y0 : Rule) (y1 : Rule), ACalls Try.prog tab.S F_cmp ([Rule.av y0, Rule.av y1] ++ C_cmp) [] (.sc (.int .i64 (cmp y0 y1))) []) (f_x : Bool) (r : Int × Bool) (H : slices_BinarySearchFunc__api_Rule_raw q0 x target cmp = some r) : ACalls Try.prog tab.S 67 [.sl 51 (List.map Rule.av x) f_x, Rule.av target, .fn F_cmp C_cmp] [] (.tup [.sc (.int .i64 r.1), .sc (.bool r.2)]) [] := by
  refine .of_AX slices_BinarySearchFunc__api_Rule_F Try.func67 fun c0 hc0 => ?_
  rw [slices_BinarySearchFunc__api_Rule_raw] at H
  refine .sg 8 [0,2,4,8,9,10] ?_
  refine bndO H fun v hv H => (.into (.to (slices_BinarySearchFunc__api_Rule_l0_walk q0 x target F_cmp C_cmp cmp P_cmp O_cmp H_cmp f_x r c0 hc0 v ?_ q0 0 (((List.map Rule.av x).length : Nat) : Int) hv)))
  refine .sg 1 [0,2,4,8,9] (.rg (.sg 5 [0,2,4,9,35,39] (.sp 39 (decide (v < (((List.map Rule.av x).length : Nat) : Int))) H (fun hb H => ?_) (fun hb H => ?_))))
  ·
    refine .sg 3 [4,35,39,40,41,42] (bndO H fun x1 hv H => (.xi [4,35,39,40,43] Rule.av hv (.sg 2 [35,39,40,44,45] (.cf [35,39,46] (H_cmp x1 target) P_cmp O_cmp (.sg 4 [6,7] (.dn ?_))))))
    obtain rfl := Option.some.inj H
    exact .ret Try.func67 hc0
  ·
    refine .sg 11 [6,7] (.dn ?_)
    obtain rfl := Option.some.inj H
    exact .ret Try.func67 hc0

/-- binary search: the place, by the question asked at each place -/
def bsF (c : Nat → Bool) : Nat → Nat → Nat → Nat
  | 0, i, _ => i
  | m + 1, i, j => if i < j then (if c ((i + j) / 2) then bsF c m ((i + j) / 2 + 1) j else bsF c m i ((i + j) / 2)) else i
theorem bsF_le (c : Nat → Bool) : ∀ (m i j : Nat), i ≤ j → bsF c m i j ≤ j
  | 0, i, j, h => h
  | m + 1, i, j, h => by
      rw [bsF]
      by_cases hij : i < j
      · rw [if_pos hij]
        cases c ((i + j) / 2)
        · have := bsF_le c m i ((i + j) / 2) (by omega)
          simp only [Bool.false_eq_true, if_false]
          omega
        · have := bsF_le c m ((i + j) / 2 + 1) j (by omega)
          simpa using this
      · rw [if_neg hij]; exact h
def lowAt {α : Type} (x : List α) (t : α) (cmp : α → α → Int) (h : Nat) : Bool := match x[h]? with | some y => decide (cmp y t < 0) | none => false
def bsN {α : Type} (x : List α) (t : α) (cmp : α → α → Int) : Nat := bsF (lowAt x t cmp) (x.length + 1) 0 x.length
def bsR {α : Type} (x : List α) (t : α) (cmp : α → α → Int) : Int × Bool := (((bsN x t cmp : Nat) : Int), match x[bsN x t cmp]? with | some y => cmp y t == 0 | none => false)
theorem bsN_le {α : Type} (x : List α) (t : α) (cmp : α → α → Int) : bsN x t cmp ≤ x.length := bsF_le _ _ _ _ (Nat.zero_le _)
theorem half {i j : Nat} (h : i + j ≤ 9223372036854775807) : IntKind.i64.wrap (Int.fdiv (IntKind.u64.wrap (IntKind.i64.wrap ((i : Int) + (j : Int)))) (2 ^ (min (1 : Int).toNat (IntKind.u64).bits))) = (((i + j) / 2 : Nat) : Int) := by
  have e1 : IntKind.i64.wrap ((i : Int) + (j : Int)) = ((i + j : Nat) : Int) := by rw [wrap_eq (by omega) (by omega)]; omega
  have e2 : IntKind.u64.wrap ((i + j : Nat) : Int) = ((i + j : Nat) : Int) := by
    have hw : ∀ n : Int, IntKind.u64.wrap n = n % 18446744073709551616 := fun n => by simp [IntKind.wrap, IntKind.bits, IntKind.signed]
    rw [hw]; omega
  have e3 : min (1 : Int).toNat (IntKind.u64).bits = 1 := by decide
  rw [e1, e2, e3, Int.fdiv_eq_ediv_of_nonneg _ (by omega), wrap_eq (by omega) (by omega)]
  omega
theorem slices_BinarySearchFunc__api_Rule_l0_eq (x : List Rule) (t : Rule) (cmp : Rule → Rule → Int) (hx : x.length ≤ 1000000000000000) : ∀ (m i j : Nat), i ≤ j → j ≤ x.length → j - i < m → slices_BinarySearchFunc__api_Rule_l0 x t cmp m i j = some ((bsF (lowAt x t cmp) m i j : Nat) : Int)
  | 0, i, j, _, _, h => absurd h (by omega)
  | m + 1, i, j, h1, h2, h3 => by
      rw [slices_BinarySearchFunc__api_Rule_l0, bsF]
      by_cases hij : i < j
      · have hlt : (i + j) / 2 < x.length := by omega
        have hc : decide ((i : Int) < (j : Int)) = true := decide_eq_true (by omega)
        have hl : lowAt x t cmp ((i + j) / 2) = decide (cmp x[(i + j) / 2] t < 0) := by
          unfold lowAt
          rw [List.getElem?_eq_getElem hlt]
        rw [hc, cond_true, half (by omega), ixO_lt hlt, Option.bind_some, if_pos hij, hl]
        cases decide (cmp x[(i + j) / 2] t < 0)
        · simp only [cond_false, Bool.false_eq_true, if_false]
          exact slices_BinarySearchFunc__api_Rule_l0_eq x t cmp hx m i ((i + j) / 2) (by omega) (by omega) (by omega)
        · simp only [cond_true, if_true]
          rw [wrap_succ (by omega)]
          exact slices_BinarySearchFunc__api_Rule_l0_eq x t cmp hx m ((i + j) / 2 + 1) j (by omega) (by omega) (by omega)
      · have hc : decide ((i : Int) < (j : Int)) = false := decide_eq_false (by omega)
        rw [hc, cond_false, if_neg hij]
theorem slices_BinarySearchFunc__api_Rule_eq (x : List Rule) (t : Rule) (cmp : Rule → Rule → Int) (hx : x.length ≤ 1000000000000000) : slices_BinarySearchFunc__api_Rule_raw (x.length + 1) x t cmp = some (bsR x t cmp) := by
  rw [slices_BinarySearchFunc__api_Rule_raw, List.length_map]
  have h := slices_BinarySearchFunc__api_Rule_l0_eq x t cmp hx (x.length + 1) 0 x.length (by omega) (by omega) (by omega)
  rw [show ((0 : Nat) : Int) = 0 from rfl] at h
  rw [h, Option.bind_some]
  have hle := bsN_le x t cmp
  unfold bsN at hle
  unfold bsR bsN
  by_cases hlt : bsF (lowAt x t cmp) (x.length + 1) 0 x.length < x.length
  · rw [decide_eq_true (by omega), cond_true, ixO_lt hlt, Option.bind_some, List.getElem?_eq_getElem hlt]
  · rw [decide_eq_false (by omega), cond_false, List.getElem?_eq_none (by omega)]
theorem slices_BinarySearchFunc__api_Rule_ok (x : List Rule) (t : Rule) (F_cmp : FuncId) (C_cmp : List AV) (cmp : Rule → Rule → Int) (P_cmp : plainL C_cmp = true) (O_cmp : C_cmp.all oneA = true) (H_cmp : ∀ (y0 : Rule) (y1 : Rule), ACalls Try.prog tab.S F_cmp ([Rule.av y0, Rule.av y1] ++ C_cmp) [] (.sc (.int .i64 (cmp y0 y1))) []) (f_x : Bool) :
    ACalls Try.prog tab.S 67 [.sl 51 (List.map Rule.av x) f_x, Rule.av t, .fn F_cmp C_cmp] [] (.tup [.sc (.int .i64 (bsR x t cmp).1), .sc (.bool (bsR x t cmp).2)]) [] := by
  refine ACalls.facts (ent_of Try.func67 (by kernel_rfl) (by kernel_rfl)) fun hf => ?_
  have l0 : x.length * 272 ≤ 140737488355328 := by have h := hf.1.1; rw [List.length_map] at h; exact h
  exact slices_BinarySearchFunc__api_Rule_walk (x.length + 1) x t F_cmp C_cmp cmp P_cmp O_cmp H_cmp f_x _ (slices_BinarySearchFunc__api_Rule_eq x t cmp (by omega))

end Go.Proofs.Ytlfiemphadkimaa

set_option linter.unusedVariables false
set_option linter.unusedSimpArgs false
set_option maxRecDepth 100000
set_option maxHeartbeats 4000000
namespace Go.Proofs.Ytlfiemphadkimaa
open Go.Sh
/-! ### rule.Sort: function 45 -/
noncomputable def rule_Sort_F : Go.Sh.Fn := ⟨45, bodyOf Try.f45, 38⟩
def rule_Sort_l0s : List Rule → List Rule → Option ((List Rule))
  | [], out =>
    some out
  | x :: rest, out =>
    (bif (!(rule_Sound x)) then
      rule_Sort_l0s rest out
    else
      (bif (bsR out x rule_compare).2 then
        (ixO out ((bsR out x rule_compare).1)).bind fun x1 =>
        rule_Sort_l0s rest (out.set (((bsR out x rule_compare).1).toNat) (rule_copied x))
      else
        fitO (out.length + [(rule_copied x)].length) 272 (
        (insO out ((bsR out x rule_compare).1) (rule_copied x)).bind fun rows =>
        rule_Sort_l0s rest rows)))
theorem rule_Sort_l0_walk (list : List Rule) (f_list : Bool) (r : (List Rule)) (c0 : Ctx) (hc0 : c0.m.length = 0) (res : (List Rule)) (J : AX Try.prog tab rule_Sort_F c0 (Rp tab.S c0 (.sl 51 (List.map Rule.av r) true) []) (some ⟨[.code [1, 1, 1]], [(3, .own 0 1000000)], [.row 51 (List.map Rule.av res) 1000000 true]⟩)) :
    ∀ (rest : List Rule) (t10 : Nat) (z : Int) (hI : z = ((t10 : Nat) : Int)) (hd : list.drop t10 = rest) (out : List Rule) (H : rule_Sort_l0s rest out = some res), AX Try.prog tab rule_Sort_F c0 (Rp tab.S c0 (.sl 51 (List.map Rule.av r) true) []) (some ⟨[.code [1, 1, 0, 1, 0, 0], .loop [1, 1, 0, 1, 0], .blk 0, .code [1, 1, 1]], [(3, .own 0 1000000), (8, .sl 51 (List.map Rule.av list) f_list), (9, .sc (.int .i64 (((List.map Rule.av list).length : Nat) : Int))), (10, .sc (.int .i64 z))], [.row 51 (List.map Rule.av out) 1000000 true]⟩) := by
  intro rest
  induction rest with
  | nil =>
    intro t10 z hI hd out H
    subst hI
    rw [rule_Sort_l0s] at H
    refine .facts 8 fun hf => ?_
    have hlen : list.length ≤ 9223372036854775807 := by have hq := len_ok hf.2.1; rw [List.length_map] at hq; exact hq
    have hge : list.length ≤ t10 := List.drop_eq_nil_iff.1 hd
    have hc : (decide (((t10 : Nat) : Int) < (((List.map Rule.av list).length : Nat) : Int))) = false := by rw [List.length_map]; exact decide_eq_false (by omega)
    refine .sg 3 [3,8,9,10,11] (.cdF hc (.sg 1 [3] (.kp [3] ?_)))
    obtain rfl := Option.some.inj H
    exact .to J
  | cons x rest ih =>
    intro t10 z hI hd out H
    subst hI
    rw [rule_Sort_l0s] at H
    refine .facts 8 fun hf => ?_
    have hlen : list.length ≤ 9223372036854775807 := by have hq := len_ok hf.2.1; rw [List.length_map] at hq; exact hq
    obtain ⟨hlt, hv_t10, hd2⟩ := drop_cons hd
    have hc : (decide (((t10 : Nat) : Int) < (((List.map Rule.av list).length : Nat) : Int))) = true := by rw [List.length_map]; exact decide_eq_true (by omega)
    have hw : IntKind.i64.wrap (((t10 : Nat) : Int) + 1) = ((t10 + 1 : Nat) : Int) := wrapI_succ (by omega)
    refine .sg 3 [3,8,9,10,11] (.cdT hc (.sg 4 [3,8,9,10] (.rg (.xi [3,8,9,10,12] Rule.av hv_t10 (.sg 3 [3,5,8,9,10] (.dn (.sg 2 [3,5,8,9,10] (.rg (.sg 1 [3,5,8,9,10,14] (.cp [3,5,8,9,10,15] (rule_Sound_calls x) (.sg 1 [3,5,8,9,10,16] (.dn (.cd (!(rule_Sound x)) H (fun hb H => ?_) (fun hb H => ?_))))))))))))))
    ·
      exact .sg 2 [3,8,9,10] (.tl hc0 [0] [3,8,9,10] (.into (.cl (ih (t10 + 1) _ hw hd2 out H))))
    ·
      refine .sg 2 [3,5,8,9,10] (.rg (.sg 2 [3,5,8,9,10,18,19] (.cl_ [3,5,8,9,10,20] (caps := []) (slices_BinarySearchFunc__api_Rule_ok out x 68 [] rule_compare rfl rfl (fun y0 y1 => rule_compare_calls y0 y1) false) (.same rfl (.same rfl (.fn (caps := []) (by kernel_rfl) .nil))) (by kernel_rfl) rfl rfl (.sg 5 [3,5,6,7,8,9,10] (.dn (.sg 2 [3,5,6,8,9,10,23] (.cd ((bsR out x rule_compare).2) H (fun hb H => ?_) (fun hb H => ?_))))))))
      ·
        exact .rg (.sg 3 [3,8,9,10,24,25,26] (.cp [3,8,9,10,24,25,27] (rule_copied_calls x) (bndO H fun x1 hv_x1 H => (.xo [3,8,9,10,27,28] (ixO_req hv_x1 Rule.av) (.st [3,8,9,10] Rule.av (rule_copied x) (ixO_map hv_x1 Rule.av).2 (.dn (.sg 2 [3,8,9,10] (.tl hc0 [0] [3,8,9,10] (.into (.cl (ih (t10 + 1) _ hw hd2 (out.set (((bsR out x rule_compare).1).toNat) (rule_copied x)) H)))))))))))
      ·
        exact .rg (.sg 3 [8,9,10,29,30,31] (.cp [8,9,10,29,30,32] (rule_copied_calls x) (.sg 1 [8,9,10,29,30,33] (fitH H fun hfit H => (bndO H fun rows hv H => (.co [8,9,10,34] (o := 0) (k := 1000000) 1000001 slices_Insert__api_Rule_ent (slices_Insert__api_Rule_O out (rule_copied x) ((bsR out x rule_compare).1) rows true hv hfit) (.sg 1 [3,8,9,10] (.dn (.sg 2 [3,8,9,10] (.tl hc0 [0] [3,8,9,10] (.into (.cl (ih (t10 + 1) _ hw hd2 rows H)))))))))))))

def rule_Sort_raw (list : List Rule) : Option ((List Rule)) :=
  (rule_Sort_l0s list ([] : List Rule)).bind fun v =>
  some v
theorem rule_Sort_walk (list : List Rule) (f_list : Bool) (r : (List Rule)) (H : rule_Sort_raw list = some r) : ACalls Try.prog tab.S 45 [.sl 51 (List.map Rule.av list) f_list] [] (.sl 51 (List.map Rule.av r) true) [] := by
  refine .of_AX rule_Sort_F Try.func45 fun c0 hc0 => ?_
  rw [rule_Sort_raw] at H
  refine .sg 8 [3,8,9,10] (.ad 3 51 true (.kp [3,8,9,10] ?_))
  refine bndO H fun v hv H => (.into (.to (rule_Sort_l0_walk list f_list r c0 hc0 v ?_ list 0 _ rfl rfl ([] : List Rule) hv)))
  refine .sg 1 [3] (.rg (.sg 1 [36] (.cc [37] [0] (slices_Clip__api_Rule_calls v false) (.sg 1 [2] (.dn ?_)))))
  obtain rfl := Option.some.inj H
  exact .ret Try.func45 hc0

def putR (out : List Rule) (x : Rule) : List Rule :=
  bif !(rule_Sound x) then out else
  bif (bsR out x rule_compare).2 then out.set (bsN out x rule_compare) x else out.take (bsN out x rule_compare) ++ x :: out.drop (bsN out x rule_compare)
def sortR (l : List Rule) : List Rule := l.foldl putR []
theorem copied_eq (x : Rule) : rule_copied x = x := rfl
theorem bsR_lt {x : List Rule} {t : Rule} {cmp : Rule → Rule → Int} (h : (bsR x t cmp).2 = true) : bsN x t cmp < x.length := by
  unfold bsR at h
  by_cases hlt : bsN x t cmp < x.length
  · exact hlt
  · simp only [List.getElem?_eq_none (by omega : x.length ≤ bsN x t cmp)] at h
    cases h
theorem putR_len (out : List Rule) (x : Rule) : (putR out x).length ≤ out.length + 1 := by
  unfold putR
  cases !(rule_Sound x)
  · cases (bsR out x rule_compare).2
    · have := bsN_le out x rule_compare
      simp only [cond_false, List.length_append, List.length_cons, List.length_take, List.length_drop]
      omega
    · simp only [cond_true, cond_false, List.length_set]; omega
  · simp only [cond_true]; omega
theorem rule_Sort_l0s_eq : ∀ (l out : List Rule), (out.length + l.length) * 272 ≤ 140737488355328 → rule_Sort_l0s l out = some (l.foldl putR out)
  | [], out, _ => by rw [rule_Sort_l0s]; rfl
  | x :: l, out, h => by
      rw [List.length_cons] at h
      have hp := putR_len out x
      have ih := rule_Sort_l0s_eq l (putR out x) (by omega)
      rw [rule_Sort_l0s, List.foldl_cons, ← ih]
      unfold putR
      cases hs : !(rule_Sound x)
      · simp only [cond_false]
        cases hb : (bsR out x rule_compare).2
        · simp only [cond_false]
          have e1 : (bsR out x rule_compare).1 = ((bsN out x rule_compare : Nat) : Int) := rfl
          have hle := bsN_le out x rule_compare
          rw [fitO_eq (by rw [List.length_cons, List.length_nil]; omega), e1]
          unfold insO
          rw [if_pos (by omega), Int.toNat_natCast]
          rfl
        · simp only [cond_true]
          have e1 : (bsR out x rule_compare).1 = ((bsN out x rule_compare : Nat) : Int) := rfl
          rw [e1, ixO_lt (bsR_lt hb)]
          rfl
      · rfl
theorem rule_Sort_eq (l : List Rule) (h : l.length * 272 ≤ 140737488355328) : rule_Sort_raw l = some (sortR l) := by
  rw [rule_Sort_raw, rule_Sort_l0s_eq l [] (by rw [List.length_nil, Nat.zero_add]; exact h)]
  rfl
theorem rule_Sort_ok (l : List Rule) (f : Bool) : ACalls Try.prog tab.S 45 [.sl 51 (List.map Rule.av l) f] [] (.sl 51 (List.map Rule.av (sortR l)) true) [] := by
  refine ACalls.facts (ent_of Try.func45 (by kernel_rfl) (by kernel_rfl)) fun hf => ?_
  have l0 : l.length * 272 ≤ 140737488355328 := by have h := hf.1.1; rw [List.length_map] at h; exact h
  exact rule_Sort_walk l f _ (rule_Sort_eq l l0)

end Go.Proofs.Ytlfiemphadkimaa

set_option linter.unusedVariables false
set_option linter.unusedSimpArgs false
set_option maxRecDepth 100000
set_option maxHeartbeats 4000000
namespace Go.Proofs.Ytlfiemphadkimaa
open Go.Sh
/-! ### rule.Copy: function 32 -/
noncomputable def rule_Copy_F : Go.Sh.Fn := ⟨32, bodyOf Try.f32, 20⟩
def rule_Copy_l0s : List Rule → List Rule → Option ((List Rule))
  | [], out =>
    some out
  | x :: rest, out =>
    fitO (out.length + [(rule_copied x)].length) 272 (
    rule_Copy_l0s rest (out ++ [(rule_copied x)]))
theorem rule_Copy_l0_walk (list : List Rule) (f_list : Bool) (r : (List Rule)) (c0 : Ctx) (hc0 : c0.m.length = 0) (res : (List Rule)) (J : AX Try.prog tab rule_Copy_F c0 (Rp tab.S c0 (.sl 51 (List.map Rule.av r) true) []) (some ⟨[.code [1, 1, 1]], [(3, .own 0 1000000)], [.row 51 (List.map Rule.av res) 1000000 true]⟩)) :
    ∀ (rest : List Rule) (t8 : Nat) (z : Int) (hI : z = ((t8 : Nat) : Int)) (hd : list.drop t8 = rest) (out : List Rule) (H : rule_Copy_l0s rest out = some res), AX Try.prog tab rule_Copy_F c0 (Rp tab.S c0 (.sl 51 (List.map Rule.av r) true) []) (some ⟨[.code [1, 1, 0, 1, 0, 0], .loop [1, 1, 0, 1, 0], .blk 0, .code [1, 1, 1]], [(3, .own 0 1000000), (6, .sl 51 (List.map Rule.av list) f_list), (7, .sc (.int .i64 (((List.map Rule.av list).length : Nat) : Int))), (8, .sc (.int .i64 z))], [.row 51 (List.map Rule.av out) 1000000 true]⟩) := by
  intro rest
  induction rest with
  | nil =>
    intro t8 z hI hd out H
    subst hI
    rw [rule_Copy_l0s] at H
    refine .facts 6 fun hf => ?_
    have hlen : list.length ≤ 9223372036854775807 := by have hq := len_ok hf.2.1; rw [List.length_map] at hq; exact hq
    have hge : list.length ≤ t8 := List.drop_eq_nil_iff.1 hd
    have hc : (decide (((t8 : Nat) : Int) < (((List.map Rule.av list).length : Nat) : Int))) = false := by rw [List.length_map]; exact decide_eq_false (by omega)
    refine .sg 3 [3,6,7,8,9] (.cdF hc (.sg 1 [3] (.kp [3] ?_)))
    obtain rfl := Option.some.inj H
    exact .to J
  | cons x rest ih =>
    intro t8 z hI hd out H
    subst hI
    rw [rule_Copy_l0s] at H
    refine .facts 6 fun hf => ?_
    have hlen : list.length ≤ 9223372036854775807 := by have hq := len_ok hf.2.1; rw [List.length_map] at hq; exact hq
    obtain ⟨hlt, hv_t8, hd2⟩ := drop_cons hd
    have hc : (decide (((t8 : Nat) : Int) < (((List.map Rule.av list).length : Nat) : Int))) = true := by rw [List.length_map]; exact decide_eq_true (by omega)
    have hw : IntKind.i64.wrap (((t8 : Nat) : Int) + 1) = ((t8 + 1 : Nat) : Int) := wrapI_succ (by omega)
    exact .sg 3 [3,6,7,8,9] (.cdT hc (.sg 4 [3,6,7,8] (.rg (.xi [3,6,7,8,10] Rule.av hv_t8 (.sg 3 [3,5,6,7,8] (.dn (.rg (.sg 2 [6,7,8,12,13] (.cp [6,7,8,12,14] (rule_copied_calls x) (.sg 1 [6,7,8,12,15] (fitH H fun hfit H => (.ap [6,7,8,16] Rule.av hfit (.sg 1 [3,6,7,8] (.dn (.sg 2 [3,6,7,8] (.tl hc0 [0] [3,6,7,8] (.into (.cl (ih (t8 + 1) _ hw hd2 (out ++ [(rule_copied x)]) H)))))))))))))))))))

def rule_Copy_raw (list : List Rule) : Option ((List Rule)) :=
  (rule_Copy_l0s list ([] : List Rule)).bind fun v =>
  some v
theorem rule_Copy_walk (list : List Rule) (f_list : Bool) (r : (List Rule)) (H : rule_Copy_raw list = some r) : ACalls Try.prog tab.S 32 [.sl 51 (List.map Rule.av list) f_list] [] (.sl 51 (List.map Rule.av r) true) [] := by
  refine .of_AX rule_Copy_F Try.func32 fun c0 hc0 => ?_
  rw [rule_Copy_raw] at H
  refine .sg 8 [3,6,7,8] (.ad 3 51 true (.kp [3,6,7,8] ?_))
  refine bndO H fun v hv H => (.into (.to (rule_Copy_l0_walk list f_list r c0 hc0 v ?_ list 0 _ rfl rfl ([] : List Rule) hv)))
  refine .sg 1 [3] (.rg (.sg 1 [18] (.cc [19] [0] (slices_Clip__api_Rule_calls v false) (.sg 1 [2] (.dn ?_)))))
  obtain rfl := Option.some.inj H
  exact .ret Try.func32 hc0

theorem rule_Copy_l0s_eq : ∀ (l out : List Rule), (out.length + l.length) * 272 ≤ 140737488355328 → rule_Copy_l0s l out = some (out ++ l)
  | [], out, _ => by rw [rule_Copy_l0s, List.append_nil]
  | x :: l, out, h => by
      rw [List.length_cons] at h
      rw [rule_Copy_l0s, fitO_eq (by rw [List.length_cons, List.length_nil]; omega), rule_Copy_l0s_eq l (out ++ [rule_copied x]) (by rw [List.length_append, List.length_cons, List.length_nil]; omega), copied_eq, List.append_assoc]
      rfl
theorem rule_Copy_ok (l : List Rule) (f : Bool) : ACalls Try.prog tab.S 32 [.sl 51 (List.map Rule.av l) f] [] (.sl 51 (List.map Rule.av l) true) [] := by
  refine ACalls.facts (ent_of Try.func32 (by kernel_rfl) (by kernel_rfl)) fun hf => ?_
  have l0 : l.length * 272 ≤ 140737488355328 := by have h := hf.1.1; rw [List.length_map] at h; exact h
  refine rule_Copy_walk l f _ ?_
  rw [rule_Copy_raw, rule_Copy_l0s_eq l [] (by rw [List.length_nil, Nat.zero_add]; exact l0)]
  rfl

/-! ### rule.Table: function 26 -/
noncomputable def rule_Table_F : Go.Sh.Fn := ⟨26, bodyOf Try.f26, 30⟩
def rule_Table_l0s (list : List Rule) : List Rule → Nat → Option (Sum (Unit) (Bool))
  | [], t7 =>
    some (.inl ())
  | x :: rest, t7 =>
    (bif (!(rule_Sound x)) then
      some (.inr false)
    else
      (bif (decide (((t7 : Nat) : Int) > 0)) then
        (ixO list (IntKind.i64.wrap (((t7 : Nat) : Int) - 1))).bind fun x1 =>
        (bif (!(rule_Before x1 x)) then
          some (.inr false)
        else
          rule_Table_l0s list rest (t7 + 1) )
      else
        rule_Table_l0s list rest (t7 + 1) ))
theorem rule_Table_l0_walk (list : List Rule) (f_list : Bool) (r : Bool) (c0 : Ctx) (hc0 : c0.m.length = 0) (res : Sum (Unit) (Bool)) (J : ∀ w : Unit, res = .inl w → AX Try.prog tab rule_Table_F c0 (Rp tab.S c0 (.sc (.bool r)) []) (some ⟨[.code [1, 1]], [], []⟩)) (Jr : ∀ w, res = .inr w → w = r) :
    ∀ (rest : List Rule) (t7 : Nat) (z : Int) (hI : z = ((t7 : Nat) : Int)) (hd : list.drop t7 = rest) (H : rule_Table_l0s list rest t7 = some res), AX Try.prog tab rule_Table_F c0 (Rp tab.S c0 (.sc (.bool r)) []) (some ⟨[.code [1, 0, 1, 0, 0], .loop [1, 0, 1, 0], .blk 0, .code [1, 1]], [(0, .sl 51 (List.map Rule.av list) f_list), (5, .sl 51 (List.map Rule.av list) f_list), (6, .sc (.int .i64 (((List.map Rule.av list).length : Nat) : Int))), (7, .sc (.int .i64 z))], []⟩) := by
  intro rest
  induction rest with
  | nil =>
    intro t7 z hI hd  H
    subst hI
    rw [rule_Table_l0s] at H
    refine .facts 0 fun hf => ?_
    have hlen : list.length ≤ 9223372036854775807 := by have hq := len_ok hf.2.1; rw [List.length_map] at hq; exact hq
    have hge : list.length ≤ t7 := List.drop_eq_nil_iff.1 hd
    have hc : (decide (((t7 : Nat) : Int) < (((List.map Rule.av list).length : Nat) : Int))) = false := by rw [List.length_map]; exact decide_eq_false (by omega)
    exact .sg 3 [0,5,6,7,8] (.cdF hc (.sg 1 [] (.kp [] (.to (J () (Option.some.inj H).symm)))))
  | cons x rest ih =>
    intro t7 z hI hd  H
    subst hI
    rw [rule_Table_l0s] at H
    refine .facts 0 fun hf => ?_
    have hlen : list.length ≤ 9223372036854775807 := by have hq := len_ok hf.2.1; rw [List.length_map] at hq; exact hq
    obtain ⟨hlt, hv_t7, hd2⟩ := drop_cons hd
    have hc : (decide (((t7 : Nat) : Int) < (((List.map Rule.av list).length : Nat) : Int))) = true := by rw [List.length_map]; exact decide_eq_true (by omega)
    have hw : IntKind.i64.wrap (((t7 : Nat) : Int) + 1) = ((t7 + 1 : Nat) : Int) := wrapI_succ (by omega)
    refine .sg 3 [0,5,6,7,8] (.cdT hc (.sg 4 [0,5,6,7] (.rg (.sg 1 [0,5,6,7,9] (.xi [0,5,6,7,9,10] Rule.av hv_t7 (.sg 4 [0,3,4,5,6,7] (.dn (.sg 1 [0,3,4,5,6,7] (.rg (.sg 1 [0,3,4,5,6,7,12] (.cp [0,3,4,5,6,7,13] (rule_Sound_calls x) (.sg 2 [0,3,4,5,6,7,15] (.sp 15 (!(rule_Sound x)) H (fun hb H => ?_) (fun hb H => ?_))))))))))))))
    ·
      refine .sg 13 [0,5,6,7,28] (.dn (.sg 3 [2] ?_))
      obtain rfl := Option.some.inj H
      obtain rfl := Jr _ rfl
      exact .ret Try.func26 hc0
    ·
      refine .sg 3 [0,3,4,5,6,7,15,18] (.sp 18 (decide (((t7 : Nat) : Int) > 0)) H (fun hb H => ?_) (fun hb H => ?_))
      ·
        refine .sg 3 [0,4,5,6,7,15,18,19,21] (bndO H fun x1 hv H => (.xi [0,4,5,6,7,15,18,22] Rule.av hv (.sg 2 [0,5,6,7,15,18,23,24] (.cp [0,5,6,7,15,18,25] (rule_Before_calls x1 x) (.sg 3 [0,5,6,7,28] (.dn (.cd (!(rule_Before x1 x)) H (fun hb H => ?_) (fun hb H => ?_))))))))
        ·
          refine .sg 2 [2] ?_
          obtain rfl := Option.some.inj H
          obtain rfl := Jr _ rfl
          exact .ret Try.func26 hc0
        ·
          exact .sg 3 [0,5,6,7] (.tl hc0 [] [0,5,6,7] (.into (.cl (ih (t7 + 1) _ hw hd2 H))))
      ·
        exact .sg 10 [0,5,6,7,28] (.dn (.sg 4 [0,5,6,7] (.tl hc0 [] [0,5,6,7] (.into (.cl (ih (t7 + 1) _ hw hd2 H))))))

def rule_Table_raw (list : List Rule) : Option (Bool) :=
  loopO (rule_Table_l0s list list 0) fun v =>
  some true
theorem rule_Table_walk (list : List Rule) (f_list : Bool) (r : Bool) (H : rule_Table_raw list = some r) : ACalls Try.prog tab.S 26 [.sl 51 (List.map Rule.av list) f_list] [] (.sc (.bool r)) [] := by
  refine .of_AX rule_Table_F Try.func26 fun c0 hc0 => ?_
  rw [rule_Table_raw] at H
  refine .sg 6 [0,5,6,7] ?_
  rcases loopO_some H with ⟨v, hv, H⟩ | hv
  case inr =>
    exact .into (.to (rule_Table_l0_walk list f_list _ c0 hc0 (.inr _) (fun _ e => by cases e) (fun _ e => (Sum.inr.inj e).symm) list 0 _ rfl rfl hv))
  refine .into (.to (rule_Table_l0_walk list f_list r c0 hc0 (.inl v) (fun w e => ?_) (fun _ e => by cases e) list 0 _ rfl rfl hv))
  have e := Sum.inl.inj e
  subst e
  refine .sg 2 [2] ?_
  obtain rfl := Option.some.inj H
  exact .ret Try.func26 hc0

def tableF : Option Rule → List Rule → Bool
  | _, [] => true
  | p, x :: l => rule_Sound x && (match p with | some y => rule_Before y x | none => true) && tableF (some x) l
def befO (p : Option Rule) (x : Rule) : Bool := match p with | some y => rule_Before y x | none => true
theorem tableF_cons (p : Option Rule) (x : Rule) (l : List Rule) : tableF p (x :: l) = (rule_Sound x && befO p x && tableF (some x) l) := by cases p <;> rfl
def tableR (l : List Rule) : Bool := tableF none l
theorem rule_Table_l0s_eq (all : List Rule) (hall : all.length ≤ 1000000000000000) : ∀ (l : List Rule) (i : Nat), all.drop i = l → rule_Table_l0s all l i = some (if tableF (if i = 0 then none else all[i - 1]?) l then .inl () else .inr false)
  | [], i, _ => by rw [rule_Table_l0s, tableF]; rfl
  | x :: l, i, h => by
      have hlt : i < all.length := by
        rcases Nat.lt_or_ge i all.length with q | q
        · exact q
        · rw [List.drop_eq_nil_of_le q] at h; cases h
      rw [List.drop_eq_getElem_cons hlt] at h
      injection h with h1 h2
      have ih : rule_Table_l0s all l (i + 1) = some (if tableF (some x) l then .inl () else .inr false) := by
        have q := rule_Table_l0s_eq all hall l (i + 1) h2
        have e : (if i + 1 = 0 then (none : Option Rule) else all[i + 1 - 1]?) = some x := by rw [if_neg (by omega), Nat.add_sub_cancel, List.getElem?_eq_getElem hlt, h1]
        rw [e] at q
        exact q
      rw [rule_Table_l0s, tableF_cons]
      cases hs : rule_Sound x
      · rfl
      · simp only [Bool.not_true, cond_false, Bool.true_and]
        by_cases hi : i = 0
        · subst hi
          rw [decide_eq_false (by omega), cond_false, ih, if_pos rfl]
          rfl
        · rw [decide_eq_true (by omega), cond_true, if_neg hi, wrap_eq (by omega) (by omega)]
          have e : ((i : Nat) : Int) - 1 = ((i - 1 : Nat) : Int) := by omega
          rw [e, ixO_lt (show i - 1 < all.length by omega), Option.bind_some, List.getElem?_eq_getElem (by omega), ih]
          show (bif !(rule_Before all[i - 1] x) then _ else _) = some (if (rule_Before all[i - 1] x && _) = true then _ else _)
          cases rule_Before all[i - 1] x <;> rfl
theorem rule_Table_ok (l : List Rule) (f : Bool) : ACalls Try.prog tab.S 26 [.sl 51 (List.map Rule.av l) f] [] (.sc (.bool (tableR l))) [] := by
  refine ACalls.facts (ent_of Try.func26 (by kernel_rfl) (by kernel_rfl)) fun hf => ?_
  have l0 : l.length * 272 ≤ 140737488355328 := by have h := hf.1.1; rw [List.length_map] at h; exact h
  refine rule_Table_walk l f _ ?_
  rw [rule_Table_raw, rule_Table_l0s_eq l (by omega) l 0 rfl, if_pos rfl]
  unfold tableR
  cases tableF none l <;> rfl

end Go.Proofs.Ytlfiemphadkimaa

set_option linter.unusedVariables false
set_option linter.unusedSimpArgs false
set_option maxRecDepth 100000
set_option maxHeartbeats 4000000
namespace Go.Proofs.Ytlfiemphadkimaa
open Go.Sh
/-! ### A comparison that orders -/
structure Good {α : Type} (c : α → α → Int) : Prop where
  eq : ∀ a b, c a b = 0 ↔ a = b
  anti : ∀ a b, 0 < c b a ↔ c a b < 0
  trans : ∀ a b d, c a b < 0 → c b d < 0 → c a d < 0
theorem good_u64 : Good cmp_Compare_uint64 := by
  have e : ∀ x y, cmp_Compare_uint64 x y = if x < y then -1 else if x > y then 1 else 0 := by
    intro x y
    have h : ∀ z, cmp_isNaN_uint64 z = false := fun z => by simp [cmp_isNaN_uint64]
    rw [cmp_Compare_uint64, h, h]
    by_cases h1 : x < y
    · simp [h1]
    · by_cases h2 : x > y
      · simp [h1, h2]
      · simp [h1, h2]
  refine ⟨fun a b => ?_, fun a b => ?_, fun a b d => ?_⟩
  · rw [e]; split
    · constructor <;> intro <;> omega
    · split <;> constructor <;> intro <;> omega
  · rw [e, e]
    (repeat' split) <;> constructor <;> intro <;> omega
  · rw [e, e, e]
    (repeat' split) <;> intro <;> intro <;> omega
theorem cmpL_cons {α : Type} (c : α → α → Int) (x y : α) (l r : List α) : cmpL c (x :: l) (y :: r) = if c x y = 0 then cmpL c l r else c x y := by
  rw [cmpL]
  by_cases h : c x y = 0
  · rw [if_pos h, h]; rfl
  · have : (c x y != 0) = true := by simp [h]
    rw [if_neg h, this]; rfl
theorem good_list {α : Type} {c : α → α → Int} (g : Good c) : Good (cmpL c) := by
  have eq : ∀ a b, cmpL c a b = 0 ↔ a = b := by
    intro a
    induction a with
    | nil => intro b; cases b <;> simp [cmpL]
    | cons x l ih =>
      intro b
      cases b with
      | nil => simp [cmpL]
      | cons y r =>
        rw [cmpL_cons, List.cons.injEq, ← g.eq x y, ← ih r]
        split
        · rename_i h; simp [h]
        · rename_i h; simp [h]
  have anti : ∀ a b, 0 < cmpL c b a ↔ cmpL c a b < 0 := by
    intro a
    induction a with
    | nil => intro b; cases b <;> simp [cmpL]
    | cons x l ih =>
      intro b
      cases b with
      | nil => simp [cmpL]
      | cons y r =>
        rw [cmpL_cons, cmpL_cons]
        have h1 := g.anti x y
        have h2 := g.anti y x
        have h3 := ih r
        by_cases h : c x y = 0
        · have h' : c y x = 0 := by omega
          rw [if_pos h, if_pos h']; exact h3
        · have h' : c y x ≠ 0 := by omega
          rw [if_neg h, if_neg h']; exact h1
  refine ⟨eq, anti, ?_⟩
  intro a
  induction a with
  | nil =>
    intro b d h1 h2
    cases d with
    | nil =>
      cases b with
      | nil => simp [cmpL] at h1
      | cons y r => simp [cmpL] at h2
    | cons z s => simp [cmpL]
  | cons x l ih =>
    intro b d h1 h2
    cases b with
    | nil => simp [cmpL] at h1
    | cons y r =>
      cases d with
      | nil => simp [cmpL] at h2
      | cons z s =>
        rw [cmpL_cons] at h1 h2 ⊢
        by_cases e1 : c x y = 0
        · rw [if_pos e1] at h1
          have hxy := (g.eq x y).1 e1
          subst hxy
          by_cases e2 : c x z = 0
          · rw [if_pos e2] at h2 ⊢
            exact ih r s h1 h2
          · rw [if_neg e2] at h2 ⊢
            exact h2
        · rw [if_neg e1] at h1
          by_cases e2 : c y z = 0
          · have hyz := (g.eq y z).1 e2
            subst hyz
            rw [if_neg e1]; exact h1
          · rw [if_neg e2] at h2
            have h3 := g.trans x y z h1 h2
            rw [if_neg (by omega)]; exact h3
theorem good_pair {α β : Type} {c : α → α → Int} {d : β → β → Int} (g : Good c) (k : Good d) : Good (fun (a b : α × β) => if c a.1 b.1 = 0 then d a.2 b.2 else c a.1 b.1) := by
  refine ⟨fun a b => ?_, fun a b => ?_, fun a b e h1 h2 => ?_⟩
  · obtain ⟨a1, a2⟩ := a
    obtain ⟨b1, b2⟩ := b
    rw [Prod.mk.injEq, ← g.eq a1 b1, ← k.eq a2 b2]
    split
    · rename_i h; simp [h]
    · rename_i h; simp [h]
  · have h1 := g.anti a.1 b.1
    have h2 := g.anti b.1 a.1
    have h3 := k.anti a.2 b.2
    by_cases h : c a.1 b.1 = 0
    · rw [if_pos h, if_pos (by omega)]; exact h3
    · rw [if_neg h, if_neg (by omega)]; exact h1
  · by_cases e1 : c a.1 b.1 = 0
    · rw [if_pos e1] at h1
      rw [(g.eq _ _).1 e1]
      by_cases e2 : c b.1 e.1 = 0
      · rw [if_pos e2] at h2 ⊢; exact k.trans _ _ _ h1 h2
      · rw [if_neg e2] at h2 ⊢; exact h2
    · rw [if_neg e1] at h1
      by_cases e2 : c b.1 e.1 = 0
      · rw [← (g.eq _ _).1 e2, if_neg e1]; exact h1
      · rw [if_neg e2] at h2
        have h3 := g.trans _ _ _ h1 h2
        rw [if_neg (by omega)]; exact h3
def downI (a b : Int) : Int := if a = b then 0 else if a > b then -1 else 1
theorem good_down : Good downI := by
  refine ⟨fun a b => ?_, fun a b => ?_, fun a b d => ?_⟩ <;> unfold downI <;> (repeat' split) <;> first | (constructor <;> intro <;> omega) | (intro _ _; omega)
def keyC (a b : Int × List Int × List Int) : Int := if downI a.1 b.1 = 0 then (if cmpL cmp_Compare_uint64 a.2.1 b.2.1 = 0 then cmpL cmp_Compare_uint64 a.2.2 b.2.2 else cmpL cmp_Compare_uint64 a.2.1 b.2.1) else downI a.1 b.1
theorem good_key : Good keyC := good_pair good_down (good_pair (good_list good_u64) (good_list good_u64))
def Rule.key (r : Rule) : Int × List Int × List Int := (r.Prio, r.Match.Care, r.Match.Value)
theorem head_Compare_eq (a b : List Int) : head_Compare a b = cmpL cmp_Compare_uint64 a b := rfl
theorem cmp_Or_two (a b : Int) : cmp_Or_int [a, b] = if a = 0 then b else a := by
  rw [cmp_Or_int, cmp_Or_int_l0s, cmp_Or_int_l0s, cmp_Or_int_l0s]
  by_cases h : a = 0
  · subst h
    by_cases k : b = 0
    · subst k; rfl
    · have : (b != 0) = true := by simp [k]
      rw [if_pos rfl, this]; rfl
  · have : (a != 0) = true := by simp [h]
    rw [if_neg h, this]; rfl
theorem compare_key (a b : Rule) : rule_compare a b = keyC a.key b.key := by
  rw [rule_compare, cube_Compare, cmp_Or_two, head_Compare_eq, head_Compare_eq]
  unfold keyC Rule.key downI
  by_cases h : a.Prio = b.Prio
  · simp [h]
  · by_cases k : a.Prio > b.Prio
    · have k' : b.Prio < a.Prio := k
      have hb : (a.Prio != b.Prio) = true := by simp [h]
      rw [hb]; simp [h, k']
    · have k' : ¬ b.Prio < a.Prio := k
      have hb : (a.Prio != b.Prio) = true := by simp [h]
      rw [hb]; simp [h, k']
theorem Key_key (a b : Rule) : rule_Key a b = decide (a.key = b.key) := by
  rw [rule_Key]
  unfold Rule.key
  rw [Bool.eq_iff_iff]
  simp only [Bool.and_eq_true, beq_iff_eq, decide_eq_true_eq, Prod.mk.injEq]
  constructor
  · rintro ⟨⟨h1, h2⟩, h3⟩; exact ⟨h3, h2, h1⟩
  · rintro ⟨h1, h2, h3⟩; exact ⟨⟨h3, h2⟩, h1⟩
theorem Before_key (a b : Rule) : rule_Before a b = decide (keyC a.key b.key < 0) := by rw [rule_Before, compare_key]

end Go.Proofs.Ytlfiemphadkimaa

set_option linter.unusedVariables false
set_option linter.unusedSimpArgs false
set_option maxRecDepth 100000
set_option maxHeartbeats 4000000
namespace Go.Proofs.Ytlfiemphadkimaa
open Go.Sh
/-! ### Tables: strictly in order, one rule for a key -/
abbrev Key3 := Int × List Int × List Int
def RLt (a b : Rule) : Prop := keyC a.key b.key < 0
theorem RLt.trans {a b c : Rule} (h : RLt a b) (k : RLt b c) : RLt a c := good_key.trans _ _ _ h k
theorem RLt.irr (a b : Rule) (h : a.key = b.key) : ¬ RLt a b := by
  intro k
  have := (good_key.eq a.key b.key).2 h
  unfold RLt at k
  omega
theorem RLt.asymm {a b : Rule} (h : RLt a b) : ¬ RLt b a := fun k => RLt.irr a a rfl (h.trans k)
def Srt (l : List Rule) : Prop := l.Pairwise RLt
def look (l : List Rule) (k : Key3) : Option Rule := l.find? (fun r => decide (r.key = k))
theorem look_cons (x : Rule) (l : List Rule) (k : Key3) : look (x :: l) k = if x.key = k then some x else look l k := by
  unfold look
  rw [List.find?_cons]
  by_cases h : x.key = k
  · simp [h]
  · simp [h]
theorem look_append (a b : List Rule) (k : Key3) : look (a ++ b) k = (look a k).or (look b k) := by
  unfold look
  rw [List.find?_append]
theorem look_none {l : List Rule} {k : Key3} (h : ∀ y ∈ l, y.key ≠ k) : look l k = none := by
  unfold look
  rw [List.find?_eq_none]
  intro y hy
  simp [h y hy]
theorem bsF_spec (c : Nat → Bool) (hm : ∀ i j, i ≤ j → c j = true → c i = true) : ∀ (m i j : Nat), i ≤ j → j - i < m → (∀ k, k < i → c k = true) → (∀ k, j ≤ k → c k = false) → (∀ k, k < bsF c m i j → c k = true) ∧ ∀ k, bsF c m i j ≤ k → c k = false
  | 0, i, j, _, h, _, _ => absurd h (by omega)
  | m + 1, i, j, h1, h2, h3, h4 => by
      rw [bsF]
      by_cases hij : i < j
      · rw [if_pos hij]
        cases hc : c ((i + j) / 2)
        · simp only [Bool.false_eq_true, if_false]
          refine bsF_spec c hm m i ((i + j) / 2) (by omega) (by omega) h3 (fun k hk => ?_)
          cases hk2 : c k with
          | false => rfl
          | true => rw [hm _ _ hk hk2] at hc; cases hc
        · simp only [if_true]
          exact bsF_spec c hm m ((i + j) / 2 + 1) j (by omega) (by omega) (fun k hk => hm k ((i + j) / 2) (by omega) hc) h4
      · rw [if_neg hij]
        exact ⟨h3, fun k hk => h4 k (by omega)⟩
theorem srt_get {l : List Rule} (h : Srt l) {i j : Nat} (hij : i < j) (hj : j < l.length) : RLt (l[i]'(by omega)) l[j] := List.pairwise_iff_getElem.1 h i j (by omega) hj hij
theorem bsN_spec {out : List Rule} (h : Srt out) (x : Rule) : (∀ k (hk : k < out.length), k < bsN out x rule_compare → RLt out[k] x) ∧ ∀ k (hk : k < out.length), bsN out x rule_compare ≤ k → ¬ RLt out[k] x := by
  have hl : ∀ k (hk : k < out.length), lowAt out x rule_compare k = true ↔ RLt out[k] x := by
    intro k hk
    unfold lowAt RLt
    rw [List.getElem?_eq_getElem hk]
    simp only [decide_eq_true_eq, compare_key]
  have hl2 : ∀ k, out.length ≤ k → lowAt out x rule_compare k = false := by
    intro k hk
    unfold lowAt
    rw [List.getElem?_eq_none hk]
  have hm : ∀ i j, i ≤ j → lowAt out x rule_compare j = true → lowAt out x rule_compare i = true := by
    intro i j hij hj
    have hjl : j < out.length := by
      by_cases q : j < out.length
      · exact q
      · rw [hl2 j (by omega)] at hj; cases hj
    rcases Nat.lt_or_ge i j with q | q
    · exact (hl i (by omega)).2 ((srt_get h q hjl).trans ((hl j hjl).1 hj))
    · have : i = j := by omega
      subst this; exact hj
  obtain ⟨s1, s2⟩ := bsF_spec (lowAt out x rule_compare) hm (out.length + 1) 0 out.length (by omega) (by omega) (by omega) hl2
  refine ⟨fun k hk hlt => (hl k hk).1 (s1 k hlt), fun k hk hge hlt => ?_⟩
  have := s2 k hge
  rw [(hl k hk).2 hlt] at this
  cases this
theorem not_lt {a b : Rule} (h : ¬ RLt a b) : a.key = b.key ∨ RLt b a := by
  unfold RLt at *
  rcases Int.lt_trichotomy (keyC a.key b.key) 0 with q | q | q
  · exact absurd q h
  · exact .inl ((good_key.eq _ _).1 q)
  · exact .inr ((good_key.anti _ _).1 q)
theorem putR_split {out : List Rule} (h : Srt out) {x : Rule} (hs : rule_Sound x = true) : ∃ A mid B, out = A ++ (mid ++ B) ∧ putR out x = A ++ x :: B ∧ (∀ a ∈ A, RLt a x) ∧ (∀ b ∈ B, RLt x b) ∧ ∀ y ∈ mid, y.key = x.key := by
  obtain ⟨s1, s2⟩ := bsN_spec h x
  have hle := bsN_le out x rule_compare
  generalize hn : bsN out x rule_compare = n at s1 s2 hle
  have hA : ∀ a ∈ out.take n, RLt a x := by
    intro a ha
    obtain ⟨k, hk, rfl⟩ := List.getElem_of_mem ha
    rw [List.getElem_take]
    rw [List.length_take] at hk
    exact s1 k (by omega) (by omega)
  unfold putR
  rw [hs, hn]
  simp only [Bool.not_true, cond_false]
  have hb2 : (bsR out x rule_compare).2 = match out[n]? with | some y => rule_compare y x == 0 | none => false := by
    subst hn
    unfold bsR
    cases out[bsN out x rule_compare]? <;> rfl
  cases hb : (bsR out x rule_compare).2
  · refine ⟨out.take n, [], out.drop n, by simp, rfl, hA, ?_, by simp⟩
    intro b hbm
    obtain ⟨k, hk, rfl⟩ := List.getElem_of_mem hbm
    rw [List.length_drop] at hk
    rw [List.getElem_drop]
    have hlt : n < out.length := by omega
    have h0 : RLt x out[n] := by
      rw [hb2, List.getElem?_eq_getElem hlt] at hb
      rcases not_lt (s2 n hlt (by omega)) with q | q
      · have := (good_key.eq _ _).2 q
        rw [← compare_key] at this
        simp [this] at hb
      · exact q
    rcases Nat.eq_zero_or_pos k with q | q
    · subst q; exact h0
    · exact h0.trans (srt_get h (by omega) (by omega))
  · have hlt : n < out.length := by have := bsR_lt hb; omega
    refine ⟨out.take n, [out[n]], out.drop (n + 1), ?_, ?_, hA, ?_, ?_⟩
    · rw [List.singleton_append, ← List.drop_eq_getElem_cons hlt, List.take_append_drop]
    · rw [cond_true, List.set_eq_take_append_cons_drop, if_pos hlt]
    · intro b hbm
      obtain ⟨k, hk, rfl⟩ := List.getElem_of_mem hbm
      rw [List.length_drop] at hk
      rw [List.getElem_drop]
      rw [hb2, List.getElem?_eq_getElem hlt] at hb
      have h0 : keyC out[n].key x.key = 0 := by rw [← compare_key]; simpa using hb
      have h1 := srt_get h (show n < n + 1 + k by omega) (by omega)
      have h2 := (good_key.eq _ _).1 h0
      unfold RLt at *
      rw [← h2]; exact h1
    · intro y hy
      rw [List.mem_singleton] at hy
      subst hy
      rw [hb2, List.getElem?_eq_getElem hlt] at hb
      exact (good_key.eq _ _).1 (by rw [← compare_key]; simpa using hb)
theorem putR_not {out : List Rule} {x : Rule} (hs : rule_Sound x = false) : putR out x = out := by
  unfold putR
  rw [hs]
  rfl
theorem putR_srt {out : List Rule} (h : Srt out) (x : Rule) : Srt (putR out x) := by
  cases hs : rule_Sound x
  · rw [putR_not hs]; exact h
  · obtain ⟨A, mid, B, e1, e2, e3, e4, _⟩ := putR_split h hs
    rw [e2]
    subst e1
    obtain ⟨p1, p2, p3⟩ := List.pairwise_append.1 h
    obtain ⟨p4, p5, p6⟩ := List.pairwise_append.1 p2
    refine List.pairwise_append.2 ⟨p1, List.pairwise_cons.2 ⟨e4, p5⟩, fun a ha b hb => ?_⟩
    rcases List.mem_cons.1 hb with rfl | hb
    · exact e3 a ha
    · exact (e3 a ha).trans (e4 b hb)
theorem putR_look {out : List Rule} (h : Srt out) (x : Rule) (k : Key3) : look (putR out x) k = if rule_Sound x = true ∧ x.key = k then some x else look out k := by
  cases hs : rule_Sound x
  · rw [putR_not hs, if_neg (by simp)]
  · obtain ⟨A, mid, B, e1, e2, e3, e4, e5⟩ := putR_split h hs
    rw [e2, e1, look_append, look_append, look_append, look_cons]
    by_cases hk : x.key = k
    · rw [if_pos hk, if_pos ⟨rfl, hk⟩, look_none (l := A) (fun y hy e => RLt.irr y x (e.trans hk.symm) (e3 y hy))]
      rfl
    · rw [if_neg hk, if_neg (fun q => hk q.2), look_none (l := mid) (fun y hy e => hk ((e5 y hy).symm.trans e))]
      rfl
theorem putR_mem {out : List Rule} (h : Srt out) {x y : Rule} (hy : y ∈ putR out x) : y ∈ out ∨ (y = x ∧ rule_Sound x = true) := by
  cases hs : rule_Sound x
  · rw [putR_not hs] at hy; exact .inl hy
  · obtain ⟨A, mid, B, e1, e2, _⟩ := putR_split h hs
    rw [e2] at hy
    rw [e1]
    rcases List.mem_append.1 hy with q | q
    · exact .inl (by simp [q])
    · rcases List.mem_cons.1 q with q | q
      · exact .inr ⟨q, rfl⟩
      · exact .inl (by simp [q])
def last (l : List Rule) (k : Key3) : Option Rule := l.foldl (fun acc x => if rule_Sound x = true ∧ x.key = k then some x else acc) none
theorem last_init (l : List Rule) (k : Key3) : ∀ acc : Option Rule, l.foldl (fun acc x => if rule_Sound x = true ∧ x.key = k then some x else acc) acc = (last l k).or acc := by
  unfold last
  induction l with
  | nil => intro acc; simp
  | cons x l ih =>
    intro acc
    rw [List.foldl_cons, List.foldl_cons, ih, ih (if rule_Sound x = true ∧ x.key = k then some x else none)]
    by_cases q : rule_Sound x = true ∧ x.key = k
    · rw [if_pos q, if_pos q]
      cases List.foldl (fun acc x => if rule_Sound x = true ∧ x.key = k then some x else acc) none l <;> rfl
    · rw [if_neg q, if_neg q]
      cases List.foldl (fun acc x => if rule_Sound x = true ∧ x.key = k then some x else acc) none l <;> rfl
theorem last_append (a b : List Rule) (k : Key3) : last (a ++ b) k = (last b k).or (last a k) := by
  unfold last
  rw [List.foldl_append, last_init b]
  rfl
theorem last_cons (x : Rule) (l : List Rule) (k : Key3) : last (x :: l) k = (last l k).or (if rule_Sound x = true ∧ x.key = k then some x else none) := by
  unfold last
  rw [List.foldl_cons, last_init l]
  rfl
theorem fold_srt : ∀ (l out : List Rule), Srt out → Srt (l.foldl putR out)
  | [], out, h => h
  | x :: l, out, h => fold_srt l (putR out x) (putR_srt h x)
theorem fold_look (k : Key3) : ∀ (l out : List Rule), Srt out → look (l.foldl putR out) k = (last l k).or (look out k)
  | [], out, h => rfl
  | x :: l, out, h => by
      rw [List.foldl_cons, fold_look k l _ (putR_srt h x), putR_look h, last_cons]
      by_cases q : rule_Sound x = true ∧ x.key = k
      · rw [if_pos q, if_pos q]; cases last l k <;> rfl
      · rw [if_neg q, if_neg q]; cases last l k <;> rfl
theorem fold_sound : ∀ (l out : List Rule), Srt out → (∀ y ∈ out, rule_Sound y = true) → ∀ y ∈ l.foldl putR out, rule_Sound y = true
  | [], out, _, h => h
  | x :: l, out, hs, h => fold_sound l (putR out x) (putR_srt hs x) (fun y hy => by
      rcases putR_mem hs hy with q | ⟨q, q2⟩
      · exact h y q
      · rw [q]; exact q2)
theorem fold_len : ∀ (l out : List Rule), (l.foldl putR out).length ≤ out.length + l.length
  | [], out => by simp
  | x :: l, out => by
      have h1 := fold_len l (putR out x)
      have h2 := putR_len out x
      rw [List.foldl_cons, List.length_cons]
      omega
theorem sortR_srt (l : List Rule) : Srt (sortR l) := fold_srt l [] List.Pairwise.nil
theorem sortR_sound (l : List Rule) : ∀ y ∈ sortR l, rule_Sound y = true := fold_sound l [] List.Pairwise.nil (by simp)
theorem sortR_look (l : List Rule) (k : Key3) : look (sortR l) k = last l k := by
  unfold sortR
  rw [fold_look k l [] List.Pairwise.nil]
  show (last l k).or none = last l k
  cases last l k <;> rfl
theorem sortR_len (l : List Rule) : (sortR l).length ≤ l.length := by
  have := fold_len l []
  unfold sortR
  simpa using this
theorem last_look : ∀ (l : List Rule), Srt l → (∀ y ∈ l, rule_Sound y = true) → ∀ k, last l k = look l k
  | [], _, _, k => rfl
  | x :: l, h, hs, k => by
      obtain ⟨h1, h2⟩ := List.pairwise_cons.1 h
      rw [last_cons, look_cons, last_look l h2 (fun y hy => hs y (by simp [hy])) k]
      by_cases q : x.key = k
      · rw [if_pos ⟨hs x (by simp), q⟩, if_pos q, look_none (fun y hy e => RLt.irr x y (q.trans e.symm) (h1 y hy))]
        rfl
      · rw [if_neg (fun z => q z.2), if_neg q]
        cases look l k <;> rfl
theorem look_mem {l : List Rule} {k : Key3} {x : Rule} (h : look l k = some x) : x ∈ l := List.mem_of_find?_eq_some h
theorem srt_uniq : ∀ (l r : List Rule), Srt l → Srt r → (∀ k, look l k = look r k) → l = r
  | [], [], _, _, _ => rfl
  | [], y :: r, _, _, h => by
      have := h y.key
      rw [look_cons, if_pos rfl] at this
      cases this
  | x :: l, [], _, _, h => by
      have := h x.key
      rw [look_cons, if_pos rfl] at this
      cases this
  | x :: l, y :: r, hl, hr, h => by
      obtain ⟨l1, l2⟩ := List.pairwise_cons.1 hl
      obtain ⟨r1, r2⟩ := List.pairwise_cons.1 hr
      have hx : x ∈ y :: r := look_mem (k := x.key) (by rw [← h x.key, look_cons, if_pos rfl])
      have hy : y ∈ x :: l := look_mem (k := y.key) (by rw [h y.key, look_cons, if_pos rfl])
      have hxy : x = y := by
        rcases List.mem_cons.1 hx with q | q
        · exact q
        · rcases List.mem_cons.1 hy with q2 | q2
          · exact q2.symm
          · exact absurd (l1 y q2) (RLt.asymm (r1 x q))
      subst hxy
      rw [srt_uniq l r l2 r2 (fun k => ?_)]
      by_cases q : x.key = k
      · rw [look_none (fun y hy e => RLt.irr x y (q.trans e.symm) (l1 y hy)), look_none (fun y hy e => RLt.irr x y (q.trans e.symm) (r1 y hy))]
      · have := h k
        rw [look_cons, look_cons, if_neg q, if_neg q] at this
        exact this
theorem sortR_self {l : List Rule} (h : Srt l) (hs : ∀ y ∈ l, rule_Sound y = true) : sortR l = l :=
  srt_uniq _ _ (sortR_srt l) h (fun k => by rw [sortR_look, last_look l h hs])
theorem sortR_joins (a b : List Rule) : sortR (a ++ b) = sortR (sortR a ++ sortR b) :=
  srt_uniq _ _ (sortR_srt _) (sortR_srt _) (fun k => by
    rw [sortR_look, sortR_look, last_append, last_append, last_look _ (sortR_srt a) (sortR_sound a), last_look _ (sortR_srt b) (sortR_sound b), sortR_look, sortR_look])

end Go.Proofs.Ytlfiemphadkimaa

set_option linter.unusedVariables false
set_option linter.unusedSimpArgs false
set_option maxRecDepth 100000
set_option maxHeartbeats 4000000
namespace Go.Proofs.Ytlfiemphadkimaa
open Go.Sh
theorem befO_iff (p : Option Rule) (x : Rule) : befO p x = true ↔ ∀ q, p = some q → RLt q x := by
  cases p with
  | none => simp [befO]
  | some q => simp [befO, Before_key, RLt]
theorem tableF_spec : ∀ (l : List Rule) (p : Option Rule), tableF p l = true ↔ (∀ y ∈ l, rule_Sound y = true) ∧ Srt l ∧ ∀ q, p = some q → ∀ y ∈ l, RLt q y
  | [], p => by
      rw [tableF]
      exact ⟨fun _ => ⟨by simp, List.Pairwise.nil, by simp⟩, fun _ => rfl⟩
  | x :: l, p => by
      rw [tableF_cons, Bool.and_eq_true, Bool.and_eq_true, tableF_spec l (some x), befO_iff]
      constructor
      · rintro ⟨⟨h1, h2⟩, h3, h4, h5⟩
        refine ⟨?_, List.pairwise_cons.2 ⟨h5 x rfl, h4⟩, ?_⟩
        · intro y hy
          rcases List.mem_cons.1 hy with rfl | hy
          · exact h1
          · exact h3 y hy
        · intro q hq y hy
          rcases List.mem_cons.1 hy with rfl | hy
          · exact h2 q hq
          · exact (h2 q hq).trans (h5 x rfl y hy)
      · rintro ⟨h1, h2, h3⟩
        obtain ⟨h4, h5⟩ := List.pairwise_cons.1 h2
        exact ⟨⟨h1 x (by simp), fun q hq => h3 q hq x (by simp)⟩, fun y hy => h1 y (by simp [hy]), h5, fun q hq y hy => by
          injection hq with hq
          subst hq
          exact h4 y hy⟩
theorem tableR_iff (l : List Rule) : tableR l = true ↔ (∀ y ∈ l, rule_Sound y = true) ∧ Srt l := by
  unfold tableR
  rw [tableF_spec]
  simp
theorem tableR_sort (l : List Rule) : tableR (sortR l) = true := (tableR_iff _).2 ⟨sortR_sound l, sortR_srt l⟩
theorem sort_again (l : List Rule) (r : Rule) : sortR (sortR (l ++ [r]) ++ [r]) = sortR (l ++ [r]) :=
  srt_uniq _ _ (sortR_srt _) (sortR_srt _) (fun k => by
    rw [sortR_look, sortR_look, last_append, last_look _ (sortR_srt _) (sortR_sound _), sortR_look, last_append]
    cases last [r] k <;> rfl)

/-! ### mods.span: function 53 -/
noncomputable def mods_span_F : Go.Sh.Fn := ⟨53, bodyOf Try.f53, 12⟩
def mods_span (n : Int) (most : Int) : Bool :=
  ((decide (n ≥ 0)) && (decide (n ≤ most)))
theorem mods_span_calls (n : Int) (most : Int) : ACalls Try.prog tab.S 53 [.sc (.int .i64 n), .sc (.int .i64 most)] [] (.sc (.bool (mods_span n most))) [] := by
  generalize H : mods_span n most = r
  refine .of_AX mods_span_F Try.func53 fun c0 hc0 => ?_
  rw [mods_span] at H
  refine .sg 3 [0,1] (.rg (.sg 3 [0,1,7] (.mx 0 [11] (.sg 1 [4] (.dn ?_)))))
  subst H
  exact .ret Try.func53 hc0

/-! ### mods.plain: function 54 -/
noncomputable def mods_plain_F : Go.Sh.Fn := ⟨54, bodyOf Try.f54, 16⟩
def mods_plain (m1 : Mod) : Bool :=
  (((m1.Idle == 0) && (m1.Hard == 0)) && (!m1.Check))
theorem mods_plain_calls (m1 : Mod) : ACalls Try.prog tab.S 54 [Mod.av m1] [] (.sc (.bool (mods_plain m1))) [] := by
  generalize H : mods_plain m1 = r
  refine .of_AX mods_plain_F Try.func54 fun c0 hc0 => ?_
  rw [mods_plain] at H
  refine .sg 3 [1] (.rg (.sg 4 [1,6] (.mx 0 [1,10] (.sg 1 [1,11] (.mx 0 [15] (.sg 1 [2] (.dn ?_)))))))
  subst H
  exact .ret Try.func54 hc0

/-! ### mods.Sound: function 30 -/
noncomputable def mods_Sound_F : Go.Sh.Fn := ⟨30, bodyOf Try.f30, 75⟩
def mods_Sound (m1 : Mod) : Bool :=
  (bif ((((!(cube_Sound m1.Match)) || (!(act_Sound m1.Acts))) || (!(mods_span m1.Prio 65535))) || (!(mods_span m1.Owner 255))) then
    false
  else
    (bif (m1.Kind == 1) then
      ((mods_span m1.Idle 1048576) && (mods_span m1.Hard 1048576))
    else
      (bif (m1.Kind == 2) then
        ((mods_plain m1) && (m1.Prio == 0))
      else
        (bif (m1.Kind == 3) then
          (((mods_plain m1) && (m1.Prio == 0)) && ((((List.map Act.av m1.Acts).length : Nat) : Int) == 0))
        else
          (bif (m1.Kind == 4) then
            (mods_plain m1)
          else
            (bif (m1.Kind == 5) then
              ((mods_plain m1) && ((((List.map Act.av m1.Acts).length : Nat) : Int) == 0))
            else
              false))))))
theorem mods_Sound_calls (m1 : Mod) : ACalls Try.prog tab.S 30 [Mod.av m1] [] (.sc (.bool (mods_Sound m1))) [] := by
  generalize H : mods_Sound m1 = r
  refine .of_AX mods_Sound_F Try.func30 fun c0 hc0 => ?_
  rw [mods_Sound] at H
  refine .sg 4 [1] (.rg (.sg 2 [1,4] (.cp [1,5] (cube_Sound_calls m1.Match) (.sg 2 [1,7] (.mm 7 (!(cube_Sound m1.Match)) 5 [.pure, .pure, .pure, .read, .pure] [1, 12] 12 (fun z => .sc (.bool (z || (!(act_Sound m1.Acts))))) ?J1 (fun hb J => ?ht1) (fun hb J => ?hf1))))))
  case ht1 =>
    exact .sg 5 [1,12] (.cl J)
  case hf1 =>
    exact .sg 2 [1,7,9] (.cp [1,7,10] (act_Sound_calls m1.Acts false) (.sg 2 [1,12] (.cl J)))
  refine .sg 1 [1,13] (.mm 13 ((!(cube_Sound m1.Match)) || (!(act_Sound m1.Acts))) 5 [.pure, .pure, .pure, .read, .pure] [1, 18] 18 (fun z => .sc (.bool (z || (!(mods_span m1.Prio 65535))))) ?J2 (fun hb J => ?ht2) (fun hb J => ?hf2))
  case ht2 =>
    exact .sg 5 [1,18] (.cl J)
  case hf2 =>
    exact .sg 2 [1,13,15] (.cp [1,13,16] (mods_span_calls m1.Prio 65535) (.sg 2 [1,18] (.cl J)))
  refine .sg 1 [1,19] (.mm 19 (((!(cube_Sound m1.Match)) || (!(act_Sound m1.Acts))) || (!(mods_span m1.Prio 65535))) 5 [.pure, .pure, .pure, .read, .pure] [1, 24] 24 (fun z => .sc (.bool (z || (!(mods_span m1.Owner 255))))) ?J3 (fun hb J => ?ht3) (fun hb J => ?hf3))
  case ht3 =>
    exact .sg 5 [1,24] (.cl J)
  case hf3 =>
    exact .sg 2 [1,19,21] (.cp [1,19,22] (mods_span_calls m1.Owner 255) (.sg 2 [1,24] (.cl J)))
  refine .dn (.cd ((((!(cube_Sound m1.Match)) || (!(act_Sound m1.Acts))) || (!(mods_span m1.Prio 65535))) || (!(mods_span m1.Owner 255))) H (fun hb H => ?_) (fun hb H => ?_))
  ·
    refine .sg 2 [2] ?_
    subst H
    exact .ret Try.func30 hc0
  ·
    refine .sg 7 [1,26,27] (.cd (m1.Kind == 1) H (fun hb H => ?_) (fun hb H => ?_))
    ·
      refine .sg 1 [1] (.rg (.sg 2 [1,30] (.cp [1,31] (mods_span_calls m1.Idle 1048576) (.sg 1 [1,32] (.mm 32 (mods_span m1.Idle 1048576) 4 [.pure, .pure, .read, .pure] [36] 36 (fun z => .sc (.bool (z && (mods_span m1.Hard 1048576)))) ?J5 (fun hb J => ?ht5) (fun hb J => ?hf5))))))
      case ht5 =>
        exact .sg 2 [32,34] (.cp [32,35] (mods_span_calls m1.Hard 1048576) (.sg 1 [36] (.cl J)))
      case hf5 =>
        exact .sg 4 [36] (.cl J)
      refine .sg 1 [2] (.dn ?_)
      subst H
      exact .ret Try.func30 hc0
    ·
      refine .sg 2 [1,26,37] (.cd (m1.Kind == 2) H (fun hb H => ?_) (fun hb H => ?_))
      ·
        refine .sg 1 [1] (.rg (.sg 1 [1,39] (.cp [1,40] (mods_plain_calls m1) (.sg 1 [1,41] (.mx 0 [45] (.sg 1 [2] (.dn ?_)))))))
        subst H
        exact .ret Try.func30 hc0
      ·
        refine .sg 2 [1,26,46] (.cd (m1.Kind == 3) H (fun hb H => ?_) (fun hb H => ?_))
        ·
          refine .sg 1 [1] (.rg (.sg 1 [1,48] (.cp [1,49] (mods_plain_calls m1) (.sg 1 [1,50] (.mx 0 [1,54] (.sg 1 [1,55] (.mx 0 [60] (.sg 1 [2] (.dn ?_)))))))))
          subst H
          exact .ret Try.func30 hc0
        ·
          refine .sg 2 [1,26,61] (.cd (m1.Kind == 4) H (fun hb H => ?_) (fun hb H => ?_))
          ·
            refine .sg 1 [1] (.rg (.sg 1 [63] (.cp [64] (mods_plain_calls m1) (.sg 1 [2] (.dn ?_)))))
            subst H
            exact .ret Try.func30 hc0
          ·
            refine .sg 2 [1,65] (.cd (m1.Kind == 5) H (fun hb H => ?_) (fun hb H => ?_))
            ·
              refine .sg 1 [1] (.rg (.sg 1 [1,67] (.cp [1,68] (mods_plain_calls m1) (.sg 1 [1,69] (.mx 0 [74] (.sg 1 [2] (.dn ?_)))))))
              subst H
              exact .ret Try.func30 hc0
            ·
              refine .sg 4 [2] ?_
              subst H
              exact .ret Try.func30 hc0

/-! ### mods.Rule: function 55 -/
noncomputable def mods_Rule_F : Go.Sh.Fn := ⟨55, bodyOf Try.f55, 18⟩
def mods_Rule (m1 : Mod) : Rule :=
  ({ m1 with Hits := 0, Quiet := 0, Age := 0 } : Rule)
theorem mods_Rule_calls (m1 : Mod) : ACalls Try.prog tab.S 55 [Mod.av m1] [] (Rule.av (mods_Rule m1)) [] := by
  generalize H : mods_Rule m1 = r
  refine .of_AX mods_Rule_F Try.func55 fun c0 hc0 => ?_
  rw [mods_Rule] at H
  refine .sg 3 [1,2] (.rg (.sg 6 [1,2,4,6,8] (.cp [1,2,4,6,9] (slices_Clone__api_Act_calls m1.Acts false) (.cp [1,2,4,6,10] (slices_Clip__api_Act_calls m1.Acts false) (.sg 8 [2] (.dn ?_))))))
  subst H
  exact .ret Try.func55 hc0 [] [(0, false)]

/-! ### cube.both: function 87 -/
noncomputable def cube_both_F : Go.Sh.Fn := ⟨87, bodyOf Try.f87, 11⟩
def cube_both (a : Cube) (b : Cube) : Bool :=
  ((cube_Sound a) && (cube_Sound b))
theorem cube_both_calls (a : Cube) (b : Cube) : ACalls Try.prog tab.S 87 [Cube.av a, Cube.av b] [] (.sc (.bool (cube_both a b))) [] := by
  generalize H : cube_both a b = r
  refine .of_AX cube_both_F Try.func87 fun c0 hc0 => ?_
  rw [cube_both] at H
  refine .sg 3 [2,3] (.rg (.sg 1 [3,5] (.cp [3,6] (cube_Sound_calls a) (.sg 1 [3,7] (.mm 7 (cube_Sound a) 3 [.pure, .pure, .read] [10] 10 (fun z => .sc (.bool (z && (cube_Sound b)))) ?J1 (fun hb J => ?ht1) (fun hb J => ?hf1))))))
  case ht1 =>
    exact .sg 1 [7,8] (.cp [7,9] (cube_Sound_calls b) (.sg 1 [10] (.cl J)))
  case hf1 =>
    exact .sg 3 [10] (.cl J)
  refine .sg 1 [4] (.dn ?_)
  subst H
  exact .ret Try.func87 hc0

/-! ### cube.Meet: function 77 -/
noncomputable def cube_Meet_F : Go.Sh.Fn := ⟨77, bodyOf Try.f77, 60⟩
def cube_Meet_l0s (b : Cube) : Nat → Nat → List Int → List Int → Sum ((List Int) × (List Int)) (Cube × Bool)
  | 0, t12, a_0, a_1 =>
    (.inl (a_0, a_1))
  | rest + 1, t12, a_0, a_1 =>
    (bif ((IntKind.u64.wrap ((BitVec.ofInt 64 (IntKind.u64.wrap ((BitVec.ofInt 64 (IntKind.u64.wrap ((BitVec.ofInt 64 (a_0.getD (t12) 0) ^^^ BitVec.ofInt 64 (b.Value.getD (t12) 0)).toNat)) &&& BitVec.ofInt 64 (a_1.getD (t12) 0)).toNat)) &&& BitVec.ofInt 64 (b.Care.getD (t12) 0)).toNat)) != 0) then
      (.inr (({ Value := [0, 0, 0, 0, 0, 0, 0, 0, 0, 0, 0, 0], Care := [0, 0, 0, 0, 0, 0, 0, 0, 0, 0, 0, 0] } : Cube), false))
    else
      cube_Meet_l0s b rest (t12 + 1) (a_0.set (t12) (IntKind.u64.wrap ((BitVec.ofInt 64 (a_0.getD (t12) 0) ||| BitVec.ofInt 64 (b.Value.getD (t12) 0)).toNat))) (a_1.set (t12) (IntKind.u64.wrap ((BitVec.ofInt 64 (a_1.getD (t12) 0) ||| BitVec.ofInt 64 (b.Care.getD (t12) 0)).toNat))))
theorem cube_Meet_l0_walk (a : Cube) (b : Cube) (r : Cube × Bool) (c0 : Ctx) (hc0 : c0.m.length = 0) (res : Sum ((List Int) × (List Int)) (Cube × Bool)) (J : ∀ w : (List Int) × (List Int), res = .inl w → AX Try.prog tab cube_Meet_F c0 (Rp tab.S c0 (.tup [Cube.av r.1, .sc (.bool r.2)]) []) (some ⟨[.code [1, 1, 1]], [(2, .ptr 0 0 none), (4, .ptr 2 0 none)], [.box 30 [.arr .u64 12 w.1, .arr .u64 12 w.2], .box 30 (Cube.ch b), .box 30 [.arr .u64 12 [0, 0, 0, 0, 0, 0, 0, 0, 0, 0, 0, 0], .arr .u64 12 [0, 0, 0, 0, 0, 0, 0, 0, 0, 0, 0, 0]]]⟩)) (Jr : ∀ w, res = .inr w → w = r) :
    ∀ (rest : Nat) (t12 : Nat) (z : Int) (hI : z = ((t12 : Nat) : Int)) (hd : t12 + rest = 12) (a_0 : List Int) (a_1 : List Int) (H : cube_Meet_l0s b rest t12 a_0 a_1 = res), AX Try.prog tab cube_Meet_F c0 (Rp tab.S c0 (.tup [Cube.av r.1, .sc (.bool r.2)]) []) (some ⟨[.code [1, 1, 0, 1, 0, 0], .loop [1, 1, 0, 1, 0], .blk 0, .code [1, 1, 1]], [(2, .ptr 0 0 none), (3, .ptr 1 0 none), (4, .ptr 2 0 none), (12, .sc (.int .i64 z))], [.box 30 [.arr .u64 12 a_0, .arr .u64 12 a_1], .box 30 (Cube.ch b), .box 30 [.arr .u64 12 [0, 0, 0, 0, 0, 0, 0, 0, 0, 0, 0, 0], .arr .u64 12 [0, 0, 0, 0, 0, 0, 0, 0, 0, 0, 0, 0]]]⟩) := by
  intro rest
  induction rest with
  | zero =>
    intro t12 z hI hd a_0 a_1 H
    subst hI
    rw [cube_Meet_l0s] at H
    have hc : (decide (((t12 : Nat) : Int) < 12)) = false := decide_eq_false (by omega)
    exact .sg 3 [2,3,4,12,13] (.cdF hc (.sg 1 [2,4] (.kp [2,4] (.to (J (a_0, a_1) H.symm)))))
  | succ rest ih =>
    intro t12 z hI hd a_0 a_1 H
    subst hI
    rw [cube_Meet_l0s] at H
    have hlt_t12 : t12 < 12 := by omega
    have hc : (decide (((t12 : Nat) : Int) < 12)) = true := decide_eq_true (by omega)
    have hw : IntKind.i64.wrap (((t12 : Nat) : Int) + 1) = ((t12 + 1 : Nat) : Int) := wrapI_succ (by omega)
    refine .sg 3 [2,3,4,12,13] (.cdT hc (.sg 7 [2,3,4,6,12] (.rg (.sg 2 [2,3,4,6,12,15,16] ?_))))
    have hreq := idx_in 12 hlt_t12 (by decide)
    refine .xa [2,3,4,6,12,17] hreq (.sg 3 [2,3,4,6,12,18,19,20] ?_)
    have hreq := idx_in 12 hlt_t12 (by decide)
    refine .xa [2,3,4,6,12,18,21] hreq (.sg 4 [2,3,4,6,12,23,24,25] ?_)
    have hreq := idx_in 12 hlt_t12 (by decide)
    refine .xa [2,3,4,6,12,23,26] hreq (.sg 4 [2,3,4,6,12,28,29,30] ?_)
    have hreq := idx_in 12 hlt_t12 (by decide)
    refine .xa [2,3,4,6,12,28,31] hreq (.sg 3 [2,3,4,6,12,34] (.dn (.cd ((IntKind.u64.wrap ((BitVec.ofInt 64 (IntKind.u64.wrap ((BitVec.ofInt 64 (IntKind.u64.wrap ((BitVec.ofInt 64 (a_0.getD (t12) 0) ^^^ BitVec.ofInt 64 (b.Value.getD (t12) 0)).toNat)) &&& BitVec.ofInt 64 (a_1.getD (t12) 0)).toNat)) &&& BitVec.ofInt 64 (b.Care.getD (t12) 0)).toNat)) != 0) H (fun hb H => ?_) (fun hb H => ?_))))
    ·
      refine .sg 2 [4,5] ?_
      subst H
      obtain rfl := Jr _ rfl
      exact .ret Try.func77 hc0
    ·
      refine .sg 2 [2,3,4,6,12] (.rg (.sg 2 [2,3,4,6,12,36,37] ?_))
      have hreq := idx_in 12 hlt_t12 (by decide)
      refine .xa [2,3,4,6,12,36,38] hreq (.sg 3 [2,3,4,6,12,36,39,40,41] ?_)
      have hreq := idx_in 12 hlt_t12 (by decide)
      refine .xa [2,3,4,6,12,36,39,42] hreq (.sg 3 [2,3,4,6,12,36,44,45] ?_)
      have hreq := idx_in 12 hlt_t12 (by decide)
      refine .xa [2,3,4,6,12,44,46] hreq (.sg 1 [2,3,4,6,12] (.dn (.rg (.sg 2 [2,3,4,6,12,47,48] ?_))))
      have hreq := idx_in 12 hlt_t12 (by decide)
      refine .xa [2,3,4,6,12,47,49] hreq (.sg 3 [2,3,4,12,47,50,51,52] ?_)
      have hreq := idx_in 12 hlt_t12 (by decide)
      refine .xa [2,3,4,12,47,50,53] hreq (.sg 3 [2,3,4,12,47,55,56] ?_)
      have hreq := idx_in 12 hlt_t12 (by decide)
      exact .xa [2,3,4,12,55,57] hreq (.sg 1 [2,3,4,12] (.dn (.sg 2 [2,3,4,12] (.kp [2,3,4,12] (.into (.cl (ih (t12 + 1) _ hw (by omega) (a_0.set (t12) (IntKind.u64.wrap ((BitVec.ofInt 64 (a_0.getD (t12) 0) ||| BitVec.ofInt 64 (b.Value.getD (t12) 0)).toNat))) (a_1.set (t12) (IntKind.u64.wrap ((BitVec.ofInt 64 (a_1.getD (t12) 0) ||| BitVec.ofInt 64 (b.Care.getD (t12) 0)).toNat))) H)))))))

def cube_Meet (a : Cube) (b : Cube) : Cube × Bool :=
  (bif (!(cube_both a b)) then
    (({ Value := [0, 0, 0, 0, 0, 0, 0, 0, 0, 0, 0, 0], Care := [0, 0, 0, 0, 0, 0, 0, 0, 0, 0, 0, 0] } : Cube), false)
  else
    sumG (fun q => q) (cube_Meet_l0s b 12 0 a.Value a.Care) fun v =>
    (({ Value := v.1, Care := v.2 } : Cube), true))
theorem cube_Meet_calls (a : Cube) (b : Cube) : ACalls Try.prog tab.S 77 [Cube.av a, Cube.av b] [] (.tup [Cube.av ((cube_Meet a b).1), .sc (.bool ((cube_Meet a b).2))]) [] := by
  generalize H : cube_Meet a b = r
  refine .of_AX cube_Meet_F Try.func77 fun c0 hc0 => ?_
  rw [cube_Meet] at H
  refine .sg 4 [2,3,4] (.rg (.sg 2 [2,3,4,7,8] (.cp [2,3,4,9] (cube_both_calls a b) (.sg 1 [2,3,4,10] (.dn (.cd (!(cube_both a b)) H (fun hb H => ?_) (fun hb H => ?_)))))))
  ·
    refine .sg 2 [4,5] ?_
    subst H
    exact .ret Try.func77 hc0
  ·
    refine .sg 5 [2,3,4,12] ?_
    rcases sumG_eq H with ⟨v, hv, H⟩ | ⟨r1, hv, hr1⟩
    case inr =>
      refine .into ?_
      replace hr1 : r1 = r := hr1
      subst hr1
      exact .to (cube_Meet_l0_walk a b _ c0 hc0 (.inr _) (fun _ e => by cases e) (fun _ e => (Sum.inr.inj e).symm) 12 0 _ rfl rfl a.Value a.Care hv)
    refine .into (.to (cube_Meet_l0_walk a b r c0 hc0 (.inl v) (fun w e => ?_) (fun _ e => by cases e) 12 0 _ rfl rfl a.Value a.Care hv))
    have e := Sum.inl.inj e
    subst e
    refine .sg 2 [4,5] ?_
    subst H
    exact .ret Try.func77 hc0

/-! ### cube.Within: function 62 -/
noncomputable def cube_Within_F : Go.Sh.Fn := ⟨62, bodyOf Try.f62, 19⟩
def cube_Within (a : Cube) (b : Cube) : Bool :=
  ((cube_Meet a b).2 && ((((cube_Meet a b).1).Value == a.Value) && (((cube_Meet a b).1).Care == a.Care)))
theorem cube_Within_calls (a : Cube) (b : Cube) : ACalls Try.prog tab.S 62 [Cube.av a, Cube.av b] [] (.sc (.bool (cube_Within a b))) [] := by
  generalize H : cube_Within a b = r
  refine .of_AX cube_Within_F Try.func62 fun c0 hc0 => ?_
  rw [cube_Within] at H
  refine .sg 3 [2,3] (.rg (.sg 2 [2,8,9] (.cp [2,10] (cube_Meet_calls a b) (.sg 6 [2,5,6] (.dn (.sg 1 [2,5,6] (.rg (.sg 2 [2,5,14] (.mm 14 ((cube_Meet a b).2) 4 [.pure, .pure, .read, .read] [18] 18 (fun z => .sc (.bool (z && ((((cube_Meet a b).1).Value == a.Value) && (((cube_Meet a b).1).Care == a.Care))))) ?J1 (fun hb J => ?ht1) (fun hb J => ?hf1))))))))))
  case ht1 =>
    exact .sg 2 [14,15,16] (.eq_ [14,17] 9 (.sg 1 [18] (.cl J)))
  case hf1 =>
    exact .sg 4 [18] (.cl J)
  refine .sg 1 [4] (.dn ?_)
  subst H
  exact .ret Try.func62 hc0

/-! ### mods.touches: function 33 -/
noncomputable def mods_touches_F : Go.Sh.Fn := ⟨33, bodyOf Try.f33, 36⟩
def mods_touches (m1 : Mod) (r2 : Rule) : Bool :=
  (bif (bif (m1.Kind == 2) then (m1.Kind == 2) else (m1.Kind == 3)) then
    ((r2.Owner == m1.Owner) && (cube_Within r2.Match m1.Match))
  else
    (bif (bif (m1.Kind == 4) then (m1.Kind == 4) else (m1.Kind == 5)) then
      ((r2.Owner == m1.Owner) && (rule_Key r2 (mods_Rule m1)))
    else
      false))
theorem mods_touches_calls (m1 : Mod) (r2 : Rule) : ACalls Try.prog tab.S 33 [Mod.av m1, Rule.av r2] [] (.sc (.bool (mods_touches m1 r2))) [] := by
  generalize H : mods_touches m1 r2 = r
  refine .of_AX mods_touches_F Try.func33 fun c0 hc0 => ?_
  rw [mods_touches] at H
  refine .sg 9 [2,3,6,7] (.jn (m1.Kind == 2) [2, 3, 6, 7] (fun z => [(7, .sc (.bool (bif z then (m1.Kind == 2) else (m1.Kind == 3))))]) ?J1 (fun hb J => ?ht1) (fun hb J => ?hf1))
  case ht1 =>
    exact .sg 1 [2,3,6,7] (.cl J)
  case hf1 =>
    exact .sg 1 [2,3,6,7] (.cl J)
  refine .cd (bif (m1.Kind == 2) then (m1.Kind == 2) else (m1.Kind == 3)) H (fun hb H => ?_) (fun hb H => ?_)
  ·
    refine .sg 1 [2,3] (.rg (.sg 6 [2,3,15] (.mm 15 (r2.Owner == m1.Owner) 6 [.pure, .pure, .read, .pure, .read, .pure] [21] 21 (fun z => .sc (.bool (z && (cube_Within r2.Match m1.Match)))) ?J3 (fun hb J => ?ht3) (fun hb J => ?hf3))))
    case ht3 =>
      exact .sg 4 [15,17,19] (.cp [15,20] (cube_Within_calls r2.Match m1.Match) (.sg 1 [21] (.cl J)))
    case hf3 =>
      exact .sg 6 [21] (.cl J)
    refine .sg 1 [4] (.dn ?_)
    subst H
    exact .ret Try.func33 hc0
  ·
    refine .sg 3 [2,3,6,22] (.jn (m1.Kind == 4) [2, 3, 22] (fun z => [(22, .sc (.bool (bif z then (m1.Kind == 4) else (m1.Kind == 5))))]) ?J4 (fun hb J => ?ht4) (fun hb J => ?hf4))
    case ht4 =>
      exact .sg 1 [2,3,22] (.cl J)
    case hf4 =>
      exact .sg 1 [2,3,22] (.cl J)
    refine .cd (bif (m1.Kind == 4) then (m1.Kind == 4) else (m1.Kind == 5)) H (fun hb H => ?_) (fun hb H => ?_)
    ·
      refine .sg 1 [2,3] (.rg (.sg 6 [2,3,30] (.mm 30 (r2.Owner == m1.Owner) 5 [.pure, .pure, .pure, .read, .read] [35] 35 (fun z => .sc (.bool (z && (rule_Key r2 (mods_Rule m1))))) ?J6 (fun hb J => ?ht6) (fun hb J => ?hf6))))
      case ht6 =>
        exact .sg 2 [30,31,32] (.cp [30,31,33] (mods_Rule_calls m1) (.cp [30,34] (rule_Key_calls r2 (mods_Rule m1)) (.sg 1 [35] (.cl J))))
      case hf6 =>
        exact .sg 5 [35] (.cl J)
      refine .sg 1 [4] (.dn ?_)
      subst H
      exact .ret Try.func33 hc0
    ·
      refine .sg 4 [4] ?_
      subst H
      exact .ret Try.func33 hc0

/-! ### rule.Overlap: function 59 -/
noncomputable def rule_Overlap_F : Go.Sh.Fn := ⟨59, bodyOf Try.f59, 23⟩
def rule_Overlap (a : Rule) (b : Rule) : Bool :=
  ((cube_Meet a.Match b.Match).2 && (a.Prio == b.Prio))
theorem rule_Overlap_calls (a : Rule) (b : Rule) : ACalls Try.prog tab.S 59 [Rule.av a, Rule.av b] [] (.sc (.bool (rule_Overlap a b))) [] := by
  generalize H : rule_Overlap a b = r
  refine .of_AX rule_Overlap_F Try.func59 fun c0 hc0 => ?_
  rw [rule_Overlap] at H
  refine .sg 3 [2,3] (.rg (.sg 4 [2,3,9,11] (.cp [2,3,12] (cube_Meet_calls a.Match b.Match) (.sg 6 [2,3,6] (.dn (.sg 1 [2,3,6] (.rg (.sg 2 [2,3,16] (.mx 0 [22] (.sg 1 [4] (.dn ?_)))))))))))
  subst H
  exact .ret Try.func59 hc0

/-! ### slices.IndexFunc: function 56 -/
noncomputable def slices_IndexFunc__api_Rule_F : Go.Sh.Fn := ⟨56, bodyOf Try.f56, 19⟩
def slices_IndexFunc__api_Rule_l0s (f : Rule → Bool) : List Rule → Nat → Sum (Unit) (Int)
  | [], t8 =>
    (.inl ())
  | x :: rest, t8 =>
    (bif (f x) then
      (.inr ((t8 : Nat) : Int))
    else
      slices_IndexFunc__api_Rule_l0s f rest (t8 + 1) )
theorem slices_IndexFunc__api_Rule_l0_walk (s : List Rule) (F_f : FuncId) (C_f : List AV) (f : Rule → Bool) (P_f : plainL C_f = true) (O_f : C_f.all oneA = true) (H_f : ∀ (y0 : Rule), ACalls Try.prog tab.S F_f ([Rule.av y0] ++ C_f) [] (.sc (.bool (f y0))) []) (f_s : Bool) (r : Int) (c0 : Ctx) (hc0 : c0.m.length = 0) (res : Sum (Unit) (Int)) (J : ∀ w : Unit, res = .inl w → AX Try.prog tab slices_IndexFunc__api_Rule_F c0 (Rp tab.S c0 (.sc (.int .i64 r)) []) (some ⟨[.code [1, 1]], [], []⟩)) (Jr : ∀ w, res = .inr w → w = r) :
    ∀ (rest : List Rule) (t8 : Nat) (z : Int) (hI : z = ((t8 : Nat) : Int)) (hd : s.drop t8 = rest) (H : slices_IndexFunc__api_Rule_l0s f rest t8 = res), AX Try.prog tab slices_IndexFunc__api_Rule_F c0 (Rp tab.S c0 (.sc (.int .i64 r)) []) (some ⟨[.code [1, 0, 1, 0, 0], .loop [1, 0, 1, 0], .blk 0, .code [1, 1]], [(0, .sl 51 (List.map Rule.av s) f_s), (1, .fn F_f C_f), (7, .sc (.int .i64 (((List.map Rule.av s).length : Nat) : Int))), (8, .sc (.int .i64 z))], []⟩) := by
  intro rest
  induction rest with
  | nil =>
    intro t8 z hI hd  H
    subst hI
    rw [slices_IndexFunc__api_Rule_l0s] at H
    refine .facts 0 fun hf => ?_
    have hlen : s.length ≤ 9223372036854775807 := by have hq := len_ok hf.2.1; rw [List.length_map] at hq; exact hq
    have hge : s.length ≤ t8 := List.drop_eq_nil_iff.1 hd
    have hc : (decide (((t8 : Nat) : Int) < (((List.map Rule.av s).length : Nat) : Int))) = false := by rw [List.length_map]; exact decide_eq_false (by omega)
    exact .sg 3 [0,1,7,8,9] (.cdF hc (.sg 1 [] (.kp [] (.to (J () H.symm)))))
  | cons x rest ih =>
    intro t8 z hI hd  H
    subst hI
    rw [slices_IndexFunc__api_Rule_l0s] at H
    refine .facts 0 fun hf => ?_
    have hlen : s.length ≤ 9223372036854775807 := by have hq := len_ok hf.2.1; rw [List.length_map] at hq; exact hq
    obtain ⟨hlt, hv_t8, hd2⟩ := drop_cons hd
    have hc : (decide (((t8 : Nat) : Int) < (((List.map Rule.av s).length : Nat) : Int))) = true := by rw [List.length_map]; exact decide_eq_true (by omega)
    have hw : IntKind.i64.wrap (((t8 : Nat) : Int) + 1) = ((t8 + 1 : Nat) : Int) := wrapI_succ (by omega)
    refine .sg 3 [0,1,7,8,9] (.cdT hc (.sg 6 [0,1,5,7,8] (.rg (.sg 3 [0,1,5,7,8,11,12,13] (.xi [0,1,5,7,8,11,14] Rule.av hv_t8 (.sg 1 [0,1,5,7,8,11,15] (.cf [0,1,5,7,8,16] (H_f x) P_f O_f (.dn (.cd (f x) H (fun hb H => ?_) (fun hb H => ?_))))))))))
    ·
      refine .sg 2 [4] ?_
      subst H
      obtain rfl := Jr _ rfl
      exact .ret Try.func56 hc0
    ·
      exact .sg 3 [0,1,7,8] (.kp [0,1,7,8] (.into (.cl (ih (t8 + 1) _ hw hd2 H))))

def slices_IndexFunc__api_Rule (s : List Rule) (f : Rule → Bool) : Int :=
  sumG (fun q => q) (slices_IndexFunc__api_Rule_l0s f s 0) fun v =>
  (-1)
theorem slices_IndexFunc__api_Rule_calls (s : List Rule) (F_f : FuncId) (C_f : List AV) (f : Rule → Bool) (P_f : plainL C_f = true) (O_f : C_f.all oneA = true) (H_f : ∀ (y0 : Rule), ACalls Try.prog tab.S F_f ([Rule.av y0] ++ C_f) [] (.sc (.bool (f y0))) []) (f_s : Bool) : ACalls Try.prog tab.S 56 [.sl 51 (List.map Rule.av s) f_s, .fn F_f C_f] [] (.sc (.int .i64 (slices_IndexFunc__api_Rule s f))) [] := by
  generalize H : slices_IndexFunc__api_Rule s f = r
  refine .of_AX slices_IndexFunc__api_Rule_F Try.func56 fun c0 hc0 => ?_
  rw [slices_IndexFunc__api_Rule] at H
  refine .sg 6 [0,1,7,8] ?_
  rcases sumG_eq H with ⟨v, hv, H⟩ | ⟨r1, hv, hr1⟩
  case inr =>
    refine .into ?_
    replace hr1 : r1 = r := hr1
    subst hr1
    exact .to (slices_IndexFunc__api_Rule_l0_walk s F_f C_f f P_f O_f H_f f_s _ c0 hc0 (.inr _) (fun _ e => by cases e) (fun _ e => (Sum.inr.inj e).symm) s 0 _ rfl rfl hv)
  refine .into (.to (slices_IndexFunc__api_Rule_l0_walk s F_f C_f f P_f O_f H_f f_s r c0 hc0 (.inl v) (fun w e => ?_) (fun _ e => by cases e) s 0 _ rfl rfl hv))
  have e := Sum.inl.inj e
  subst e
  refine .sg 2 [4] ?_
  subst H
  exact .ret Try.func56 hc0

theorem slices_IndexFunc__api_Rule_l0s_eq (f : Rule → Bool) : ∀ (l : List Rule) (i : Nat), slices_IndexFunc__api_Rule_l0s f l i = match l.findIdx? f with | some k => .inr ((i + k : Nat) : Int) | none => .inl ()
  | [], i => rfl
  | x :: l, i => by
      rw [slices_IndexFunc__api_Rule_l0s, List.findIdx?_cons, slices_IndexFunc__api_Rule_l0s_eq f l (i + 1)]
      cases f x
      · simp only [cond_false, Bool.false_eq_true, if_false]
        cases l.findIdx? f with
        | none => rfl
        | some k => simp only [Option.map_some]; rw [show i + 1 + k = i + (k + 1) by omega]
      · rfl
theorem slices_IndexFunc__api_Rule_idx (s : List Rule) (f : Rule → Bool) : slices_IndexFunc__api_Rule s f = idxF f s := by
  rw [slices_IndexFunc__api_Rule, slices_IndexFunc__api_Rule_l0s_eq]
  unfold idxF sumG
  cases s.findIdx? f with
  | none => rfl
  | some k => simp only [Nat.zero_add]

/-! ### slices.ContainsFunc: function 42 -/
noncomputable def slices_ContainsFunc__api_Rule_F : Go.Sh.Fn := ⟨42, bodyOf Try.f42, 9⟩
def slices_ContainsFunc__api_Rule (s : List Rule) (f : Rule → Bool) : Bool :=
  (decide ((slices_IndexFunc__api_Rule s f) ≥ 0))
theorem slices_ContainsFunc__api_Rule_calls (s : List Rule) (F_f : FuncId) (C_f : List AV) (f : Rule → Bool) (P_f : plainL C_f = true) (O_f : C_f.all oneA = true) (H_f : ∀ (y0 : Rule), ACalls Try.prog tab.S F_f ([Rule.av y0] ++ C_f) [] (.sc (.bool (f y0))) []) (f_s : Bool) : ACalls Try.prog tab.S 42 [.sl 51 (List.map Rule.av s) f_s, .fn F_f C_f] [] (.sc (.bool (slices_ContainsFunc__api_Rule s f))) [] := by
  generalize H : slices_ContainsFunc__api_Rule s f = r
  refine .of_AX slices_ContainsFunc__api_Rule_F Try.func42 fun c0 hc0 => ?_
  rw [slices_ContainsFunc__api_Rule] at H
  refine .sg 3 [0,1] (.rg (.sg 2 [5,6] (.cl_ [7] (caps := []) (slices_IndexFunc__api_Rule_calls s F_f C_f f P_f O_f H_f f_s) (.same rfl (.fn (caps := C_f) (lendC_plain C_f P_f) .nil)) (by kernel_rfl) rfl rfl (.sg 2 [4] (.dn ?_)))))
  subst H
  exact .ret Try.func42 hc0

theorem slices_ContainsFunc__api_Rule_any (s : List Rule) (f : Rule → Bool) : slices_ContainsFunc__api_Rule s f = s.any f := by
  rw [slices_ContainsFunc__api_Rule, slices_IndexFunc__api_Rule_idx, idxF_any]

/-! ### mods.add$1: function 57 -/
noncomputable def mods_add_1_F : Go.Sh.Fn := ⟨57, bodyOf Try.f57, 7⟩
def mods_add_1 (x : Rule) (c : Rule) : Bool :=
  (rule_Key x c)
theorem mods_add_1_calls (x : Rule) (c : Rule) : ACalls Try.prog tab.S 57 [Rule.av x, .ep [.arr .u64 12 c.Match.Value, .arr .u64 12 c.Match.Care, .sc (.int .i64 c.Prio), .sl 60 (List.map Act.av c.Acts) false, .sc (.int .i64 c.Idle), .sc (.int .i64 c.Hard), .sc (.int .i64 c.Owner), .sc (.int .i64 c.Hits), .sc (.int .i64 c.Quiet), .sc (.int .i64 c.Age)] 0 none] [] (.sc (.bool (mods_add_1 x c))) [] := by
  generalize H : mods_add_1 x c = r
  refine .of_AX mods_add_1_F Try.func57 fun c0 hc0 => ?_
  rw [mods_add_1] at H
  refine .sg 3 [1,2] (.rg (.sg 2 [4,5] (.cp [6] (rule_Key_calls x c) (.sg 1 [3] (.dn ?_)))))
  subst H
  exact .ret Try.func57 hc0

/-! ### mods.add$2: function 58 -/
noncomputable def mods_add_2_F : Go.Sh.Fn := ⟨58, bodyOf Try.f58, 13⟩
def mods_add_2 (x : Rule) (c : Rule) : Bool :=
  ((!(rule_Key x c)) && (rule_Overlap x c))
theorem mods_add_2_calls (x : Rule) (c : Rule) : ACalls Try.prog tab.S 58 [Rule.av x, .ep [.arr .u64 12 c.Match.Value, .arr .u64 12 c.Match.Care, .sc (.int .i64 c.Prio), .sl 60 (List.map Act.av c.Acts) false, .sc (.int .i64 c.Idle), .sc (.int .i64 c.Hard), .sc (.int .i64 c.Owner), .sc (.int .i64 c.Hits), .sc (.int .i64 c.Quiet), .sc (.int .i64 c.Age)] 0 none] [] (.sc (.bool (mods_add_2 x c))) [] := by
  generalize H : mods_add_2 x c = r
  refine .of_AX mods_add_2_F Try.func58 fun c0 hc0 => ?_
  rw [mods_add_2] at H
  refine .sg 3 [1,2] (.rg (.sg 2 [1,2,4,5] (.cp [1,2,6] (rule_Key_calls x c) (.sg 2 [1,2,8] (.mm 8 (!(rule_Key x c)) 4 [.pure, .pure, .pure, .read] [12] 12 (fun z => .sc (.bool (z && (rule_Overlap x c)))) ?J1 (fun hb J => ?ht1) (fun hb J => ?hf1))))))
  case ht1 =>
    exact .sg 2 [8,9,10] (.cp [8,11] (rule_Overlap_calls x c) (.sg 1 [12] (.cl J)))
  case hf1 =>
    exact .sg 4 [12] (.cl J)
  refine .sg 1 [3] (.dn ?_)
  subst H
  exact .ret Try.func58 hc0

/-! ### mods.add: function 31 -/
noncomputable def mods_add_F : Go.Sh.Fn := ⟨31, bodyOf Try.f31, 53⟩
def mods_add_raw (list : List Rule) (m1 : Mod) (room : Int) : Option ((List Rule) × Int) :=
  (bif (decide ((slices_IndexFunc__api_Rule list (fun y0 => mods_add_1 y0 (mods_Rule m1))) ≥ 0)) then
    (ixO list (slices_IndexFunc__api_Rule list (fun y0 => mods_add_1 y0 (mods_Rule m1)))).bind fun x =>
    (bif (x.Owner != m1.Owner) then
      some ([], 7)
    else
      (bif (m1.Check && (slices_ContainsFunc__api_Rule list (fun y0 => mods_add_2 y0 (mods_Rule m1)))) then
        some ([], 6)
      else
        (bif ((decide ((slices_IndexFunc__api_Rule list (fun y0 => mods_add_1 y0 (mods_Rule m1))) < 0)) && (decide ((((List.map Rule.av list).length : Nat) : Int) ≥ room))) then
          some ([], 3)
        else
          fitO (list.length + [(mods_Rule m1)].length) 272 (
          some ((sortR (list ++ [(mods_Rule m1)])), 0)))))
  else
    (bif (m1.Check && (slices_ContainsFunc__api_Rule list (fun y0 => mods_add_2 y0 (mods_Rule m1)))) then
      some ([], 6)
    else
      (bif ((decide ((slices_IndexFunc__api_Rule list (fun y0 => mods_add_1 y0 (mods_Rule m1))) < 0)) && (decide ((((List.map Rule.av list).length : Nat) : Int) ≥ room))) then
        some ([], 3)
      else
        fitO (list.length + [(mods_Rule m1)].length) 272 (
        some ((sortR (list ++ [(mods_Rule m1)])), 0)))))
theorem mods_add_walk (list : List Rule) (m1 : Mod) (room : Int) (f_list : Bool) (r : (List Rule) × Int) (H : mods_add_raw list m1 room = some r) : ACalls Try.prog tab.S 31 [.sl 51 (List.map Rule.av list) f_list, Mod.av m1, .sc (.int .i64 room)] [] (.tup [.sl 51 (List.map Rule.av r.1) true, .sc (.int .i64 r.2)]) [] := by
  refine .of_AX mods_add_F Try.func31 fun c0 hc0 => ?_
  rw [mods_add_raw] at H
  refine .sg 3 [0,2,4] (.rg (.sg 1 [0,2,4,11] (.cp [0,2,4,12] (mods_Rule_calls m1) (.sg 2 [0,2,4,8] (.dn (.sg 1 [0,2,4,8] (.rg (.sg 2 [0,2,4,8,13,14] (.cl_ [0,2,4,8,15] (caps := []) (slices_IndexFunc__api_Rule_calls list 57 [.ep [.arr .u64 12 (((mods_Rule m1).Match).Value), .arr .u64 12 (((mods_Rule m1).Match).Care), .sc (.int .i64 ((mods_Rule m1).Prio)), .sl 60 (List.map Act.av ((mods_Rule m1).Acts)) false, .sc (.int .i64 ((mods_Rule m1).Idle)), .sc (.int .i64 ((mods_Rule m1).Hard)), .sc (.int .i64 ((mods_Rule m1).Owner)), .sc (.int .i64 ((mods_Rule m1).Hits)), .sc (.int .i64 ((mods_Rule m1).Quiet)), .sc (.int .i64 ((mods_Rule m1).Age))] 0 none] (fun y0 => mods_add_1 y0 (mods_Rule m1)) rfl rfl (fun y0 => mods_add_1_calls y0 (mods_Rule m1)) f_list) (.same rfl (.fn (caps := [.ptr 1 0 none]) (by kernel_rfl) .nil)) (by kernel_rfl) rfl rfl (.sg 1 [0,2,4,8,9] (.dn (.sg 5 [0,2,4,8,9,10] (.rg (.sg 3 [0,2,4,8,9,10,20] (.sp 20 (decide ((slices_IndexFunc__api_Rule list (fun y0 => mods_add_1 y0 (mods_Rule m1))) ≥ 0)) H (fun hb H => ?_) (fun hb H => ?_))))))))))))))))
  ·
    refine .sg 2 [0,2,4,8,9,10,20,21,22] (bndO H fun x hv H => (.xi [0,2,4,8,9,10,20,23] Rule.av hv (.sg 7 [0,2,4,8,9,10,17] (.dn (.cd (x.Owner != m1.Owner) H (fun hb H => ?_) (fun hb H => ?_))))))
    ·
      refine .sg 2 [6,7] ?_
      obtain rfl := Option.some.inj H
      exact .ret Try.func31 hc0 [] [(51, true)]
    ·
      refine .sg 1 [0,2,4,8,9,10] (.rg (.sg 3 [0,2,8,9,10,33] (.mm 33 m1.Check 4 [.pure, .read, .pure, .pure] [0, 2, 8, 9, 37] 37 (fun z => .sc (.bool (z && (slices_ContainsFunc__api_Rule list (fun y0 => mods_add_2 y0 (mods_Rule m1)))))) ?J1 (fun hb J => ?ht1) (fun hb J => ?hf1))))
      case ht1 =>
        exact .sg 2 [0,2,8,9,33,34,35] (.cl_ [0,2,8,9,33,36] (caps := []) (slices_ContainsFunc__api_Rule_calls list 58 [.ep [.arr .u64 12 (((mods_Rule m1).Match).Value), .arr .u64 12 (((mods_Rule m1).Match).Care), .sc (.int .i64 ((mods_Rule m1).Prio)), .sl 60 (List.map Act.av ((mods_Rule m1).Acts)) false, .sc (.int .i64 ((mods_Rule m1).Idle)), .sc (.int .i64 ((mods_Rule m1).Hard)), .sc (.int .i64 ((mods_Rule m1).Owner)), .sc (.int .i64 ((mods_Rule m1).Hits)), .sc (.int .i64 ((mods_Rule m1).Quiet)), .sc (.int .i64 ((mods_Rule m1).Age))] 0 none] (fun y0 => mods_add_2 y0 (mods_Rule m1)) rfl rfl (fun y0 => mods_add_2_calls y0 (mods_Rule m1)) f_list) (.same rfl (.fn (caps := [.ptr 1 0 none]) (by kernel_rfl) .nil)) (by kernel_rfl) rfl rfl (.sg 1 [0,2,8,9,37] (.cl J)))
      case hf1 =>
        exact .sg 4 [0,2,8,9,37] (.cl J)
      refine .sg 1 [0,2,8,9,30] (.dn (.cd (m1.Check && (slices_ContainsFunc__api_Rule list (fun y0 => mods_add_2 y0 (mods_Rule m1)))) H (fun hb H => ?_) (fun hb H => ?_)))
      ·
        refine .sg 2 [6,7] ?_
        obtain rfl := Option.some.inj H
        exact .ret Try.func31 hc0 [] [(51, true)]
      ·
        refine .sg 1 [0,2,8,9] (.rg (.sg 3 [0,2,8,41] (.mx 0 [0,8,46] (.sg 1 [0,8,38] (.dn (.cd ((decide ((slices_IndexFunc__api_Rule list (fun y0 => mods_add_1 y0 (mods_Rule m1))) < 0)) && (decide ((((List.map Rule.av list).length : Nat) : Int) ≥ room))) H (fun hb H => ?_) (fun hb H => ?_)))))))
        ·
          refine .sg 2 [6,7] ?_
          obtain rfl := Option.some.inj H
          exact .ret Try.func31 hc0 [] [(51, true)]
        ·
          refine .sg 3 [0,8] (.rg (.sg 1 [8,47] (.cp [8,48] (rule_Copy_ok list f_list) (.sg 2 [48,50] (fitH H fun hfit H => (.an [51] Rule.av hfit (.cc [52] [2] (rule_Sort_ok (list ++ [(mods_Rule m1)]) false) (.sg 2 [6,7] (.dn ?_)))))))))
          obtain rfl := Option.some.inj H
          exact .ret Try.func31 hc0
  ·
    refine .sg 10 [0,2,4,8,9,10,17] (.dn (.sg 2 [0,2,4,8,9,10] (.rg (.sg 3 [0,2,8,9,10,33] (.mm 33 m1.Check 4 [.pure, .read, .pure, .pure] [0, 2, 8, 9, 37] 37 (fun z => .sc (.bool (z && (slices_ContainsFunc__api_Rule list (fun y0 => mods_add_2 y0 (mods_Rule m1)))))) ?J3 (fun hb J => ?ht3) (fun hb J => ?hf3))))))
    case ht3 =>
      exact .sg 2 [0,2,8,9,33,34,35] (.cl_ [0,2,8,9,33,36] (caps := []) (slices_ContainsFunc__api_Rule_calls list 58 [.ep [.arr .u64 12 (((mods_Rule m1).Match).Value), .arr .u64 12 (((mods_Rule m1).Match).Care), .sc (.int .i64 ((mods_Rule m1).Prio)), .sl 60 (List.map Act.av ((mods_Rule m1).Acts)) false, .sc (.int .i64 ((mods_Rule m1).Idle)), .sc (.int .i64 ((mods_Rule m1).Hard)), .sc (.int .i64 ((mods_Rule m1).Owner)), .sc (.int .i64 ((mods_Rule m1).Hits)), .sc (.int .i64 ((mods_Rule m1).Quiet)), .sc (.int .i64 ((mods_Rule m1).Age))] 0 none] (fun y0 => mods_add_2 y0 (mods_Rule m1)) rfl rfl (fun y0 => mods_add_2_calls y0 (mods_Rule m1)) f_list) (.same rfl (.fn (caps := [.ptr 1 0 none]) (by kernel_rfl) .nil)) (by kernel_rfl) rfl rfl (.sg 1 [0,2,8,9,37] (.cl J)))
    case hf3 =>
      exact .sg 4 [0,2,8,9,37] (.cl J)
    refine .sg 1 [0,2,8,9,30] (.dn (.cd (m1.Check && (slices_ContainsFunc__api_Rule list (fun y0 => mods_add_2 y0 (mods_Rule m1)))) H (fun hb H => ?_) (fun hb H => ?_)))
    ·
      refine .sg 2 [6,7] ?_
      obtain rfl := Option.some.inj H
      exact .ret Try.func31 hc0 [] [(51, true)]
    ·
      refine .sg 1 [0,2,8,9] (.rg (.sg 3 [0,2,8,41] (.mx 0 [0,8,46] (.sg 1 [0,8,38] (.dn (.cd ((decide ((slices_IndexFunc__api_Rule list (fun y0 => mods_add_1 y0 (mods_Rule m1))) < 0)) && (decide ((((List.map Rule.av list).length : Nat) : Int) ≥ room))) H (fun hb H => ?_) (fun hb H => ?_)))))))
      ·
        refine .sg 2 [6,7] ?_
        obtain rfl := Option.some.inj H
        exact .ret Try.func31 hc0 [] [(51, true)]
      ·
        refine .sg 3 [0,8] (.rg (.sg 1 [8,47] (.cp [8,48] (rule_Copy_ok list f_list) (.sg 2 [48,50] (fitH H fun hfit H => (.an [51] Rule.av hfit (.cc [52] [2] (rule_Sort_ok (list ++ [(mods_Rule m1)]) false) (.sg 2 [6,7] (.dn ?_)))))))))
        obtain rfl := Option.some.inj H
        exact .ret Try.func31 hc0

end Go.Proofs.Ytlfiemphadkimaa

set_option linter.unusedVariables false
set_option linter.unusedSimpArgs false
set_option maxRecDepth 100000
set_option maxHeartbeats 4000000
namespace Go.Proofs.Ytlfiemphadkimaa
open Go.Sh
def addM (l : List Rule) (m : Mod) (room : Int) : List Rule × Int :=
  match l.find? (fun x => rule_Key x (mods_Rule m)) with
  | some x => if x.Owner != m.Owner then ([], 7) else if m.Check && l.any (fun x => mods_add_2 x (mods_Rule m)) then ([], 6) else (sortR (l ++ [mods_Rule m]), 0)
  | none => if m.Check && l.any (fun x => mods_add_2 x (mods_Rule m)) then ([], 6) else if decide ((l.length : Int) ≥ room) then ([], 3) else (sortR (l ++ [mods_Rule m]), 0)
def addO (l : List Rule) (m : Mod) (room : Int) : Option (List Rule × Int) := if l.length ≤ 1000000 then some (addM l m room) else none
theorem mods_add_eq (l : List Rule) (m : Mod) (room : Int) (h : l.length ≤ 1000000) : mods_add_raw l m room = some (addM l m room) := by
  rw [mods_add_raw, slices_ContainsFunc__api_Rule_any, slices_IndexFunc__api_Rule_idx, fitO_eq (by rw [List.length_cons, List.length_nil]; omega)]
  unfold addM idxF
  have e1 : (fun y0 => mods_add_1 y0 (mods_Rule m)) = (fun y0 => rule_Key y0 (mods_Rule m)) := rfl
  rw [e1, List.length_map]
  cases hf : l.findIdx? (fun y0 => rule_Key y0 (mods_Rule m)) with
  | none =>
    have hn : l.find? (fun x => rule_Key x (mods_Rule m)) = none := by
      rw [List.find?_eq_none]
      intro x hx
      simp [List.findIdx?_eq_none_iff.1 hf x hx]
    rw [hn]
    simp only [Int.reduceNeg, ge_iff_le, Int.reduceLE, decide_false, cond_false, Int.reduceLT, decide_true, Bool.true_and]
    cases m.Check && l.any (fun x => mods_add_2 x (mods_Rule m))
    · cases decide (room ≤ (l.length : Int)) <;> rfl
    · rfl
  | some i =>
    obtain ⟨hlt, hp, hbe⟩ := List.findIdx?_eq_some_iff_getElem.1 hf
    have hn : l.find? (fun x => rule_Key x (mods_Rule m)) = some l[i] := by
      rw [List.find?_eq_some_iff_getElem]
      exact ⟨hp, i, hlt, rfl, fun j hj => by simpa using hbe j hj⟩
    rw [hn]
    simp only
    rw [decide_eq_true (show ((i : Nat) : Int) ≥ 0 by omega), cond_true, ixO_lt hlt, Option.bind_some, decide_eq_false (show ¬ ((i : Nat) : Int) < 0 by omega), Bool.false_and]
    cases l[i].Owner != m.Owner
    · cases m.Check && l.any (fun x => mods_add_2 x (mods_Rule m)) <;> rfl
    · rfl
theorem mods_add_ok (l : List Rule) (m : Mod) (room : Int) (f : Bool) (x : List Rule × Int) (h : addO l m room = some x) : ACalls Try.prog tab.S 31 [.sl 51 (List.map Rule.av l) f, Mod.av m, .sc (.int .i64 room)] [] (.tup [.sl 51 (List.map Rule.av x.1) true, .sc (.int .i64 x.2)]) [] := by
  unfold addO at h
  split at h
  · rename_i hl
    exact mods_add_walk l m room f x ((mods_add_eq l m room hl).trans h)
  · cases h

end Go.Proofs.Ytlfiemphadkimaa

set_option linter.unusedVariables false
set_option linter.unusedSimpArgs false
set_option maxRecDepth 100000
set_option maxHeartbeats 4000000
namespace Go.Proofs.Ytlfiemphadkimaa
open Go.Sh
/-! ### mods.Apply: function 18 -/
noncomputable def mods_Apply_F : Go.Sh.Fn := ⟨18, bodyOf Try.f18, 57⟩
def mods_Apply_l0s (m1 : Mod) : List Rule → List Rule → Option ((List Rule))
  | [], out =>
    some out
  | x1 :: rest, out =>
    (bif (mods_touches m1 x1) then
      (bif ((m1.Kind == 3) || (m1.Kind == 5)) then
        mods_Apply_l0s m1 rest out
      else
        fitO (out.length + [({ x1 with Acts := m1.Acts } : Rule)].length) 272 (
        mods_Apply_l0s m1 rest (out ++ [({ x1 with Acts := m1.Acts } : Rule)])))
    else
      fitO (out.length + [x1].length) 272 (
      mods_Apply_l0s m1 rest (out ++ [x1])))
theorem mods_Apply_l0_walk (list : List Rule) (m1 : Mod) (room : Int) (f_list : Bool) (r : (List Rule) × Int) (c0 : Ctx) (hc0 : c0.m.length = 0) (res : (List Rule)) (J : AX Try.prog tab mods_Apply_F c0 (Rp tab.S c0 (.tup [.sl 51 (List.map Rule.av r.1) false, .sc (.int .i64 r.2)]) []) (some ⟨[.code [1, 1, 1, 1, 1]], [(8, .own 1 1000000)], [.box 33 (Mod.ch m1), .row 51 (List.map Rule.av res) 1000000 true]⟩)) :
    ∀ (rest : List Rule) (t31 : Nat) (z : Int) (hI : z = ((t31 : Nat) : Int)) (hd : list.drop t31 = rest) (out : List Rule) (H : mods_Apply_l0s m1 rest out = some res), AX Try.prog tab mods_Apply_F c0 (Rp tab.S c0 (.tup [.sl 51 (List.map Rule.av r.1) false, .sc (.int .i64 r.2)]) []) (some ⟨[.code [1, 1, 1, 1, 0, 1, 0, 0], .loop [1, 1, 1, 1, 0, 1, 0], .blk 0, .code [1, 1, 1, 1, 1]], [(4, .ptr 0 0 none), (8, .own 1 1000000), (29, .sl 51 (List.map Rule.av list) true), (30, .sc (.int .i64 (((List.map Rule.av list).length : Nat) : Int))), (31, .sc (.int .i64 z))], [.box 33 (Mod.ch m1), .row 51 (List.map Rule.av out) 1000000 true]⟩) := by
  intro rest
  induction rest with
  | nil =>
    intro t31 z hI hd out H
    subst hI
    rw [mods_Apply_l0s] at H
    refine .facts 29 fun hf => ?_
    have hlen : list.length ≤ 9223372036854775807 := by have hq := len_ok hf.2.1; rw [List.length_map] at hq; exact hq
    have hge : list.length ≤ t31 := List.drop_eq_nil_iff.1 hd
    have hc : (decide (((t31 : Nat) : Int) < (((List.map Rule.av list).length : Nat) : Int))) = false := by rw [List.length_map]; exact decide_eq_false (by omega)
    refine .sg 3 [4,8,29,30,31,32] (.cdF hc (.sg 1 [8] (.kp [8] ?_)))
    obtain rfl := Option.some.inj H
    exact .to J
  | cons x1 rest ih =>
    intro t31 z hI hd out H
    subst hI
    rw [mods_Apply_l0s] at H
    refine .facts 29 fun hf => ?_
    have hlen : list.length ≤ 9223372036854775807 := by have hq := len_ok hf.2.1; rw [List.length_map] at hq; exact hq
    obtain ⟨hlt, hv_t31, hd2⟩ := drop_cons hd
    have hc : (decide (((t31 : Nat) : Int) < (((List.map Rule.av list).length : Nat) : Int))) = true := by rw [List.length_map]; exact decide_eq_true (by omega)
    have hw : IntKind.i64.wrap (((t31 : Nat) : Int) + 1) = ((t31 + 1 : Nat) : Int) := wrapI_succ (by omega)
    refine .sg 3 [4,8,29,30,31,32] (.cdT hc (.sg 4 [4,8,29,30,31] (.rg (.xi [4,8,29,30,31,33] Rule.av hv_t31 (.sg 3 [4,8,10,29,30,31] (.dn (.sg 2 [4,8,10,29,30,31] (.rg (.sg 2 [4,8,10,29,30,31,35,36] (.cp [4,8,10,29,30,31,37] (mods_touches_calls m1 x1) (.dn (.cd (mods_touches m1 x1) H (fun hb H => ?_) (fun hb H => ?_)))))))))))))
    ·
      refine .sg 2 [4,8,10,29,30,31] (.rg (.sg 4 [4,8,10,29,30,31,41] (.mx 1 [4,8,10,29,30,31,45] (.dn (.cd ((m1.Kind == 3) || (m1.Kind == 5)) H (fun hb H => ?_) (fun hb H => ?_))))))
      ·
        exact .sg 2 [4,8,29,30,31] (.tl hc0 [0,1] [4,8,29,30,31] (.into (.cl (ih (t31 + 1) _ hw hd2 out H))))
      ·
        exact .sg 1 [4,8,10,29,30,31] (.rg (.sg 2 [4,8,10,29,30,31,47] (.cp [4,8,10,29,30,31,48] (slices_Clone__api_Act_calls m1.Acts false) (.cp [4,8,10,29,30,31,49] (slices_Clip__api_Act_calls m1.Acts false) (.sg 2 [4,8,10,29,30,31] (.dn (.rg (.sg 2 [4,29,30,31,51,52] (.wk 52 [(0, false)] (.sg 1 [4,29,30,31,51,53] (fitH H fun hfit H => (.ap [4,29,30,31,54] Rule.av hfit (.sg 1 [4,8,29,30,31] (.dn (.sg 2 [4,8,29,30,31] (.tl hc0 [0,1] [4,8,29,30,31] (.into (.cl (ih (t31 + 1) _ hw hd2 (out ++ [({ x1 with Acts := m1.Acts } : Rule)]) H)))))))))))))))))))
    ·
      exact .sg 1 [4,8,10,29,30,31] (.rg (.sg 3 [4,29,30,31,51,53] (fitH H fun hfit H => (.ap [4,29,30,31,54] Rule.av hfit (.sg 1 [4,8,29,30,31] (.dn (.sg 2 [4,8,29,30,31] (.tl hc0 [0,1] [4,8,29,30,31] (.into (.cl (ih (t31 + 1) _ hw hd2 (out ++ [x1]) H)))))))))))

def mods_Apply_raw (list : List Rule) (m1 : Mod) (room : Int) : Option ((List Rule) × Int) :=
  (bif ((!(tableR list)) || (!(mods_Sound m1))) then
    some ([], 2)
  else
    (bif (m1.Kind == 1) then
      (addO list m1 room).bind fun x =>
      some (x.1, x.2)
    else
      (mods_Apply_l0s m1 list ([] : List Rule)).bind fun v =>
      some (v, 0)))
theorem mods_Apply_walk (list : List Rule) (m1 : Mod) (room : Int) (f_list : Bool) (r : (List Rule) × Int) (H : mods_Apply_raw list m1 room = some r) : ACalls Try.prog tab.S 18 [.sl 51 (List.map Rule.av list) f_list, Mod.av m1, .sc (.int .i64 room)] [] (.tup [.sl 51 (List.map Rule.av r.1) false, .sc (.int .i64 r.2)]) [] := by
  refine .of_AX mods_Apply_F Try.func18 fun c0 hc0 => ?_
  rw [mods_Apply_raw] at H
  refine .sg 4 [0,2,4] (.rg (.sg 1 [0,2,4,11] (.cp [0,2,4,12] (rule_Table_ok list f_list) (.sg 2 [0,2,4,14] (.mm 14 (!(tableR list)) 4 [.pure, .pure, .pure, .read] [0, 2, 4, 18] 18 (fun z => .sc (.bool (z || (!(mods_Sound m1))))) ?J1 (fun hb J => ?ht1) (fun hb J => ?hf1))))))
  case ht1 =>
    exact .sg 4 [0,2,4,18] (.cl J)
  case hf1 =>
    exact .sg 1 [0,2,4,14,15] (.cp [0,2,4,14,16] (mods_Sound_calls m1) (.sg 2 [0,2,4,18] (.cl J)))
  refine .dn (.cd ((!(tableR list)) || (!(mods_Sound m1))) H (fun hb H => ?_) (fun hb H => ?_))
  ·
    refine .sg 2 [6,7] ?_
    obtain rfl := Option.some.inj H
    exact .ret Try.func18 hc0 [] [(51, false)]
  ·
    refine .sg 4 [0,2,4,21] (.cd (m1.Kind == 1) H (fun hb H => ?_) (fun hb H => ?_))
    ·
      refine .sg 1 [0,2,4] (.rg (.sg 3 [22,23,24] (bndO H fun x hv H => (.cp [25] (mods_add_ok list m1 room f_list x hv) (.sg 4 [6,7] (.dn ?_))))))
      obtain rfl := Option.some.inj H
      exact .ret Try.func18 hc0 [] [(0, false)]
    ·
      refine .sg 5 [0,4,8] (.rg (.sg 1 [4,8,28] (.cp [4,8,29] (rule_Copy_ok list f_list) (.sg 2 [4,8,29,30,31] (.dn (.sg 1 [4,8,29,30,31] (.ad 8 51 true (.kp [4,8,29,30,31] ?_))))))))
      refine bndO H fun v hv H => (.into (.to (mods_Apply_l0_walk list m1 room f_list r c0 hc0 v ?_ list 0 _ rfl rfl ([] : List Rule) hv)))
      refine .sg 2 [6,7] ?_
      obtain rfl := Option.some.inj H
      exact .ret Try.func18 hc0

def stepM (m : Mod) (x : Rule) : Option Rule := bif mods_touches m x then (bif ((m.Kind == 3) || (m.Kind == 5)) then none else some ({ x with Acts := m.Acts } : Rule)) else some x
def applyM (l : List Rule) (m : Mod) (room : Int) : List Rule × Int :=
  bif (!(tableR l)) || (!(mods_Sound m)) then ([], 2) else bif m.Kind == 1 then addM l m room else (l.filterMap (stepM m), 0)
def applyO (l : List Rule) (m : Mod) (room : Int) : Option (List Rule × Int) := if l.length ≤ 1000000 then some (applyM l m room) else none
theorem mods_Apply_l0s_eq (m : Mod) : ∀ (l out : List Rule), (out.length + l.length) ≤ 1000000 → mods_Apply_l0s m l out = some (out ++ l.filterMap (stepM m))
  | [], out, _ => by rw [mods_Apply_l0s, List.filterMap_nil, List.append_nil]
  | x :: l, out, h => by
      rw [List.length_cons] at h
      have step : ∀ y : Rule, mods_Apply_l0s m l (out ++ [y]) = some (out ++ y :: l.filterMap (stepM m)) := fun y => by
        rw [mods_Apply_l0s_eq m l (out ++ [y]) (by rw [List.length_append, List.length_cons, List.length_nil]; omega), List.append_assoc]; rfl
      rw [mods_Apply_l0s, List.filterMap_cons, fitO_eq (by rw [List.length_cons, List.length_nil]; omega), fitO_eq (by rw [List.length_cons, List.length_nil]; omega)]
      have e : stepM m x = bif mods_touches m x then (bif ((m.Kind == 3) || (m.Kind == 5)) then none else some ({ x with Acts := m.Acts } : Rule)) else some x := rfl
      rw [e]
      cases mods_touches m x
      · exact step x
      · cases (m.Kind == 3) || (m.Kind == 5)
        · exact step _
        · exact mods_Apply_l0s_eq m l out (by omega)
theorem mods_Apply_eq (l : List Rule) (m : Mod) (room : Int) (h : l.length ≤ 1000000) : mods_Apply_raw l m room = some (applyM l m room) := by
  rw [mods_Apply_raw, mods_Apply_l0s_eq m l [] (by rw [List.length_nil]; omega)]
  unfold applyM addO
  rw [if_pos h]
  cases (!(tableR l)) || (!(mods_Sound m))
  · cases m.Kind == 1 <;> rfl
  · rfl
theorem mods_Apply_ok (l : List Rule) (m : Mod) (room : Int) (f : Bool) (x : List Rule × Int) (h : applyO l m room = some x) : ACalls Try.prog tab.S 18 [.sl 51 (List.map Rule.av l) f, Mod.av m, .sc (.int .i64 room)] [] (.tup [.sl 51 (List.map Rule.av x.1) false, .sc (.int .i64 x.2)]) [] := by
  unfold applyO at h
  split at h
  · rename_i hl
    exact mods_Apply_walk l m room f x ((mods_Apply_eq l m room hl).trans h)
  · cases h

end Go.Proofs.Ytlfiemphadkimaa

set_option linter.unusedVariables false
set_option linter.unusedSimpArgs false
set_option maxRecDepth 100000
set_option maxHeartbeats 4000000
namespace Go.Proofs.Ytlfiemphadkimaa
open Go.Sh
theorem Act.beq_eq (x y : Act) : ((x.Kind == y.Kind) && ((x.Port == y.Port) && ((x.Field == y.Field) && (x.Value == y.Value)))) = (x == y) := by
  rw [Bool.eq_iff_iff]
  simp only [Bool.and_eq_true, beq_iff_eq]
  cases x; cases y
  simp

theorem zipAll_ne {α β : Type} (f : α → β → Bool) {a : List α} {b : List β} (h : ¬ a.length = b.length) : zipAll f a b = false := by
  rw [Bool.eq_false_iff]
  exact fun q => h (zipAll_len q)

/-! ### slices.Equal: function 83 -/
noncomputable def slices_Equal__api_Act_F : Go.Sh.Fn := ⟨83, bodyOf Try.f83, 26⟩
def slices_Equal__api_Act_l0s (s2 : List Act) : List Act → Nat → Option (Sum (Unit) (Bool))
  | [], t13 =>
    some (.inl ())
  | x :: rest, t13 =>
    (ixO s2 ((t13 : Nat) : Int)).bind fun x1 =>
    (bif (!((x.Kind == x1.Kind) && ((x.Port == x1.Port) && ((x.Field == x1.Field) && (x.Value == x1.Value))))) then
      some (.inr false)
    else
      slices_Equal__api_Act_l0s s2 rest (t13 + 1) )
theorem slices_Equal__api_Act_l0_walk (s1 : List Act) (s2 : List Act) (f_s1 : Bool) (f_s2 : Bool) (r : Bool) (c0 : Ctx) (hc0 : c0.m.length = 0) (res : Sum (Unit) (Bool)) (J : ∀ w : Unit, res = .inl w → AX Try.prog tab slices_Equal__api_Act_F c0 (Rp tab.S c0 (.sc (.bool r)) []) (some ⟨[.code [1, 1, 1]], [], []⟩)) (Jr : ∀ w, res = .inr w → w = r) :
    ∀ (rest : List Act) (t13 : Nat) (z : Int) (hI : z = ((t13 : Nat) : Int)) (hd : s1.drop t13 = rest) (H : slices_Equal__api_Act_l0s s2 rest t13 = some res), AX Try.prog tab slices_Equal__api_Act_F c0 (Rp tab.S c0 (.sc (.bool r)) []) (some ⟨[.code [1, 1, 0, 1, 0, 0], .loop [1, 1, 0, 1, 0], .blk 0, .code [1, 1, 1]], [(0, .sl 60 (List.map Act.av s1) f_s1), (1, .sl 60 (List.map Act.av s2) f_s2), (12, .sc (.int .i64 (((List.map Act.av s1).length : Nat) : Int))), (13, .sc (.int .i64 z))], []⟩) := by
  intro rest
  induction rest with
  | nil =>
    intro t13 z hI hd  H
    subst hI
    rw [slices_Equal__api_Act_l0s] at H
    refine .facts 0 fun hf => ?_
    have hlen : s1.length ≤ 9223372036854775807 := by have hq := len_ok hf.2.1; rw [List.length_map] at hq; exact hq
    have hge : s1.length ≤ t13 := List.drop_eq_nil_iff.1 hd
    have hc : (decide (((t13 : Nat) : Int) < (((List.map Act.av s1).length : Nat) : Int))) = false := by rw [List.length_map]; exact decide_eq_false (by omega)
    exact .sg 3 [0,1,12,13,14] (.cdF hc (.sg 1 [] (.kp [] (.to (J () (Option.some.inj H).symm)))))
  | cons x rest ih =>
    intro t13 z hI hd  H
    subst hI
    rw [slices_Equal__api_Act_l0s] at H
    refine .facts 0 fun hf => ?_
    have hlen : s1.length ≤ 9223372036854775807 := by have hq := len_ok hf.2.1; rw [List.length_map] at hq; exact hq
    obtain ⟨hlt, hv_t13, hd2⟩ := drop_cons hd
    have hc : (decide (((t13 : Nat) : Int) < (((List.map Act.av s1).length : Nat) : Int))) = true := by rw [List.length_map]; exact decide_eq_true (by omega)
    have hw : IntKind.i64.wrap (((t13 : Nat) : Int) + 1) = ((t13 + 1 : Nat) : Int) := wrapI_succ (by omega)
    refine .sg 3 [0,1,12,13,14] (.cdT hc (.sg 6 [0,1,5,12,13] (.rg (.sg 2 [0,1,5,12,13,16,17] (.xi [0,1,5,12,13,18] Act.av hv_t13 (.sg 3 [0,1,12,13,19,20,21] (bndO H fun x1 hv H => (.xi [0,1,12,13,19,22] Act.av hv (.sg 1 [0,1,12,13,19,23] (.eq_ [0,1,12,13,24] 9 (.dn (.cd (!((x.Kind == x1.Kind) && ((x.Port == x1.Port) && ((x.Field == x1.Field) && (x.Value == x1.Value))))) H (fun hb H => ?_) (fun hb H => ?_)))))))))))))
    ·
      refine .sg 2 [4] ?_
      obtain rfl := Option.some.inj H
      obtain rfl := Jr _ rfl
      exact .ret Try.func83 hc0
    ·
      exact .sg 3 [0,1,12,13] (.kp [0,1,12,13] (.into (.cl (ih (t13 + 1) _ hw hd2 H))))

def slices_Equal__api_Act_raw (s1 : List Act) (s2 : List Act) : Option (Bool) :=
  (bif ((((List.map Act.av s1).length : Nat) : Int) != (((List.map Act.av s2).length : Nat) : Int)) then
    some false
  else
    loopO (slices_Equal__api_Act_l0s s2 s1 0) fun v =>
    some true)
theorem slices_Equal__api_Act_walk (s1 : List Act) (s2 : List Act) (f_s1 : Bool) (f_s2 : Bool) (r : Bool) (H : slices_Equal__api_Act_raw s1 s2 = some r) : ACalls Try.prog tab.S 83 [.sl 60 (List.map Act.av s1) f_s1, .sl 60 (List.map Act.av s2) f_s2] [] (.sc (.bool r)) [] := by
  refine .of_AX slices_Equal__api_Act_F Try.func83 fun c0 hc0 => ?_
  rw [slices_Equal__api_Act_raw] at H
  refine .sg 5 [0,1,10] (.cd ((((List.map Act.av s1).length : Nat) : Int) != (((List.map Act.av s2).length : Nat) : Int)) H (fun hb H => ?_) (fun hb H => ?_))
  ·
    refine .sg 2 [4] ?_
    obtain rfl := Option.some.inj H
    exact .ret Try.func83 hc0
  ·
    refine .sg 5 [0,1,12,13] ?_
    rcases loopO_some H with ⟨v, hv, H⟩ | hv
    case inr =>
      exact .into (.to (slices_Equal__api_Act_l0_walk s1 s2 f_s1 f_s2 _ c0 hc0 (.inr _) (fun _ e => by cases e) (fun _ e => (Sum.inr.inj e).symm) s1 0 _ rfl rfl hv))
    refine .into (.to (slices_Equal__api_Act_l0_walk s1 s2 f_s1 f_s2 r c0 hc0 (.inl v) (fun w e => ?_) (fun _ e => by cases e) s1 0 _ rfl rfl hv))
    have e := Sum.inl.inj e
    subst e
    refine .sg 2 [4] ?_
    obtain rfl := Option.some.inj H
    exact .ret Try.func83 hc0

theorem slices_Equal__api_Act_ok (a b : List Act) (f_a f_b : Bool) : ACalls Try.prog tab.S 83 [.sl 60 (List.map Act.av a) f_a, .sl 60 (List.map Act.av b) f_b] [] (.sc (.bool (a == b))) [] := by
  refine slices_Equal__api_Act_walk a b f_a f_b _ ?_
  rw [slices_Equal__api_Act_raw, len_bne]
  by_cases h : a.length = b.length
  · simp only [h, decide_true, Bool.not_true, cond_false]
    rw [cmp_loop (v := false) (slices_Equal__api_Act_l0s b) b (fun x y => x == y) (fun _ => rfl) (fun x r i => by rw [slices_Equal__api_Act_l0s]; simp only [Act.beq_eq]) a 0 (by omega), List.drop_zero, zipAll_beq]
    cases a == b <;> rfl
  · have e : (a == b) = false := by
      rw [beq_eq_false_iff_ne]
      intro e
      exact h (by rw [e])
    rw [e]
    simp only [h, decide_false, Bool.not_false, cond_true]

/-! ### act.Same: function 71 -/
noncomputable def act_Same_F : Go.Sh.Fn := ⟨71, bodyOf Try.f71, 8⟩
def act_Same (a : List Act) (b : List Act) : Bool :=
  (a == b)
theorem act_Same_calls (a : List Act) (b : List Act) (f_a : Bool) (f_b : Bool) : ACalls Try.prog tab.S 71 [.sl 60 (List.map Act.av a) f_a, .sl 60 (List.map Act.av b) f_b] [] (.sc (.bool (act_Same a b))) [] := by
  generalize H : act_Same a b = r
  refine .of_AX act_Same_F Try.func71 fun c0 hc0 => ?_
  rw [act_Same] at H
  refine .sg 3 [0,1] (.rg (.sg 2 [5,6] (.cp [7] (slices_Equal__api_Act_ok a b f_a f_b) (.sg 1 [4] (.dn ?_)))))
  subst H
  exact .ret Try.func71 hc0

/-! ### podestaref04.SameActs: function 41 -/
noncomputable def podestaref04_SameActs_F : Go.Sh.Fn := ⟨41, bodyOf Try.f41, 26⟩
def podestaref04_SameActs_l0s (b : List Act) : List Act → Nat → Option (Sum (Unit) (Bool))
  | [], i =>
    some (.inl ())
  | x :: rest, i =>
    (ixO b ((i : Nat) : Int)).bind fun x1 =>
    (bif (!((x.Kind == x1.Kind) && ((x.Port == x1.Port) && ((x.Field == x1.Field) && (x.Value == x1.Value))))) then
      some (.inr false)
    else
      podestaref04_SameActs_l0s b rest (i + 1) )
theorem podestaref04_SameActs_l0_walk (a : List Act) (b : List Act) (f_a : Bool) (f_b : Bool) (r : Bool) (c0 : Ctx) (hc0 : c0.m.length = 0) (res : Sum (Unit) (Bool)) (J : ∀ w : Unit, res = .inl w → AX Try.prog tab podestaref04_SameActs_F c0 (Rp tab.S c0 (.sc (.bool r)) []) (some ⟨[.code [1, 1, 1]], [], []⟩)) (Jr : ∀ w, res = .inr w → w = r) :
    ∀ (rest : List Act) (i : Nat) (z : Int) (hI : z = ((i : Nat) : Int)) (hd : a.drop i = rest) (H : podestaref04_SameActs_l0s b rest i = some res), AX Try.prog tab podestaref04_SameActs_F c0 (Rp tab.S c0 (.sc (.bool r)) []) (some ⟨[.code [1, 1, 0, 1, 0, 0], .loop [1, 1, 0, 1, 0], .blk 0, .code [1, 1, 1]], [(0, .sl 60 (List.map Act.av a) f_a), (1, .sl 60 (List.map Act.av b) f_b), (5, .sc (.int .i64 z))], []⟩) := by
  intro rest
  induction rest with
  | nil =>
    intro i z hI hd  H
    subst hI
    rw [podestaref04_SameActs_l0s] at H
    refine .facts 0 fun hf => ?_
    have hlen : a.length ≤ 9223372036854775807 := by have hq := len_ok hf.2.1; rw [List.length_map] at hq; exact hq
    have hge : a.length ≤ i := List.drop_eq_nil_iff.1 hd
    have hc : (decide (((i : Nat) : Int) < (((List.map Act.av a).length : Nat) : Int))) = false := by rw [List.length_map]; exact decide_eq_false (by omega)
    exact .sg 3 [0,1,5,14] (.cdF hc (.sg 1 [] (.kp [] (.to (J () (Option.some.inj H).symm)))))
  | cons x rest ih =>
    intro i z hI hd  H
    subst hI
    rw [podestaref04_SameActs_l0s] at H
    refine .facts 0 fun hf => ?_
    have hlen : a.length ≤ 9223372036854775807 := by have hq := len_ok hf.2.1; rw [List.length_map] at hq; exact hq
    obtain ⟨hlt, hv_i, hd2⟩ := drop_cons hd
    have hc : (decide (((i : Nat) : Int) < (((List.map Act.av a).length : Nat) : Int))) = true := by rw [List.length_map]; exact decide_eq_true (by omega)
    have hw : IntKind.i64.wrap (((i : Nat) : Int) + 1) = ((i + 1 : Nat) : Int) := wrapI_succ (by omega)
    refine .sg 3 [0,1,5,14] (.cdT hc (.sg 4 [0,1,5] (.rg (.sg 2 [0,1,5,17,18] (.xi [0,1,5,19] Act.av hv_i (.sg 3 [0,1,5,20,21,22] (bndO H fun x1 hv H => (.xi [0,1,5,20,23] Act.av hv (.sg 1 [0,1,5,20,24] (.eq_ [0,1,5,25] 9 (.dn (.cd (!((x.Kind == x1.Kind) && ((x.Port == x1.Port) && ((x.Field == x1.Field) && (x.Value == x1.Value))))) H (fun hb H => ?_) (fun hb H => ?_)))))))))))))
    ·
      refine .sg 2 [4] ?_
      obtain rfl := Option.some.inj H
      obtain rfl := Jr _ rfl
      exact .ret Try.func41 hc0
    ·
      exact .sg 3 [0,1,5] (.kp [0,1,5] (.into (.cl (ih (i + 1) _ hw hd2 H))))

def podestaref04_SameActs_raw (a : List Act) (b : List Act) : Option (Bool) :=
  (bif ((((List.map Act.av a).length : Nat) : Int) != (((List.map Act.av b).length : Nat) : Int)) then
    some false
  else
    loopO (podestaref04_SameActs_l0s b a 0) fun v =>
    some true)
theorem podestaref04_SameActs_walk (a : List Act) (b : List Act) (f_a : Bool) (f_b : Bool) (r : Bool) (H : podestaref04_SameActs_raw a b = some r) : ACalls Try.prog tab.S 41 [.sl 60 (List.map Act.av a) f_a, .sl 60 (List.map Act.av b) f_b] [] (.sc (.bool r)) [] := by
  refine .of_AX podestaref04_SameActs_F Try.func41 fun c0 hc0 => ?_
  rw [podestaref04_SameActs_raw] at H
  refine .sg 5 [0,1,10] (.cd ((((List.map Act.av a).length : Nat) : Int) != (((List.map Act.av b).length : Nat) : Int)) H (fun hb H => ?_) (fun hb H => ?_))
  ·
    refine .sg 2 [4] ?_
    obtain rfl := Option.some.inj H
    exact .ret Try.func41 hc0
  ·
    refine .sg 5 [0,1,5] ?_
    rcases loopO_some H with ⟨v, hv, H⟩ | hv
    case inr =>
      exact .into (.to (podestaref04_SameActs_l0_walk a b f_a f_b _ c0 hc0 (.inr _) (fun _ e => by cases e) (fun _ e => (Sum.inr.inj e).symm) a 0 _ rfl rfl hv))
    refine .into (.to (podestaref04_SameActs_l0_walk a b f_a f_b r c0 hc0 (.inl v) (fun w e => ?_) (fun _ e => by cases e) a 0 _ rfl rfl hv))
    have e := Sum.inl.inj e
    subst e
    refine .sg 2 [4] ?_
    obtain rfl := Option.some.inj H
    exact .ret Try.func41 hc0

theorem podestaref04_SameActs_ok (a b : List Act) (f_a f_b : Bool) : ACalls Try.prog tab.S 41 [.sl 60 (List.map Act.av a) f_a, .sl 60 (List.map Act.av b) f_b] [] (.sc (.bool (a == b))) [] := by
  refine podestaref04_SameActs_walk a b f_a f_b _ ?_
  rw [podestaref04_SameActs_raw, len_bne]
  by_cases h : a.length = b.length
  · simp only [h, decide_true, Bool.not_true, cond_false]
    rw [cmp_loop (v := false) (podestaref04_SameActs_l0s b) b (fun x y => x == y) (fun _ => rfl) (fun x r i => by rw [podestaref04_SameActs_l0s]; simp only [Act.beq_eq]) a 0 (by omega), List.drop_zero, zipAll_beq]
    cases a == b <;> rfl
  · have e : (a == b) = false := by
      rw [beq_eq_false_iff_ne]
      intro e
      exact h (by rw [e])
    rw [e]
    simp only [h, decide_false, Bool.not_false, cond_true]

/-! ### rule.Equal: function 49 -/
noncomputable def rule_Equal_F : Go.Sh.Fn := ⟨49, bodyOf Try.f49, 63⟩
def rule_Equal (a : Rule) (b : Rule) : Bool :=
  ((((((((act_Same a.Acts b.Acts) && (rule_Key ({ a with Acts := [] } : Rule) ({ b with Acts := [] } : Rule))) && (a.Idle == b.Idle)) && (a.Hard == b.Hard)) && (a.Owner == b.Owner)) && (a.Hits == b.Hits)) && (a.Quiet == b.Quiet)) && (a.Age == b.Age))
theorem rule_Equal_calls (a : Rule) (b : Rule) : ACalls Try.prog tab.S 49 [Rule.av a, Rule.av b] [] (.sc (.bool (rule_Equal a b))) [] := by
  generalize H : rule_Equal a b = r
  refine .of_AX rule_Equal_F Try.func49 fun c0 hc0 => ?_
  rw [rule_Equal] at H
  refine .sg 1 [0,1] (.rg (.bx [1,2] (.bx [2,3] (.sg 1 [2,3] (.dn (.sg 1 [2,3] (.rp hc0 [2, 3, 5, 6] [] [[0, 1], [1, 0]] .nil (by kernel_rfl) (.sg 3 [2,3,5,6] (.rg (.sg 4 [5,6,12,14] (.cp [5,6,15] (act_Same_calls a.Acts b.Acts false false) (.sg 1 [5,6,16] (.mm 16 (act_Same a.Acts b.Acts) 4 [.pure, .pure, .read, .read] [5, 6, 20] 20 (fun z => .sc (.bool (z && (rule_Key ({ a with Acts := [] } : Rule) ({ b with Acts := [] } : Rule))))) ?J1 (fun hb J => ?ht1) (fun hb J => ?hf1))))))))))))))
  case ht1 =>
    exact .sg 2 [5,6,16,17,18] (.cp [5,6,16,19] (ds := [(60, false), (60, false)]) (rule_Key_calls ({ a with Acts := [] } : Rule) ({ b with Acts := [] } : Rule)) (.sg 1 [5,6,20] (.cl J)))
  case hf1 =>
    exact .sg 4 [5,6,20] (.cl J)
  refine .sg 1 [5,6,21] (.mx 0 [5,6,27] (.sg 1 [5,6,28] (.mx 0 [5,6,34] (.sg 1 [5,6,35] (.mx 0 [5,6,41] (.sg 1 [5,6,42] (.mx 0 [5,6,48] (.sg 1 [5,6,49] (.mx 0 [5,6,55] (.sg 1 [5,6,56] (.mx 0 [62] (.sg 1 [4] (.dn ?_)))))))))))))
  subst H
  exact .ret Try.func49 hc0

theorem rule_Equal_eq (a b : Rule) : rule_Equal a b = (a == b) := by
  obtain ⟨⟨v, c⟩, p, ac, i1, h1, o1, h2, q1, g1⟩ := a
  obtain ⟨⟨v', c'⟩, p', ac', i1', h1', o1', h2', q1', g1'⟩ := b
  rw [rule_Equal, act_Same, rule_Key, Bool.eq_iff_iff]
  simp only [Bool.and_eq_true, beq_iff_eq, Rule.mk.injEq, Cube.mk.injEq]
  constructor
  · rintro ⟨⟨⟨⟨⟨⟨⟨a1, ⟨a2, a3⟩, a4⟩, a5⟩, a6⟩, a7⟩, a8⟩, a9⟩, a10⟩
    exact ⟨⟨a2, a3⟩, a4, a1, a5, a6, a7, a8, a9, a10⟩
  · rintro ⟨⟨a2, a3⟩, a4, a1, a5, a6, a7, a8, a9, a10⟩
    exact ⟨⟨⟨⟨⟨⟨⟨a1, ⟨a2, a3⟩, a4⟩, a5⟩, a6⟩, a7⟩, a8⟩, a9⟩, a10⟩

/-! ### podestaref04.Key: function 20 -/
noncomputable def podestaref04_Key_F : Go.Sh.Fn := ⟨20, bodyOf Try.f20, 17⟩
def podestaref04_Key (a : Rule) (b : Rule) : Bool :=
  (((a.Match.Value == b.Match.Value) && (a.Match.Care == b.Match.Care)) && (a.Prio == b.Prio))
theorem podestaref04_Key_calls (a : Rule) (b : Rule) : ACalls Try.prog tab.S 20 [Rule.av a, Rule.av b] [] (.sc (.bool (podestaref04_Key a b))) [] := by
  generalize H : podestaref04_Key a b = r
  refine .of_AX podestaref04_Key_F Try.func20 fun c0 hc0 => ?_
  rw [podestaref04_Key] at H
  refine .sg 3 [2,3] (.rg (.sg 4 [2,3,6,8] (.eq_ [2,3,9] 9 (.sg 1 [2,3,10] (.mx 0 [16] (.sg 1 [4] (.dn ?_)))))))
  subst H
  exact .ret Try.func20 hc0

/-! ### podestaref04.Equal: function 24 -/
noncomputable def podestaref04_Equal_F : Go.Sh.Fn := ⟨24, bodyOf Try.f24, 57⟩
def podestaref04_Equal (a : Rule) (b : Rule) : Bool :=
  ((((((((podestaref04_Key a b) && (a.Acts == b.Acts)) && (a.Idle == b.Idle)) && (a.Hard == b.Hard)) && (a.Owner == b.Owner)) && (a.Hits == b.Hits)) && (a.Quiet == b.Quiet)) && (a.Age == b.Age))
theorem podestaref04_Equal_calls (a : Rule) (b : Rule) : ACalls Try.prog tab.S 24 [Rule.av a, Rule.av b] [] (.sc (.bool (podestaref04_Equal a b))) [] := by
  generalize H : podestaref04_Equal a b = r
  refine .of_AX podestaref04_Equal_F Try.func24 fun c0 hc0 => ?_
  rw [podestaref04_Equal] at H
  refine .sg 3 [2,3] (.rg (.sg 2 [2,3,5,6] (.cp [2,3,7] (podestaref04_Key_calls a b) (.sg 1 [2,3,8] (.mm 8 (podestaref04_Key a b) 6 [.pure, .pure, .read, .pure, .read, .pure] [2, 3, 14] 14 (fun z => .sc (.bool (z && (a.Acts == b.Acts)))) ?J1 (fun hb J => ?ht1) (fun hb J => ?hf1))))))
  case ht1 =>
    exact .sg 4 [2,3,8,10,12] (.cp [2,3,8,13] (podestaref04_SameActs_ok a.Acts b.Acts false false) (.sg 1 [2,3,14] (.cl J)))
  case hf1 =>
    exact .sg 6 [2,3,14] (.cl J)
  refine .sg 1 [2,3,15] (.mx 0 [2,3,21] (.sg 1 [2,3,22] (.mx 0 [2,3,28] (.sg 1 [2,3,29] (.mx 0 [2,3,35] (.sg 1 [2,3,36] (.mx 0 [2,3,42] (.sg 1 [2,3,43] (.mx 0 [2,3,49] (.sg 1 [2,3,50] (.mx 0 [56] (.sg 1 [4] (.dn ?_)))))))))))))
  subst H
  exact .ret Try.func24 hc0

/-! ### podestaref04.Same: function 11 -/
noncomputable def podestaref04_Same_F : Go.Sh.Fn := ⟨11, bodyOf Try.f11, 27⟩
def podestaref04_Same_l0s (b : List Rule) : List Rule → Nat → Option (Sum (Unit) (Bool))
  | [], i =>
    some (.inl ())
  | x :: rest, i =>
    (ixO b ((i : Nat) : Int)).bind fun x1 =>
    (bif (!(podestaref04_Equal x x1)) then
      some (.inr false)
    else
      podestaref04_Same_l0s b rest (i + 1) )
theorem podestaref04_Same_l0_walk (a : List Rule) (b : List Rule) (f_a : Bool) (f_b : Bool) (r : Bool) (c0 : Ctx) (hc0 : c0.m.length = 0) (res : Sum (Unit) (Bool)) (J : ∀ w : Unit, res = .inl w → AX Try.prog tab podestaref04_Same_F c0 (Rp tab.S c0 (.sc (.bool r)) []) (some ⟨[.code [1, 1, 1]], [], []⟩)) (Jr : ∀ w, res = .inr w → w = r) :
    ∀ (rest : List Rule) (i : Nat) (z : Int) (hI : z = ((i : Nat) : Int)) (hd : a.drop i = rest) (H : podestaref04_Same_l0s b rest i = some res), AX Try.prog tab podestaref04_Same_F c0 (Rp tab.S c0 (.sc (.bool r)) []) (some ⟨[.code [1, 1, 0, 1, 0, 0], .loop [1, 1, 0, 1, 0], .blk 0, .code [1, 1, 1]], [(0, .sl 51 (List.map Rule.av a) f_a), (1, .sl 51 (List.map Rule.av b) f_b), (5, .sc (.int .i64 z))], []⟩) := by
  intro rest
  induction rest with
  | nil =>
    intro i z hI hd  H
    subst hI
    rw [podestaref04_Same_l0s] at H
    refine .facts 0 fun hf => ?_
    have hlen : a.length ≤ 9223372036854775807 := by have hq := len_ok hf.2.1; rw [List.length_map] at hq; exact hq
    have hge : a.length ≤ i := List.drop_eq_nil_iff.1 hd
    have hc : (decide (((i : Nat) : Int) < (((List.map Rule.av a).length : Nat) : Int))) = false := by rw [List.length_map]; exact decide_eq_false (by omega)
    exact .sg 3 [0,1,5,14] (.cdF hc (.sg 1 [] (.kp [] (.to (J () (Option.some.inj H).symm)))))
  | cons x rest ih =>
    intro i z hI hd  H
    subst hI
    rw [podestaref04_Same_l0s] at H
    refine .facts 0 fun hf => ?_
    have hlen : a.length ≤ 9223372036854775807 := by have hq := len_ok hf.2.1; rw [List.length_map] at hq; exact hq
    obtain ⟨hlt, hv_i, hd2⟩ := drop_cons hd
    have hc : (decide (((i : Nat) : Int) < (((List.map Rule.av a).length : Nat) : Int))) = true := by rw [List.length_map]; exact decide_eq_true (by omega)
    have hw : IntKind.i64.wrap (((i : Nat) : Int) + 1) = ((i + 1 : Nat) : Int) := wrapI_succ (by omega)
    refine .sg 3 [0,1,5,14] (.cdT hc (.sg 4 [0,1,5] (.rg (.sg 2 [0,1,5,17,18] (.xi [0,1,5,19] Rule.av hv_i (.sg 3 [0,1,5,20,21,22] (bndO H fun x1 hv H => (.xi [0,1,5,20,23] Rule.av hv (.sg 1 [0,1,5,20,24] (.cp [0,1,5,25] (podestaref04_Equal_calls x x1) (.sg 1 [0,1,5,26] (.dn (.cd (!(podestaref04_Equal x x1)) H (fun hb H => ?_) (fun hb H => ?_))))))))))))))
    ·
      refine .sg 2 [4] ?_
      obtain rfl := Option.some.inj H
      obtain rfl := Jr _ rfl
      exact .ret Try.func11 hc0
    ·
      exact .sg 3 [0,1,5] (.kp [0,1,5] (.into (.cl (ih (i + 1) _ hw hd2 H))))

def podestaref04_Same_raw (a : List Rule) (b : List Rule) : Option (Bool) :=
  (bif ((((List.map Rule.av a).length : Nat) : Int) != (((List.map Rule.av b).length : Nat) : Int)) then
    some false
  else
    loopO (podestaref04_Same_l0s b a 0) fun v =>
    some true)
theorem podestaref04_Same_walk (a : List Rule) (b : List Rule) (f_a : Bool) (f_b : Bool) (r : Bool) (H : podestaref04_Same_raw a b = some r) : ACalls Try.prog tab.S 11 [.sl 51 (List.map Rule.av a) f_a, .sl 51 (List.map Rule.av b) f_b] [] (.sc (.bool r)) [] := by
  refine .of_AX podestaref04_Same_F Try.func11 fun c0 hc0 => ?_
  rw [podestaref04_Same_raw] at H
  refine .sg 5 [0,1,10] (.cd ((((List.map Rule.av a).length : Nat) : Int) != (((List.map Rule.av b).length : Nat) : Int)) H (fun hb H => ?_) (fun hb H => ?_))
  ·
    refine .sg 2 [4] ?_
    obtain rfl := Option.some.inj H
    exact .ret Try.func11 hc0
  ·
    refine .sg 5 [0,1,5] ?_
    rcases loopO_some H with ⟨v, hv, H⟩ | hv
    case inr =>
      exact .into (.to (podestaref04_Same_l0_walk a b f_a f_b _ c0 hc0 (.inr _) (fun _ e => by cases e) (fun _ e => (Sum.inr.inj e).symm) a 0 _ rfl rfl hv))
    refine .into (.to (podestaref04_Same_l0_walk a b f_a f_b r c0 hc0 (.inl v) (fun w e => ?_) (fun _ e => by cases e) a 0 _ rfl rfl hv))
    have e := Sum.inl.inj e
    subst e
    refine .sg 2 [4] ?_
    obtain rfl := Option.some.inj H
    exact .ret Try.func11 hc0

theorem podestaref04_Same_ok (a b : List Rule) (f_a f_b : Bool) : ACalls Try.prog tab.S 11 [.sl 51 (List.map Rule.av a) f_a, .sl 51 (List.map Rule.av b) f_b] [] (.sc (.bool (zipAll podestaref04_Equal a b))) [] := by
  refine podestaref04_Same_walk a b f_a f_b _ ?_
  rw [podestaref04_Same_raw, len_bne]
  by_cases h : a.length = b.length
  · simp only [h, decide_true, Bool.not_true, cond_false]
    rw [cmp_loop (v := false) (podestaref04_Same_l0s b) b podestaref04_Equal (fun _ => rfl) (fun x r i => by rw [podestaref04_Same_l0s]) a 0 (by omega), List.drop_zero]
    cases zipAll podestaref04_Equal a b <;> rfl
  · rw [zipAll_ne _ h]
    simp only [h, decide_false, Bool.not_false, cond_true]
theorem ref_Equal_eq (a b : Rule) : podestaref04_Equal a b = (a == b) := by
  obtain ⟨⟨v, c⟩, p, ac, i1, h1, o1, h2, q1, g1⟩ := a
  obtain ⟨⟨v', c'⟩, p', ac', i1', h1', o1', h2', q1', g1'⟩ := b
  rw [podestaref04_Equal, podestaref04_Key, Bool.eq_iff_iff]
  simp only [Bool.and_eq_true, beq_iff_eq, Rule.mk.injEq, Cube.mk.injEq]
  constructor
  · rintro ⟨⟨⟨⟨⟨⟨⟨⟨⟨a2, a3⟩, a4⟩, a1⟩, a5⟩, a6⟩, a7⟩, a8⟩, a9⟩, a10⟩
    exact ⟨⟨a2, a3⟩, a4, a1, a5, a6, a7, a8, a9, a10⟩
  · rintro ⟨⟨a2, a3⟩, a4, a1, a5, a6, a7, a8, a9, a10⟩
    exact ⟨⟨⟨⟨⟨⟨⟨⟨⟨a2, a3⟩, a4⟩, a1⟩, a5⟩, a6⟩, a7⟩, a8⟩, a9⟩, a10⟩
theorem ref_Same_eq (a b : List Rule) : zipAll podestaref04_Equal a b = (a == b) := by
  rw [← zipAll_beq]
  exact congrArg (fun f => zipAll f a b) (funext fun x => funext fun y => ref_Equal_eq x y)

end Go.Proofs.Ytlfiemphadkimaa

set_option linter.unusedVariables false
set_option linter.unusedSimpArgs false
set_option maxRecDepth 100000
set_option maxHeartbeats 4000000
namespace Go.Proofs.Ytlfiemphadkimaa
open Go.Sh
/-! ### undo.alone$1: function 48 -/
noncomputable def undo_alone_1_F : Go.Sh.Fn := ⟨48, bodyOf Try.f48, 7⟩
def undo_alone_1 (x : Rule) (c : Rule) : Bool :=
  (rule_Equal c x)
theorem undo_alone_1_calls (x : Rule) (c : Rule) : ACalls Try.prog tab.S 48 [Rule.av x, .ep [.arr .u64 12 c.Match.Value, .arr .u64 12 c.Match.Care, .sc (.int .i64 c.Prio), .sl 60 (List.map Act.av c.Acts) false, .sc (.int .i64 c.Idle), .sc (.int .i64 c.Hard), .sc (.int .i64 c.Owner), .sc (.int .i64 c.Hits), .sc (.int .i64 c.Quiet), .sc (.int .i64 c.Age)] 0 none] [] (.sc (.bool (undo_alone_1 x c))) [] := by
  generalize H : undo_alone_1 x c = r
  refine .of_AX undo_alone_1_F Try.func48 fun c0 hc0 => ?_
  rw [undo_alone_1] at H
  refine .sg 3 [1,2] (.rg (.sg 2 [4,5] (.cp [6] (rule_Equal_calls c x) (.sg 1 [3] (.dn ?_)))))
  subst H
  exact .ret Try.func48 hc0

/-! ### undo.alone: function 27 -/
noncomputable def undo_alone_F : Go.Sh.Fn := ⟨27, bodyOf Try.f27, 25⟩
def undo_alone_l0s (b : List Rule) : List Rule → List Rule → Option ((List Rule))
  | [], out =>
    some out
  | x :: rest, out =>
    (bif (!(slices_ContainsFunc__api_Rule b (fun y0 => undo_alone_1 y0 x))) then
      fitO (out.length + [x].length) 272 (
      undo_alone_l0s b rest (out ++ [x]))
    else
      undo_alone_l0s b rest out)
theorem undo_alone_l0_walk (a : List Rule) (b : List Rule) (f_a : Bool) (f_b : Bool) (r : (List Rule)) (c0 : Ctx) (hc0 : c0.m.length = 0) (res : (List Rule)) (J : AX Try.prog tab undo_alone_F c0 (Rp tab.S c0 (.sl 51 (List.map Rule.av r) true) []) (some ⟨[.code [1, 1, 1]], [(5, .own 0 1000000)], [.row 51 (List.map Rule.av res) 1000000 true]⟩)) :
    ∀ (rest : List Rule) (t10 : Nat) (z : Int) (hI : z = ((t10 : Nat) : Int)) (hd : a.drop t10 = rest) (out : List Rule) (H : undo_alone_l0s b rest out = some res), AX Try.prog tab undo_alone_F c0 (Rp tab.S c0 (.sl 51 (List.map Rule.av r) true) []) (some ⟨[.code [1, 1, 0, 1, 0, 0], .loop [1, 1, 0, 1, 0], .blk 0, .code [1, 1, 1]], [(1, .sl 51 (List.map Rule.av b) f_b), (5, .own 0 1000000), (8, .sl 51 (List.map Rule.av a) f_a), (9, .sc (.int .i64 (((List.map Rule.av a).length : Nat) : Int))), (10, .sc (.int .i64 z))], [.row 51 (List.map Rule.av out) 1000000 true]⟩) := by
  intro rest
  induction rest with
  | nil =>
    intro t10 z hI hd out H
    subst hI
    rw [undo_alone_l0s] at H
    refine .facts 8 fun hf => ?_
    have hlen : a.length ≤ 9223372036854775807 := by have hq := len_ok hf.2.1; rw [List.length_map] at hq; exact hq
    have hge : a.length ≤ t10 := List.drop_eq_nil_iff.1 hd
    have hc : (decide (((t10 : Nat) : Int) < (((List.map Rule.av a).length : Nat) : Int))) = false := by rw [List.length_map]; exact decide_eq_false (by omega)
    refine .sg 3 [1,5,8,9,10,11] (.cdF hc (.sg 1 [5] (.kp [5] ?_)))
    obtain rfl := Option.some.inj H
    exact .to J
  | cons x rest ih =>
    intro t10 z hI hd out H
    subst hI
    rw [undo_alone_l0s] at H
    refine .facts 8 fun hf => ?_
    have hlen : a.length ≤ 9223372036854775807 := by have hq := len_ok hf.2.1; rw [List.length_map] at hq; exact hq
    obtain ⟨hlt, hv_t10, hd2⟩ := drop_cons hd
    have hc : (decide (((t10 : Nat) : Int) < (((List.map Rule.av a).length : Nat) : Int))) = true := by rw [List.length_map]; exact decide_eq_true (by omega)
    have hw : IntKind.i64.wrap (((t10 : Nat) : Int) + 1) = ((t10 + 1 : Nat) : Int) := wrapI_succ (by omega)
    refine .sg 3 [1,5,8,9,10,11] (.cdT hc (.sg 4 [1,5,8,9,10] (.rg (.xi [1,5,8,9,10,12] Rule.av hv_t10 (.sg 3 [1,5,7,8,9,10] (.dn (.sg 1 [1,5,7,8,9,10] (.rg (.sg 2 [1,5,7,8,9,10,14,15] (.cl_ [1,5,7,8,9,10,16] (caps := []) (slices_ContainsFunc__api_Rule_calls b 48 [.ep [.arr .u64 12 x.Match.Value, .arr .u64 12 x.Match.Care, .sc (.int .i64 x.Prio), .sl 60 (List.map Act.av x.Acts) false, .sc (.int .i64 x.Idle), .sc (.int .i64 x.Hard), .sc (.int .i64 x.Owner), .sc (.int .i64 x.Hits), .sc (.int .i64 x.Quiet), .sc (.int .i64 x.Age)] 0 none] (fun y0 => undo_alone_1 y0 x) rfl rfl (fun y0 => undo_alone_1_calls y0 x) f_b) (.same rfl (.fn (caps := [.ptr 1 0 none]) (by kernel_rfl) .nil)) (by kernel_rfl) rfl rfl (.sg 1 [1,5,7,8,9,10,17] (.dn (.cd (!(slices_ContainsFunc__api_Rule b (fun y0 => undo_alone_1 y0 x))) H (fun hb H => ?_) (fun hb H => ?_))))))))))))))
    ·
      exact .rg (.sg 3 [1,8,9,10,18,20] (fitH H fun hfit H => (.ap [1,8,9,10,21] Rule.av hfit (.sg 1 [1,5,8,9,10] (.dn (.sg 2 [1,5,8,9,10] (.tl hc0 [0] [1,5,8,9,10] (.into (.cl (ih (t10 + 1) _ hw hd2 (out ++ [x]) H))))))))))
    ·
      exact .sg 3 [1,5,8,9,10] (.tl hc0 [0] [1,5,8,9,10] (.into (.cl (ih (t10 + 1) _ hw hd2 out H))))

def undo_alone_raw (a : List Rule) (b : List Rule) : Option ((List Rule)) :=
  (undo_alone_l0s b a ([] : List Rule)).bind fun v =>
  some v
theorem undo_alone_walk (a : List Rule) (b : List Rule) (f_a : Bool) (f_b : Bool) (r : (List Rule)) (H : undo_alone_raw a b = some r) : ACalls Try.prog tab.S 27 [.sl 51 (List.map Rule.av a) f_a, .sl 51 (List.map Rule.av b) f_b] [] (.sl 51 (List.map Rule.av r) true) [] := by
  refine .of_AX undo_alone_F Try.func27 fun c0 hc0 => ?_
  rw [undo_alone_raw] at H
  refine .sg 8 [1,5,8,9,10] (.ad 5 51 true (.kp [1,5,8,9,10] ?_))
  refine bndO H fun v hv H => (.into (.to (undo_alone_l0_walk a b f_a f_b r c0 hc0 v ?_ a 0 _ rfl rfl ([] : List Rule) hv)))
  refine .sg 1 [5] (.rg (.sg 1 [23] (.cc [24] [0] (rule_Copy_ok v false) (.sg 1 [4] (.dn ?_)))))
  obtain rfl := Option.some.inj H
  exact .ret Try.func27 hc0

def aloneR (a b : List Rule) : List Rule := a.filter (fun x => !(b.any fun y => x == y))
theorem undo_alone_l0s_eq (b : List Rule) : ∀ (l out : List Rule), (out.length + l.length) * 272 ≤ 140737488355328 → undo_alone_l0s b l out = some (out ++ aloneR l b)
  | [], out, _ => by rw [undo_alone_l0s]; simp [aloneR]
  | x :: l, out, h => by
      rw [List.length_cons] at h
      have e : slices_ContainsFunc__api_Rule b (fun y0 => undo_alone_1 y0 x) = b.any (fun y => x == y) := by
        rw [slices_ContainsFunc__api_Rule_any]
        exact congrArg b.any (funext fun y => rule_Equal_eq x y)
      rw [undo_alone_l0s, e, fitO_eq (by rw [List.length_cons, List.length_nil]; omega), undo_alone_l0s_eq b l (out ++ [x]) (by rw [List.length_append, List.length_cons, List.length_nil]; omega), undo_alone_l0s_eq b l out (by omega), List.append_assoc]
      unfold aloneR
      rw [List.filter_cons]
      cases b.any (fun y => x == y) <;> rfl
theorem undo_alone_ok (a b : List Rule) (f g : Bool) : ACalls Try.prog tab.S 27 [.sl 51 (List.map Rule.av a) f, .sl 51 (List.map Rule.av b) g] [] (.sl 51 (List.map Rule.av (aloneR a b)) true) [] := by
  refine ACalls.facts (ent_of Try.func27 (by kernel_rfl) (by kernel_rfl)) fun hf => ?_
  have l0 : a.length * 272 ≤ 140737488355328 := by have h := hf.1.1; rw [List.length_map] at h; exact h
  refine undo_alone_walk a b f g _ ?_
  rw [undo_alone_raw, undo_alone_l0s_eq b a [] (by rw [List.length_nil, Nat.zero_add]; exact l0)]
  rfl

end Go.Proofs.Ytlfiemphadkimaa

set_option linter.unusedVariables false
set_option linter.unusedSimpArgs false
set_option maxRecDepth 100000
set_option maxHeartbeats 4000000
namespace Go.Proofs.Ytlfiemphadkimaa
open Go.Sh
/-! ### undo.Diff: function 13 -/
noncomputable def undo_Diff_F : Go.Sh.Fn := ⟨13, bodyOf Try.f13, 21⟩
def undo_Diff (before : List Rule) (after : List Rule) : Patch :=
  (bif ((!(tableR before)) || (!(tableR after))) then
    ({ Gone := [], New := [] } : Patch)
  else
    ({ Gone := (aloneR before after), New := (aloneR after before) } : Patch))
theorem undo_Diff_calls (before : List Rule) (after : List Rule) (f_before : Bool) (f_after : Bool) : ACalls Try.prog tab.S 13 [.sl 51 (List.map Rule.av before) f_before, .sl 51 (List.map Rule.av after) f_after] [] (Patch.av (undo_Diff before after)) [] := by
  generalize H : undo_Diff before after = r
  refine .of_AX undo_Diff_F Try.func13 fun c0 hc0 => ?_
  rw [undo_Diff] at H
  refine .sg 4 [0,1,4] (.rg (.sg 1 [0,1,4,5] (.cp [0,1,4,6] (rule_Table_ok before f_before) (.sg 2 [0,1,4,8] (.mm 8 (!(tableR before)) 4 [.pure, .pure, .pure, .pure] [0, 1, 4, 12] 12 (fun z => .sc (.bool (z || (!(tableR after))))) ?J1 (fun hb J => ?ht1) (fun hb J => ?hf1))))))
  case ht1 =>
    exact .sg 4 [0,1,4,12] (.cl J)
  case hf1 =>
    exact .sg 1 [0,1,4,8,9] (.cp [0,1,4,8,10] (rule_Table_ok after f_after) (.sg 2 [0,1,4,12] (.cl J)))
  refine .dn (.cd ((!(tableR before)) || (!(tableR after))) H (fun hb H => ?_) (fun hb H => ?_))
  ·
    refine .sg 2 [4] ?_
    subst H
    exact .ret Try.func13 hc0 [] [(51, false), (51, false)]
  ·
    refine .sg 2 [0,1,4] (.rg (.sg 2 [0,1,4,14,15] (.cp [0,1,4,16] (undo_alone_ok before after f_before f_after) (.sg 2 [4,16,17,18] (.cp [4,16,19] (undo_alone_ok after before f_after f_before) (.sg 2 [4] (.dn ?_)))))))
    subst H
    exact .ret Try.func13 hc0 [] [(0, false), (0, false)]

/-! ### undo.swap$1: function 43 -/
noncomputable def undo_swap_1_F : Go.Sh.Fn := ⟨43, bodyOf Try.f43, 7⟩
def undo_swap_1 (x : Rule) (c : Rule) : Bool :=
  (rule_Key x c)
theorem undo_swap_1_calls (x : Rule) (c : Rule) : ACalls Try.prog tab.S 43 [Rule.av x, .ep [.arr .u64 12 c.Match.Value, .arr .u64 12 c.Match.Care, .sc (.int .i64 c.Prio), .sl 60 (List.map Act.av c.Acts) false, .sc (.int .i64 c.Idle), .sc (.int .i64 c.Hard), .sc (.int .i64 c.Owner), .sc (.int .i64 c.Hits), .sc (.int .i64 c.Quiet), .sc (.int .i64 c.Age)] 0 none] [] (.sc (.bool (undo_swap_1 x c))) [] := by
  generalize H : undo_swap_1 x c = r
  refine .of_AX undo_swap_1_F Try.func43 fun c0 hc0 => ?_
  rw [undo_swap_1] at H
  refine .sg 3 [1,2] (.rg (.sg 2 [4,5] (.cp [6] (rule_Key_calls x c) (.sg 1 [3] (.dn ?_)))))
  subst H
  exact .ret Try.func43 hc0

/-! ### undo.swap: function 25 -/
noncomputable def undo_swap_F : Go.Sh.Fn := ⟨25, bodyOf Try.f25, 46⟩
def undo_swap_l0s (list : List Rule) (gone : List Rule) : List Rule → Sum ((List Rule)) ((List Rule) × Int)
  | [] =>
    (.inl (aloneR list gone))
  | x :: rest =>
    (bif (slices_ContainsFunc__api_Rule (aloneR list gone) (fun y0 => undo_swap_1 y0 x)) then
      (.inr ([], 5))
    else
      undo_swap_l0s list gone rest )
theorem undo_swap_l0_walk (list : List Rule) (gone : List Rule) (come : List Rule) (f_list : Bool) (f_gone : Bool) (f_come : Bool) (r : (List Rule) × Int) (c0 : Ctx) (hc0 : c0.m.length = 0) (res : Sum ((List Rule)) ((List Rule) × Int)) (J : ∀ w : (List Rule), res = .inl w → AX Try.prog tab undo_swap_F c0 (Rp tab.S c0 (.tup [.sl 51 (List.map Rule.av r.1) true, .sc (.int .i64 r.2)]) []) (some ⟨[.code [1, 1, 1, 1, 1]], [(2, .sl 51 (List.map Rule.av come) f_come), (8, .sl 51 (List.map Rule.av w) true)], []⟩)) (Jr : ∀ w, res = .inr w → w = r) :
    ∀ (rest : List Rule) (t34 : Nat) (z : Int) (hI : z = ((t34 : Nat) : Int)) (hd : come.drop t34 = rest) (H : undo_swap_l0s list gone rest = res), AX Try.prog tab undo_swap_F c0 (Rp tab.S c0 (.tup [.sl 51 (List.map Rule.av r.1) true, .sc (.int .i64 r.2)]) []) (some ⟨[.code [1, 1, 1, 1, 0, 1, 0, 0], .loop [1, 1, 1, 1, 0, 1, 0], .blk 0, .code [1, 1, 1, 1, 1]], [(2, .sl 51 (List.map Rule.av come) f_come), (8, .sl 51 (List.map Rule.av (aloneR list gone)) true), (32, .sl 51 (List.map Rule.av come) f_come), (33, .sc (.int .i64 (((List.map Rule.av come).length : Nat) : Int))), (34, .sc (.int .i64 z))], []⟩) := by
  intro rest
  induction rest with
  | nil =>
    intro t34 z hI hd  H
    subst hI
    rw [undo_swap_l0s] at H
    refine .facts 2 fun hf => ?_
    have hlen : come.length ≤ 9223372036854775807 := by have hq := len_ok hf.2.1; rw [List.length_map] at hq; exact hq
    have hge : come.length ≤ t34 := List.drop_eq_nil_iff.1 hd
    have hc : (decide (((t34 : Nat) : Int) < (((List.map Rule.av come).length : Nat) : Int))) = false := by rw [List.length_map]; exact decide_eq_false (by omega)
    exact .sg 3 [2,8,32,33,34,35] (.cdF hc (.sg 1 [2,8] (.kp [2,8] (.to (J (aloneR list gone) H.symm)))))
  | cons x rest ih =>
    intro t34 z hI hd  H
    subst hI
    rw [undo_swap_l0s] at H
    refine .facts 2 fun hf => ?_
    have hlen : come.length ≤ 9223372036854775807 := by have hq := len_ok hf.2.1; rw [List.length_map] at hq; exact hq
    obtain ⟨hlt, hv_t34, hd2⟩ := drop_cons hd
    have hc : (decide (((t34 : Nat) : Int) < (((List.map Rule.av come).length : Nat) : Int))) = true := by rw [List.length_map]; exact decide_eq_true (by omega)
    have hw : IntKind.i64.wrap (((t34 : Nat) : Int) + 1) = ((t34 + 1 : Nat) : Int) := wrapI_succ (by omega)
    refine .sg 3 [2,8,32,33,34,35] (.cdT hc (.sg 4 [2,8,32,33,34] (.rg (.xi [2,8,32,33,34,36] Rule.av hv_t34 (.sg 3 [2,8,10,32,33,34] (.dn (.sg 1 [2,8,10,32,33,34] (.rg (.sg 2 [2,8,32,33,34,38,39] (.cl_ [2,8,32,33,34,40] (caps := []) (slices_ContainsFunc__api_Rule_calls (aloneR list gone) 43 [.ep [.arr .u64 12 x.Match.Value, .arr .u64 12 x.Match.Care, .sc (.int .i64 x.Prio), .sl 60 (List.map Act.av x.Acts) false, .sc (.int .i64 x.Idle), .sc (.int .i64 x.Hard), .sc (.int .i64 x.Owner), .sc (.int .i64 x.Hits), .sc (.int .i64 x.Quiet), .sc (.int .i64 x.Age)] 0 none] (fun y0 => undo_swap_1 y0 x) rfl rfl (fun y0 => undo_swap_1_calls y0 x) true) (.same rfl (.fn (caps := [.ptr 0 0 none]) (by kernel_rfl) .nil)) (by kernel_rfl) rfl rfl (.dn (.cd (slices_ContainsFunc__api_Rule (aloneR list gone) (fun y0 => undo_swap_1 y0 x)) H (fun hb H => ?_) (fun hb H => ?_)))))))))))))
    ·
      refine .sg 2 [6,7] ?_
      subst H
      obtain rfl := Jr _ rfl
      exact .ret Try.func25 hc0 [] [(51, true)]
    ·
      exact .sg 3 [2,8,32,33,34] (.tl hc0 [] [2,8,32,33,34] (.into (.cl (ih (t34 + 1) _ hw hd2 H))))

def undo_swap_raw (list : List Rule) (gone : List Rule) (come : List Rule) : Option ((List Rule) × Int) :=
  (bif (((!(tableR list)) || (!(tableR gone))) || (!(tableR come))) then
    some ([], 2)
  else
    (bif (decide ((((List.map Rule.av (aloneR gone list)).length : Nat) : Int) > 0)) then
      some ([], 4)
    else
      sumG (fun q => some q) (undo_swap_l0s list gone come) fun v =>
      fitO (v.length + come.length) 272 (
      some ((sortR (v ++ come)), 0))))
theorem undo_swap_walk (list : List Rule) (gone : List Rule) (come : List Rule) (f_list : Bool) (f_gone : Bool) (f_come : Bool) (r : (List Rule) × Int) (H : undo_swap_raw list gone come = some r) : ACalls Try.prog tab.S 25 [.sl 51 (List.map Rule.av list) f_list, .sl 51 (List.map Rule.av gone) f_gone, .sl 51 (List.map Rule.av come) f_come] [] (.tup [.sl 51 (List.map Rule.av r.1) true, .sc (.int .i64 r.2)]) [] := by
  refine .of_AX undo_swap_F Try.func25 fun c0 hc0 => ?_
  rw [undo_swap_raw] at H
  refine .sg 4 [0,1,2] (.rg (.sg 1 [0,1,2,11] (.cp [0,1,2,12] (rule_Table_ok list f_list) (.sg 2 [0,1,2,14] (.mm 14 (!(tableR list)) 4 [.pure, .pure, .pure, .pure] [0, 1, 2, 18] 18 (fun z => .sc (.bool (z || (!(tableR gone))))) ?J1 (fun hb J => ?ht1) (fun hb J => ?hf1))))))
  case ht1 =>
    exact .sg 4 [0,1,2,18] (.cl J)
  case hf1 =>
    exact .sg 1 [0,1,2,14,15] (.cp [0,1,2,14,16] (rule_Table_ok gone f_gone) (.sg 2 [0,1,2,18] (.cl J)))
  refine .sg 1 [0,1,2,19] (.mm 19 ((!(tableR list)) || (!(tableR gone))) 4 [.pure, .pure, .pure, .pure] [0, 1, 2, 23] 23 (fun z => .sc (.bool (z || (!(tableR come))))) ?J2 (fun hb J => ?ht2) (fun hb J => ?hf2))
  case ht2 =>
    exact .sg 4 [0,1,2,23] (.cl J)
  case hf2 =>
    exact .sg 1 [0,1,2,19,20] (.cp [0,1,2,19,21] (rule_Table_ok come f_come) (.sg 2 [0,1,2,23] (.cl J)))
  refine .dn (.cd (((!(tableR list)) || (!(tableR gone))) || (!(tableR come))) H (fun hb H => ?_) (fun hb H => ?_))
  ·
    refine .sg 2 [6,7] ?_
    obtain rfl := Option.some.inj H
    exact .ret Try.func25 hc0 [] [(51, true)]
  ·
    refine .sg 3 [0,1,2] (.rg (.sg 2 [0,1,2,24,25] (.cp [0,1,2,26] (undo_alone_ok gone list f_gone f_list) (.sg 2 [0,1,2,28] (.dn (.cd (decide ((((List.map Rule.av (aloneR gone list)).length : Nat) : Int) > 0)) H (fun hb H => ?_) (fun hb H => ?_)))))))
    ·
      refine .sg 2 [6,7] ?_
      obtain rfl := Option.some.inj H
      exact .ret Try.func25 hc0 [] [(51, true)]
    ·
      refine .sg 2 [0,1,2] (.rg (.sg 2 [2,29,30] (.cp [2,31] (undo_alone_ok list gone f_list f_gone) (.sg 1 [2,8] (.dn (.sg 4 [2,8,32,33,34] ?_))))))
      rcases sumG_eq H with ⟨v, hv, H⟩ | ⟨r1, hv, hr1⟩
      case inr =>
        refine .into ?_
        obtain rfl := Option.some.inj hr1
        exact .to (undo_swap_l0_walk list gone come f_list f_gone f_come _ c0 hc0 (.inr _) (fun _ e => by cases e) (fun _ e => (Sum.inr.inj e).symm) come 0 _ rfl rfl hv)
      refine .into (.to (undo_swap_l0_walk list gone come f_list f_gone f_come r c0 hc0 (.inl v) (fun w e => ?_) (fun _ e => by cases e) come 0 _ rfl rfl hv))
      have e := Sum.inl.inj e
      subst e
      refine .sg 1 [2,8] (.rg (.sg 2 [42,43] (fitH H fun hfit H => (.an [44] Rule.av hfit (.cc [45] [0] (rule_Sort_ok (v ++ come) false) (.sg 2 [6,7] (.dn ?_)))))))
      obtain rfl := Option.some.inj H
      exact .ret Try.func25 hc0

end Go.Proofs.Ytlfiemphadkimaa

set_option linter.unusedVariables false
set_option linter.unusedSimpArgs false
set_option maxRecDepth 100000
set_option maxHeartbeats 4000000
namespace Go.Proofs.Ytlfiemphadkimaa
open Go.Sh
def swapM (list gone come : List Rule) : List Rule × Int :=
  bif ((!(tableR list)) || (!(tableR gone))) || (!(tableR come)) then ([], 2) else
  bif decide ((aloneR gone list).length > 0) then ([], 4) else
  if come.any (fun x => (aloneR list gone).any (fun y => rule_Key y x)) then ([], 5) else (sortR (aloneR list gone ++ come), 0)
def swapO (list gone come : List Rule) : Option (List Rule × Int) := if list.length + come.length ≤ 1000000 then some (swapM list gone come) else none
theorem aloneR_len (a b : List Rule) : (aloneR a b).length ≤ a.length := List.length_filter_le _ _
theorem undo_swap_l0s_eq (list gone : List Rule) : ∀ l, undo_swap_l0s list gone l = if l.any (fun x => (aloneR list gone).any (fun y => rule_Key y x)) then .inr ([], 5) else .inl (aloneR list gone)
  | [] => by rw [undo_swap_l0s]; rfl
  | x :: l => by
      have e : slices_ContainsFunc__api_Rule (aloneR list gone) (fun y0 => undo_swap_1 y0 x) = (aloneR list gone).any (fun y => rule_Key y x) := by
        rw [slices_ContainsFunc__api_Rule_any]; rfl
      rw [undo_swap_l0s, e, undo_swap_l0s_eq list gone l, List.any_cons]
      cases (aloneR list gone).any (fun y => rule_Key y x) <;> rfl
theorem undo_swap_eq (list gone come : List Rule) (h : list.length + come.length ≤ 1000000) : undo_swap_raw list gone come = some (swapM list gone come) := by
  rw [undo_swap_raw, undo_swap_l0s_eq, List.length_map]
  unfold swapM
  have e : decide ((((aloneR gone list).length : Nat) : Int) > 0) = decide ((aloneR gone list).length > 0) := by
    rw [Bool.eq_iff_iff, decide_eq_true_eq, decide_eq_true_eq]; omega
  rw [e]
  cases ((!(tableR list)) || (!(tableR gone))) || (!(tableR come))
  · cases decide ((aloneR gone list).length > 0)
    · simp only [cond_false]
      have hl := aloneR_len list gone
      by_cases hc : come.any (fun x => (aloneR list gone).any (fun y => rule_Key y x)) = true
      · rw [if_pos hc, if_pos hc]; rfl
      · rw [if_neg hc, if_neg hc]
        show fitO _ _ _ = _
        rw [fitO_eq (by omega)]
    · rfl
  · rfl
theorem undo_swap_ok (list gone come : List Rule) (f g k : Bool) (x : List Rule × Int) (h : swapO list gone come = some x) : ACalls Try.prog tab.S 25 [.sl 51 (List.map Rule.av list) f, .sl 51 (List.map Rule.av gone) g, .sl 51 (List.map Rule.av come) k] [] (.tup [.sl 51 (List.map Rule.av x.1) true, .sc (.int .i64 x.2)]) [] := by
  unfold swapO at h
  split at h
  · rename_i hl
    exact undo_swap_walk list gone come f g k x ((undo_swap_eq list gone come hl).trans h)
  · cases h

end Go.Proofs.Ytlfiemphadkimaa

set_option linter.unusedVariables false
set_option linter.unusedSimpArgs false
set_option maxRecDepth 100000
set_option maxHeartbeats 4000000
namespace Go.Proofs.Ytlfiemphadkimaa
open Go.Sh
/-! ### undo.Back: function 12 -/
noncomputable def undo_Back_F : Go.Sh.Fn := ⟨12, bodyOf Try.f12, 14⟩
def undo_Back_raw (after : List Rule) (p : Patch) : Option ((List Rule) × Int) :=
  (swapO after p.New p.Gone).bind fun x =>
  some (x.1, x.2)
theorem undo_Back_walk (after : List Rule) (p : Patch) (f_after : Bool) (r : (List Rule) × Int) (H : undo_Back_raw after p = some r) : ACalls Try.prog tab.S 12 [.sl 51 (List.map Rule.av after) f_after, Patch.av p] [] (.tup [.sl 51 (List.map Rule.av r.1) true, .sc (.int .i64 r.2)]) [] := by
  refine .of_AX undo_Back_F Try.func12 fun c0 hc0 => ?_
  rw [undo_Back_raw] at H
  refine .sg 3 [0,3] (.rg (.sg 5 [6,8,10] (bndO H fun x hv H => (.cp [11] (undo_swap_ok after p.New p.Gone f_after false false x hv) (.sg 4 [4,5] (.dn ?_))))))
  obtain rfl := Option.some.inj H
  exact .ret Try.func12 hc0

/-! ### undo.Forth: function 15 -/
noncomputable def undo_Forth_F : Go.Sh.Fn := ⟨15, bodyOf Try.f15, 14⟩
def undo_Forth_raw (before : List Rule) (p : Patch) : Option ((List Rule) × Int) :=
  (swapO before p.Gone p.New).bind fun x =>
  some (x.1, x.2)
theorem undo_Forth_walk (before : List Rule) (p : Patch) (f_before : Bool) (r : (List Rule) × Int) (H : undo_Forth_raw before p = some r) : ACalls Try.prog tab.S 15 [.sl 51 (List.map Rule.av before) f_before, Patch.av p] [] (.tup [.sl 51 (List.map Rule.av r.1) true, .sc (.int .i64 r.2)]) [] := by
  refine .of_AX undo_Forth_F Try.func15 fun c0 hc0 => ?_
  rw [undo_Forth_raw] at H
  refine .sg 3 [0,3] (.rg (.sg 5 [6,8,10] (bndO H fun x hv H => (.cp [11] (undo_swap_ok before p.Gone p.New f_before false false x hv) (.sg 4 [4,5] (.dn ?_))))))
  obtain rfl := Option.some.inj H
  exact .ret Try.func15 hc0

/-! ### undo.Inverse: function 9 -/
noncomputable def undo_Inverse_F : Go.Sh.Fn := ⟨9, bodyOf Try.f9, 26⟩
def undo_Inverse_raw (list : List Rule) (m1 : Mod) (room : Int) : Option ((List Rule) × Patch × Int) :=
  (applyO list m1 room).bind fun x =>
  (bif (x.2 != 0) then
    some ([], ({ Gone := [], New := [] } : Patch), x.2)
  else
    some (x.1, (undo_Diff list x.1), 0))
theorem undo_Inverse_walk (list : List Rule) (m1 : Mod) (room : Int) (f_list : Bool) (r : (List Rule) × Patch × Int) (H : undo_Inverse_raw list m1 room = some r) : ACalls Try.prog tab.S 9 [.sl 51 (List.map Rule.av list) f_list, Mod.av m1, .sc (.int .i64 room)] [] (.tup [.sl 51 (List.map Rule.av r.1) false, Patch.av r.2.1, .sc (.int .i64 r.2.2)]) [] := by
  refine .of_AX undo_Inverse_F Try.func9 fun c0 hc0 => ?_
  rw [undo_Inverse_raw] at H
  refine .sg 3 [0,2,4,7] (.rg (.sg 3 [0,7,12,13,14] (bndO H fun x hv H => (.cp [0,7,15] (mods_Apply_ok list m1 room f_list x hv) (.sg 5 [0,7,9,10] (.dn (.sg 3 [0,7,9,10,19] (.cd (x.2 != 0) H (fun hb H => ?_) (fun hb H => ?_)))))))))
  ·
    refine .sg 2 [6,7,8] ?_
    obtain rfl := Option.some.inj H
    exact .ret Try.func9 hc0 [] [(51, false), (51, false), (51, false)]
  ·
    refine .sg 2 [0,7,9] (.rg (.sg 3 [7,22,23,24] (.cp [7,22,25] (undo_Diff_calls list x.1 f_list false) (.sg 3 [6,7,8] (.dn ?_)))))
    obtain rfl := Option.some.inj H
    exact .ret Try.func9 hc0

end Go.Proofs.Ytlfiemphadkimaa

set_option linter.unusedVariables false
set_option linter.unusedSimpArgs false
set_option maxRecDepth 100000
set_option maxHeartbeats 4000000
namespace Go.Proofs.Ytlfiemphadkimaa
open Go.Sh
set_option maxRecDepth 100000
open Go.ChangeShapes Go.WideShapes Go.ChangeAt Go.RowKit
def Act.wf (x : Act) : Prop := intW .i64 x.Kind ∧ intW .i64 x.Port ∧ intW .i64 x.Field ∧ intW .u64 x.Value
theorem Act.shaped {gs : List AV} (h : Shaped tab 60 gs) : ∃ x : Act, gs = [.sc (.int .i64 x.Kind), .sc (.int .i64 x.Port), .sc (.int .i64 x.Field), .sc (.int .u64 x.Value)] ∧ x.wf := by
  obtain ⟨gss, rfl, hl, hf⟩ := Shaped.struct_inv (fl := [(0, 3), (1, 3), (2, 3), (3, 26)]) (by kernel_rfl) h
  match gss, hl, hf with
  | [g0, g1, g2, g3], _, hf =>
    obtain ⟨x0, rfl, w0⟩ := Shaped.int_inv (k := .i64) (by kernel_rfl) (hf 0 _ _ rfl rfl)
    obtain ⟨x1, rfl, w1⟩ := Shaped.int_inv (k := .i64) (by kernel_rfl) (hf 1 _ _ rfl rfl)
    obtain ⟨x2, rfl, w2⟩ := Shaped.int_inv (k := .i64) (by kernel_rfl) (hf 2 _ _ rfl rfl)
    obtain ⟨x3, rfl, w3⟩ := Shaped.int_inv (k := .u64) (by kernel_rfl) (hf 3 _ _ rfl rfl)
    exact ⟨⟨x0, x1, x2, x3⟩, rfl, ⟨w0, w1, w2, w3⟩⟩
def Cube.wf (x : Cube) : Prop := arrW .u64 12 x.Value ∧ arrW .u64 12 x.Care
theorem Cube.shaped {gs : List AV} (h : Shaped tab 30 gs) : ∃ x : Cube, gs = [.arr .u64 12 x.Value, .arr .u64 12 x.Care] ∧ x.wf := by
  obtain ⟨gss, rfl, hl, hf⟩ := Shaped.struct_inv (fl := [(0, 28), (12, 28)]) (by kernel_rfl) h
  match gss, hl, hf with
  | [g0, g1], _, hf =>
    obtain ⟨x0, rfl, w0⟩ := Shaped.arr_inv (n := 12) (e := 26) (k := .u64) (by kernel_rfl) (by kernel_rfl) (hf 0 _ _ rfl rfl)
    obtain ⟨x1, rfl, w1⟩ := Shaped.arr_inv (n := 12) (e := 26) (k := .u64) (by kernel_rfl) (by kernel_rfl) (hf 1 _ _ rfl rfl)
    exact ⟨⟨x0, x1⟩, rfl, ⟨w0, w1⟩⟩
def Rule.wf (x : Rule) : Prop := Cube.wf x.Match ∧ intW .i64 x.Prio ∧ (∀ y ∈ x.Acts, Act.wf y) ∧ intW .i64 x.Idle ∧ intW .i64 x.Hard ∧ intW .i64 x.Owner ∧ intW .i64 x.Hits ∧ intW .i64 x.Quiet ∧ intW .i64 x.Age
theorem Rule.shaped {gs : List AV} (h : Shaped tab 51 gs) : ∃ x : Rule, gs = [.arr .u64 12 x.Match.Value, .arr .u64 12 x.Match.Care, .sc (.int .i64 x.Prio), .sl 60 (List.map Act.av x.Acts) false, .sc (.int .i64 x.Idle), .sc (.int .i64 x.Hard), .sc (.int .i64 x.Owner), .sc (.int .i64 x.Hits), .sc (.int .i64 x.Quiet), .sc (.int .i64 x.Age)] ∧ x.wf := by
  obtain ⟨gss, rfl, hl, hf⟩ := Shaped.struct_inv (fl := [(0, 30), (24, 3), (25, 31), (26, 3), (27, 3), (28, 3), (29, 3), (30, 3), (31, 3)]) (by kernel_rfl) h
  match gss, hl, hf with
  | [g0, g1, g2, g3, g4, g5, g6, g7, g8], _, hf =>
    obtain ⟨x0, rfl, w0⟩ := Cube.shaped (hf 0 _ _ rfl rfl)
    obtain ⟨x1, rfl, w1⟩ := Shaped.int_inv (k := .i64) (by kernel_rfl) (hf 1 _ _ rfl rfl)
    obtain ⟨q2, rfl, hq2⟩ := Shaped.slice_inv (e := 60) (by kernel_rfl) (hf 2 _ _ rfl rfl)
    obtain ⟨x2, hx2, w2⟩ := rows_typedW (G := tab) (e := 60) (av := Act.av) (wf := fun y => Act.wf y) q2 (fun g hg => by obtain ⟨x, rfl, w⟩ := Act.shaped (hq2 g hg); exact ⟨x, (by kernel_rfl), w⟩)
    obtain ⟨x3, rfl, w3⟩ := Shaped.int_inv (k := .i64) (by kernel_rfl) (hf 3 _ _ rfl rfl)
    obtain ⟨x4, rfl, w4⟩ := Shaped.int_inv (k := .i64) (by kernel_rfl) (hf 4 _ _ rfl rfl)
    obtain ⟨x5, rfl, w5⟩ := Shaped.int_inv (k := .i64) (by kernel_rfl) (hf 5 _ _ rfl rfl)
    obtain ⟨x6, rfl, w6⟩ := Shaped.int_inv (k := .i64) (by kernel_rfl) (hf 6 _ _ rfl rfl)
    obtain ⟨x7, rfl, w7⟩ := Shaped.int_inv (k := .i64) (by kernel_rfl) (hf 7 _ _ rfl rfl)
    obtain ⟨x8, rfl, w8⟩ := Shaped.int_inv (k := .i64) (by kernel_rfl) (hf 8 _ _ rfl rfl)
    rw [hx2]; exact ⟨⟨x0, x1, x2, x3, x4, x5, x6, x7, x8⟩, rfl, ⟨w0, w1, w2, w3, w4, w5, w6, w7, w8⟩⟩
def Mod.wf (x : Mod) : Prop := intW .i64 x.Kind ∧ Cube.wf x.Match ∧ intW .i64 x.Prio ∧ (∀ y ∈ x.Acts, Act.wf y) ∧ intW .i64 x.Idle ∧ intW .i64 x.Hard ∧ intW .i64 x.Owner ∧ True
theorem Mod.shaped {gs : List AV} (h : Shaped tab 33 gs) : ∃ x : Mod, gs = [.sc (.int .i64 x.Kind), .arr .u64 12 x.Match.Value, .arr .u64 12 x.Match.Care, .sc (.int .i64 x.Prio), .sl 60 (List.map Act.av x.Acts) false, .sc (.int .i64 x.Idle), .sc (.int .i64 x.Hard), .sc (.int .i64 x.Owner), .sc (.bool x.Check)] ∧ x.wf := by
  obtain ⟨gss, rfl, hl, hf⟩ := Shaped.struct_inv (fl := [(0, 3), (1, 30), (25, 3), (26, 31), (27, 3), (28, 3), (29, 3), (30, 4)]) (by kernel_rfl) h
  match gss, hl, hf with
  | [g0, g1, g2, g3, g4, g5, g6, g7], _, hf =>
    obtain ⟨x0, rfl, w0⟩ := Shaped.int_inv (k := .i64) (by kernel_rfl) (hf 0 _ _ rfl rfl)
    obtain ⟨x1, rfl, w1⟩ := Cube.shaped (hf 1 _ _ rfl rfl)
    obtain ⟨x2, rfl, w2⟩ := Shaped.int_inv (k := .i64) (by kernel_rfl) (hf 2 _ _ rfl rfl)
    obtain ⟨q3, rfl, hq3⟩ := Shaped.slice_inv (e := 60) (by kernel_rfl) (hf 3 _ _ rfl rfl)
    obtain ⟨x3, hx3, w3⟩ := rows_typedW (G := tab) (e := 60) (av := Act.av) (wf := fun y => Act.wf y) q3 (fun g hg => by obtain ⟨x, rfl, w⟩ := Act.shaped (hq3 g hg); exact ⟨x, (by kernel_rfl), w⟩)
    obtain ⟨x4, rfl, w4⟩ := Shaped.int_inv (k := .i64) (by kernel_rfl) (hf 4 _ _ rfl rfl)
    obtain ⟨x5, rfl, w5⟩ := Shaped.int_inv (k := .i64) (by kernel_rfl) (hf 5 _ _ rfl rfl)
    obtain ⟨x6, rfl, w6⟩ := Shaped.int_inv (k := .i64) (by kernel_rfl) (hf 6 _ _ rfl rfl)
    obtain ⟨x7, rfl⟩ := Shaped.bool_inv (by kernel_rfl) (hf 7 _ _ rfl rfl)
    rw [hx3]; exact ⟨⟨x0, x1, x2, x3, x4, x5, x6, x7⟩, rfl, ⟨w0, w1, w2, w3, w4, w5, w6, trivial⟩⟩

end Go.Proofs.Ytlfiemphadkimaa

set_option linter.unusedVariables false
set_option linter.unusedSimpArgs false
set_option maxRecDepth 100000
set_option maxHeartbeats 4000000
namespace Go.Proofs.Ytlfiemphadkimaa
open Go.Sh
/-! ### podestalaw08.answers: function 8 -/
noncomputable def podestalaw08_answers_F : Go.Sh.Fn := ⟨8, bodyOf Try.f8, 40⟩
def podestalaw08_answers_raw : Option (Bool) :=
  (undo_Inverse_raw [] ({ Kind := 1, Match := ({ Value := [0, 0, 0, 0, 0, 0, 0, 0, 0, 0, 0, 0], Care := [0, 0, 0, 0, 0, 0, 0, 0, 0, 0, 0, 0] } : Cube), Prio := 0, Acts := [], Idle := 0, Hard := 0, Owner := 0, Check := false } : Mod) 5).bind fun x =>
  (undo_Back_raw x.1 x.2.1).bind fun x1 =>
  some (((((x.2.2 == 0) && (x1.2 == 0)) && ((((List.map Rule.av x.1).length : Nat) : Int) == 1)) && ((((List.map Rule.av x.2.1.New).length : Nat) : Int) == 1)) && ((((List.map Rule.av x1.1).length : Nat) : Int) == 0))
theorem podestalaw08_answers_walk (r : Bool) (H : podestalaw08_answers_raw = some r) : ACalls Try.prog tab.S 8 [] [] (.sc (.bool r)) [] := by
  refine .of_AX podestalaw08_answers_F Try.func8 fun c0 hc0 => ?_
  rw [podestalaw08_answers_raw] at H
  refine .sg 3 [] (.rg (.sg 1 [7] (bndO H fun x hv H => (.cp [8] (ds := [(51, true), (60, false)]) (undo_Inverse_walk [] ({ Kind := 1, Match := ({ Value := [0, 0, 0, 0, 0, 0, 0, 0, 0, 0, 0, 0], Care := [0, 0, 0, 0, 0, 0, 0, 0, 0, 0, 0, 0] } : Cube), Prio := 0, Acts := [], Idle := 0, Hard := 0, Owner := 0, Check := false } : Mod) 5 true x hv) (.sg 8 [1,2,3] (.dn (.sg 1 [1,2,3] (.rg (.sg 2 [1,2,3,13,14] (bndO H fun x1 hv H => (.cp [1,2,3,15] (undo_Back_walk x.1 x.2.1 false x1 hv) (.sg 5 [1,2,3,4,5] (.dn (.sg 1 [1,2,3,4,5] (.rg (.sg 3 [1,2,4,5,20] (.mx 0 [1,2,4,23] (.sg 1 [1,2,4,24] (.mx 0 [2,4,28] (.sg 1 [2,4,29] (.mx 0 [4,34] (.sg 1 [4,35] (.mx 0 [39] (.sg 1 [0] (.dn ?_)))))))))))))))))))))))))
  obtain rfl := Option.some.inj H
  exact .ret Try.func8 hc0

theorem podestalaw08_answers_ok : ACalls Try.prog tab.S 8 [] [] (.sc (.bool true)) [] := podestalaw08_answers_walk true (by kernel_rfl)
end Go.Proofs.Ytlfiemphadkimaa
