import Derived.Test.YtadolbhmdimbkaaProg
import Derived.Test.YtadolbhmdimbkaaM1RuleFinds
set_option linter.unusedVariables false
set_option linter.unusedSimpArgs false
set_option maxRecDepth 100000
set_option maxHeartbeats 4000000
namespace Go.Proofs.Ytadolbhmdimbkaa
open Go.Sh
def tab : Go.Sh.Tab := [
  (1, ⟨.other, 1, 8, [.sc .nilFunc]⟩),
  (2, ⟨.int .i64, 1, 8, [.sc (.int .i64 0)]⟩),
  (3, ⟨.int .i64, 1, 8, [.sc (.int .i64 0)]⟩),
  (4, ⟨.bool, 1, 1, [.sc (.bool false)]⟩),
  (5, ⟨.int .u8, 1, 1, [.sc (.int .u8 0)]⟩),
  (9, ⟨.str, 1, 16, [.sc (.string ⟨#[]⟩)]⟩),
  (12, ⟨.int .u64, 1, 8, [.sc (.int .u64 0)]⟩),
  (13, ⟨.struct [(0, 9), (1, 12)], 2, 24, [.sc (.string ⟨#[]⟩), .sc (.int .u64 0)]⟩),
  (21, ⟨.int .i32, 1, 4, [.sc (.int .i32 0)]⟩),
  (22, ⟨.slice 34, 1, 24, [.sl 0 [] true]⟩),
  (23, ⟨.int .u64, 1, 8, [.sc (.int .u64 0)]⟩),
  (24, ⟨.arr 12 23, 12, 96, [.arr .u64 12 [0, 0, 0, 0, 0, 0, 0, 0, 0, 0, 0, 0]]⟩),
  (25, ⟨.arr 12 23, 12, 96, [.arr .u64 12 [0, 0, 0, 0, 0, 0, 0, 0, 0, 0, 0, 0]]⟩),
  (26, ⟨.other, 1, 8, [.sc .nilFunc]⟩),
  (28, ⟨.other, 1, 8, [.sc .nilFunc]⟩),
  (29, ⟨.other, 1, 8, [.sc .nilFunc]⟩),
  (30, ⟨.struct [(0, 25), (12, 25)], 24, 192, [.arr .u64 12 [0, 0, 0, 0, 0, 0, 0, 0, 0, 0, 0, 0], .arr .u64 12 [0, 0, 0, 0, 0, 0, 0, 0, 0, 0, 0, 0]]⟩),
  (31, ⟨.struct [(0, 25), (12, 25)], 24, 192, [.arr .u64 12 [0, 0, 0, 0, 0, 0, 0, 0, 0, 0, 0, 0], .arr .u64 12 [0, 0, 0, 0, 0, 0, 0, 0, 0, 0, 0, 0]]⟩),
  (32, ⟨.slice 42, 1, 24, [.sl 0 [] true]⟩),
  (33, ⟨.struct [(0, 31), (24, 3), (25, 32), (26, 3), (27, 3), (28, 3), (29, 3), (30, 3), (31, 3)], 32, 272, [.arr .u64 12 [0, 0, 0, 0, 0, 0, 0, 0, 0, 0, 0, 0], .arr .u64 12 [0, 0, 0, 0, 0, 0, 0, 0, 0, 0, 0, 0], .sc (.int .i64 0), .sl 0 [] true, .sc (.int .i64 0), .sc (.int .i64 0), .sc (.int .i64 0), .sc (.int .i64 0), .sc (.int .i64 0), .sc (.int .i64 0)]⟩),
  (34, ⟨.struct [(0, 31), (24, 3), (25, 32), (26, 3), (27, 3), (28, 3), (29, 3), (30, 3), (31, 3)], 32, 272, [.arr .u64 12 [0, 0, 0, 0, 0, 0, 0, 0, 0, 0, 0, 0], .arr .u64 12 [0, 0, 0, 0, 0, 0, 0, 0, 0, 0, 0, 0], .sc (.int .i64 0), .sl 0 [] true, .sc (.int .i64 0), .sc (.int .i64 0), .sc (.int .i64 0), .sc (.int .i64 0), .sc (.int .i64 0), .sc (.int .i64 0)]⟩),
  (35, ⟨.other, 1, 8, [.sc .nilFunc]⟩),
  (36, ⟨.other, 1, 8, [.sc .nilFunc]⟩),
  (37, ⟨.other, 1, 8, [.sc .nilFunc]⟩),
  (38, ⟨.other, 1, 8, [.sc .nilFunc]⟩),
  (39, ⟨.other, 1, 8, [.sc .nilFunc]⟩),
  (40, ⟨.other, 1, 8, [.sc .nilFunc]⟩),
  (41, ⟨.struct [(0, 3), (1, 3), (2, 3), (3, 23)], 4, 32, [.sc (.int .i64 0), .sc (.int .i64 0), .sc (.int .i64 0), .sc (.int .u64 0)]⟩),
  (42, ⟨.struct [(0, 3), (1, 3), (2, 3), (3, 23)], 4, 32, [.sc (.int .i64 0), .sc (.int .i64 0), .sc (.int .i64 0), .sc (.int .u64 0)]⟩),
  (43, ⟨.other, 1, 8, [.sc .nilFunc]⟩),
  (44, ⟨.other, 1, 8, [.sc .nilFunc]⟩),
  (46, ⟨.other, 1, 8, [.sc .nilFunc]⟩),
  (47, ⟨.other, 1, 8, [.sc .nilFunc]⟩),
  (48, ⟨.other, 1, 8, [.sc .nilFunc]⟩),
  (49, ⟨.other, 1, 8, [.sc .nilFunc]⟩),
  (50, ⟨.other, 1, 8, [.sc .nilFunc]⟩),
  (51, ⟨.other, 1, 8, [.sc .nilFunc]⟩),
  (52, ⟨.other, 1, 8, [.sc .nilFunc]⟩),
  (53, ⟨.other, 1, 8, [.sc .nilFunc]⟩),
  (55, ⟨.other, 1, 8, [.sc .nilFunc]⟩),
  (56, ⟨.other, 1, 8, [.sc .nilFunc]⟩),
  (57, ⟨.other, 1, 8, [.sc .nilFunc]⟩),
  (58, ⟨.other, 1, 8, [.sc .nilFunc]⟩),
  (59, ⟨.other, 1, 8, [.sc .nilFunc]⟩),
  (60, ⟨.slice 5, 1, 24, [.sl 0 [] true]⟩),
  (61, ⟨.slice 4, 1, 24, [.sl 0 [] true]⟩),
  (62, ⟨.other, 1, 8, [.sc .nilFunc]⟩),
  (63, ⟨.other, 1, 8, [.sc .nilFunc]⟩),
  (64, ⟨.other, 1, 8, [.sc .nilFunc]⟩),
  (65, ⟨.other, 1, 8, [.sc .nilFunc]⟩),
  (66, ⟨.other, 1, 8, [.sc .nilFunc]⟩),
  (67, ⟨.other, 1, 8, [.sc .nilFunc]⟩),
  (68, ⟨.other, 1, 8, [.sc .nilFunc]⟩),
  (69, ⟨.other, 1, 8, [.sc .nilFunc]⟩),
  (70, ⟨.other, 1, 8, [.sc .nilFunc]⟩),
  (71, ⟨.int .u64, 1, 8, [.sc (.int .u64 0)]⟩),
  (72, ⟨.other, 1, 8, [.sc .nilFunc]⟩),
  (73, ⟨.other, 1, 8, [.sc .nilFunc]⟩),
  (74, ⟨.other, 1, 8, [.sc .nilFunc]⟩),
  (75, ⟨.slice 3, 1, 24, [.sl 0 [] true]⟩),
  (76, ⟨.other, 1, 8, [.sc .nilFunc]⟩),
  (77, ⟨.other, 1, 8, [.sc .nilFunc]⟩),
  (78, ⟨.int .i64, 1, 8, [.sc (.int .i64 0)]⟩),
  (80, ⟨.other, 1, 8, [.sc .nilFunc]⟩),
  (81, ⟨.other, 1, 8, [.sc .nilFunc]⟩),
  (82, ⟨.slice 23, 1, 24, [.sl 0 [] true]⟩),
  (83, ⟨.other, 1, 8, [.sc .nilFunc]⟩),
  (84, ⟨.other, 1, 8, [.sc .nilFunc]⟩),
  (85, ⟨.other, 1, 8, [.sc .nilFunc]⟩),
  (86, ⟨.struct [(0, 9), (1, 3)], 2, 24, [.sc (.string ⟨#[]⟩), .sc (.int .i64 0)]⟩),
  (87, ⟨.struct [(0, 9), (1, 3)], 2, 24, [.sc (.string ⟨#[]⟩), .sc (.int .i64 0)]⟩),
  (88, ⟨.arr 12 87, 24, 288, [.sc (.string ⟨#[]⟩), .sc (.int .i64 0), .sc (.string ⟨#[]⟩), .sc (.int .i64 0), .sc (.string ⟨#[]⟩), .sc (.int .i64 0), .sc (.string ⟨#[]⟩), .sc (.int .i64 0), .sc (.string ⟨#[]⟩), .sc (.int .i64 0), .sc (.string ⟨#[]⟩), .sc (.int .i64 0), .sc (.string ⟨#[]⟩), .sc (.int .i64 0), .sc (.string ⟨#[]⟩), .sc (.int .i64 0), .sc (.string ⟨#[]⟩), .sc (.int .i64 0), .sc (.string ⟨#[]⟩), .sc (.int .i64 0), .sc (.string ⟨#[]⟩), .sc (.int .i64 0), .sc (.string ⟨#[]⟩), .sc (.int .i64 0)]⟩),
  (89, ⟨.other, 1, 8, [.sc .nilFunc]⟩),
  (90, ⟨.other, 1, 8, [.sc .nilFunc]⟩),
  (91, ⟨.other, 1, 8, [.sc .nilFunc]⟩),
  (97, ⟨.other, 1, 8, [.sc .nilFunc]⟩),
  (98, ⟨.int .u32, 1, 4, [.sc (.int .u32 0)]⟩),
  (101, ⟨.other, 1, 8, [.sc .nilFunc]⟩),
  (102, ⟨.ptr 5, 1, 8, [.sc (.pointer none)]⟩)]

theorem tab_ok : tab.ok Try.prog := Tab.ok_of (by kernel_rfl)
theorem mixed : Try.prog.follows .mixedOrders = true := by kernel_rfl
end Go.Proofs.Ytadolbhmdimbkaa

set_option linter.unusedVariables false
set_option linter.unusedSimpArgs false
set_option maxRecDepth 100000
set_option maxHeartbeats 4000000
namespace Go.Proofs.Ytadolbhmdimbkaa
open Go.Sh
theorem wrap_eq {n : Int} (h1 : -9223372036854775808 ≤ n) (h2 : n ≤ 9223372036854775807) : IntKind.i64.wrap n = n := by
  rw [IntKind.wrap_i64]; omega
theorem wrap_succ {i : Nat} (h : i < 9223372036854775807) : IntKind.i64.wrap ((i : Int) + 1) = ((i + 1 : Nat) : Int) := by
  rw [wrap_eq (by omega) (by omega)]; rfl
theorem ixO_lt {α : Type} {xs : List α} {i : Nat} (h : i < xs.length) : ixO xs (i : Int) = some xs[i] := by
  unfold ixO
  rw [if_pos (by omega), Int.toNat_natCast, List.getElem?_eq_getElem h]
theorem fitO_eq {α : Type} {n b : Nat} {r : Option α} (h : n * b ≤ 140737488355328) : fitO n b r = r := by
  unfold fitO; rw [if_pos h]
theorem reqO_eq {α : Type} {b : Bool} {r : Option α} (h : b = true) : reqO b r = r := by
  subst h; rfl
theorem zero_nat : (0 : Int) = ((0 : Nat) : Int) := rfl
def idxF {α : Type} (f : α → Bool) (l : List α) : Int := match l.findIdx? f with | some i => (i : Int) | none => -1
theorem idxF_any {α : Type} (f : α → Bool) (l : List α) : decide (idxF f l ≥ 0) = l.any f := by
  unfold idxF
  cases h : l.findIdx? f with
  | none =>
    have : l.any f = false := by
      rw [Bool.eq_false_iff]
      intro ha
      obtain ⟨x, hx, hf⟩ := List.any_eq_true.1 ha
      have := List.findIdx?_eq_none_iff.1 h x hx
      rw [hf] at this
      cases this
    rw [this]
    rfl
  | some i =>
    have : l.any f = true := by
      obtain ⟨hlt, hp, _⟩ := List.findIdx?_eq_some_iff_getElem.1 h
      exact List.any_eq_true.2 ⟨l[i], List.getElem_mem hlt, hp⟩
    rw [this]
    simp
theorem findIdx_drop {α : Type} (f : α → Bool) {l : List α} {i : Nat} (h : i < l.length) : (l.drop i).findIdx? f = if f l[i] then some 0 else ((l.drop (i + 1)).findIdx? f).map (· + 1) := by
  rw [List.drop_eq_getElem_cons h, List.findIdx?_cons]
def zipAll {α β : Type} (f : α → β → Bool) : List α → List β → Bool
  | [], [] => true
  | x :: l, y :: r => f x y && zipAll f l r
  | _, _ => false
theorem zipAll_beq {α : Type} [DecidableEq α] : ∀ (l r : List α), zipAll (fun x y => x == y) l r = (l == r)
  | [], [] => rfl
  | x :: l, y :: r => by
      rw [zipAll, zipAll_beq l r]
      rfl
  | [], _ :: _ => rfl
  | _ :: _, [] => rfl
theorem zipAll_len {α β : Type} {f : α → β → Bool} : ∀ {l : List α} {r : List β}, zipAll f l r = true → l.length = r.length
  | [], [], _ => rfl
  | x :: l, y :: r, h => by
      rw [zipAll, Bool.and_eq_true] at h
      rw [List.length_cons, List.length_cons, zipAll_len h.2]
  | [], _ :: _, h => by cases h
  | _ :: _, [], h => by cases h
/-- two lists side by side -/
theorem cmp_loop {α β ε ρ : Type} {e : ε} {v : ρ} (L : List α → Nat → Option (Sum ε ρ)) (s2 : List β) (f : α → β → Bool) (h0 : ∀ i, L [] i = some (.inl e)) (h1 : ∀ x rest i, L (x :: rest) i = (ixO s2 ((i : Nat) : Int)).bind fun x1 => bif (!(f x x1)) then some (.inr v) else L rest (i + 1)) :
    ∀ (l : List α) (i : Nat), l.length + i = s2.length → L l i = some (if zipAll f l (s2.drop i) then .inl e else .inr v)
  | [], i, q => by
      rw [h0, List.drop_eq_nil_of_le (by simp at q; omega)]
      rfl
  | x :: l, i, q => by
      have hlt : i < s2.length := by simp at q; omega
      rw [h1, ixO_lt hlt, Option.bind_some, cmp_loop L s2 f h0 h1 l (i + 1) (by simp at q; omega), List.drop_eq_getElem_cons hlt, zipAll]
      cases f x s2[i]
      · rfl
      · simp only [Bool.not_true, cond_false, Bool.true_and]
theorem len_bne {α β : Type} (f : α → AV) (g : β → AV) (a : List α) (b : List β) : ((((List.map f a).length : Nat) : Int) != (((List.map g b).length : Nat) : Int)) = !decide (a.length = b.length) := by
  rw [List.length_map, List.length_map]
  by_cases h : a.length = b.length
  · rw [h]; simp
  · simp [h]; omega
theorem nil_app {α : Type} (l : List α) : ([] : List α) ++ l = l := rfl
theorem zipAll_refl {α : Type} {f : α → α → Bool} : ∀ {l : List α}, (∀ x ∈ l, f x x = true) → zipAll f l l = true
  | [], _ => rfl
  | x :: l, h => by
      rw [zipAll, h x (by simp), zipAll_refl fun y hy => h y (by simp [hy])]
      rfl

/-! ### The fields' sizes -/
def sizes : List Int := [16, 48, 48, 16, 12, 4, 32, 32, 8, 8, 12, 12]
def sizeT (n : Int) : Int := if 0 ≤ n ∧ n < 12 then sizes.getD n.toNat 0 else 0
theorem sizeT_cases (n : Int) : (¬ (0 ≤ n ∧ n < 12) ∧ sizeT n = 0) ∨ (0 ≤ n ∧ n < 12 ∧ ∃ k : Nat, n = k ∧ k < 12 ∧ sizeT n = sizes.getD k 0) := by
  by_cases h : 0 ≤ n ∧ n < 12
  · refine .inr ⟨h.1, h.2, n.toNat, by omega, by omega, ?_⟩
    unfold sizeT; rw [if_pos h]
  · refine .inl ⟨h, ?_⟩
    unfold sizeT; rw [if_neg h]
theorem sizes_in : ∀ k : Nat, 0 ≤ sizes.getD k 0 ∧ sizes.getD k 0 ≤ 48
  | 0 | 1 | 2 | 3 | 4 | 5 | 6 | 7 | 8 | 9 | 10 | 11 => by decide
  | n + 12 => by
    have : sizes.getD (n + 12) 0 = 0 := rfl
    rw [this]; decide
theorem sizeT_in (n : Int) : 0 ≤ sizeT n ∧ sizeT n ≤ 48 := by
  unfold sizeT
  split
  · exact sizes_in _
  · decide
/-- a number fits a field -/
def fitsT (n v : Int) : Bool := decide (v < 2 ^ (sizeT n).toNat)
theorem pow_le48 {k : Nat} (h : k ≤ 48) : (2 : Int) ^ k ≤ 281474976710656 := by
  have : (2 : Nat) ^ k ≤ 2 ^ 48 := Nat.pow_le_pow_right (by omega) h
  have e : ((2 ^ k : Nat) : Int) = (2 : Int) ^ k := by push_cast; rfl
  rw [← e]
  omega
theorem pow_pos2 (k : Nat) : (0 : Int) < (2 : Int) ^ k := Int.pow_pos (by decide)
theorem wrapU_eq {n : Int} (h1 : 0 ≤ n) (h2 : n < 18446744073709551616) : IntKind.u64.wrap n = n := by
  unfold IntKind.wrap
  simp only [IntKind.signed, IntKind.bits, Bool.false_and, Bool.false_eq_true, if_false]
  omega

structure Act where
  Kind : Int
  Port : Int
  Field : Int
  Value : Int
  deriving DecidableEq, Inhabited
def Act.ch (r : Act) : List AV := [.sc (.int .i64 r.Kind), .sc (.int .i64 r.Port), .sc (.int .i64 r.Field), .sc (.int .u64 r.Value)]
def Act.av (r : Act) : AV := .agg [.sc (.int .i64 r.Kind), .sc (.int .i64 r.Port), .sc (.int .i64 r.Field), .sc (.int .u64 r.Value)]
structure Cube where
  Value : List Int
  Care : List Int
  deriving DecidableEq, Inhabited
def Cube.ch (r : Cube) : List AV := [.arr .u64 12 r.Value, .arr .u64 12 r.Care]
def Cube.av (r : Cube) : AV := .agg [.arr .u64 12 r.Value, .arr .u64 12 r.Care]
structure Rule where
  Match : Cube
  Prio : Int
  Acts : List Act
  Idle : Int
  Hard : Int
  Owner : Int
  Hits : Int
  Quiet : Int
  Age : Int
  deriving DecidableEq, Inhabited
def Rule.ch (r : Rule) : List AV := [.arr .u64 12 r.Match.Value, .arr .u64 12 r.Match.Care, .sc (.int .i64 r.Prio), .sl 42 (List.map Act.av r.Acts) false, .sc (.int .i64 r.Idle), .sc (.int .i64 r.Hard), .sc (.int .i64 r.Owner), .sc (.int .i64 r.Hits), .sc (.int .i64 r.Quiet), .sc (.int .i64 r.Age)]
def Rule.av (r : Rule) : AV := .agg [.arr .u64 12 r.Match.Value, .arr .u64 12 r.Match.Care, .sc (.int .i64 r.Prio), .sl 42 (List.map Act.av r.Acts) false, .sc (.int .i64 r.Idle), .sc (.int .i64 r.Hard), .sc (.int .i64 r.Owner), .sc (.int .i64 r.Hits), .sc (.int .i64 r.Quiet), .sc (.int .i64 r.Age)]
structure Field where
  name : ByteArray
  size : Int
  deriving DecidableEq, Inhabited
def Field.ch (r : Field) : List AV := [.sc (.string r.name), .sc (.int .i64 r.size)]
def Field.av (r : Field) : AV := .agg [.sc (.string r.name), .sc (.int .i64 r.size)]

end Go.Proofs.Ytadolbhmdimbkaa

set_option linter.unusedVariables false
set_option linter.unusedSimpArgs false
set_option maxRecDepth 100000
set_option maxHeartbeats 4000000
namespace Go.Proofs.Ytadolbhmdimbkaa
open Go.Sh
theorem splice_grow {α : Type} (cur xs za zb : List α) (p q r : Nat) (hp : p + r ≤ cur.length) (hx : xs.length = q) (hz : za.length = q + r) (L0 L1 L2 : List α) (h0 : L0 = cur.take p ++ za ++ zb) (h1 : L1 = L0.take p ++ xs ++ L0.drop (p + q)) (h2 : L2 = L1.take (p + q) ++ (cur.drop p).take r ++ L1.drop (p + q + r)) :
    L2.take (p + q + r) = cur.take p ++ xs ++ (cur.drop p).take r ∧ L2.length = p + (q + r) + zb.length := by
  have e0 : L0.take p = cur.take p := by
    rw [h0, List.append_assoc, List.take_left' (by rw [List.length_take]; omega)]
  have l0 : L0.length = p + (q + r) + zb.length := by
    rw [h0, List.length_append, List.length_append, List.length_take, hz]; omega
  have e1 : L1.take (p + q) = cur.take p ++ xs := by
    rw [h1, e0, List.take_left' (by rw [List.length_append, List.length_take, hx]; omega)]
  have l1 : L1.length = L0.length := by
    rw [h1, List.length_append, List.length_append, List.length_take, List.length_drop, hx]; omega
  refine ⟨?_, ?_⟩
  · rw [h2, e1, List.take_left' (by simp only [List.length_append, List.length_take, List.length_drop, hx]; omega)]
  · rw [h2, List.length_append, List.length_append, List.length_take, List.length_take, List.length_drop, List.length_drop]; omega
theorem splice_room {α : Type} (cur xs : List α) (p q r : Nat) (hp : p + q + r ≤ cur.length) (hx : xs.length = q) (L1 L2 : List α) (h1 : L1 = cur.take (p + q) ++ (cur.drop p).take r ++ cur.drop (p + q + r)) (h2 : L2 = L1.take p ++ xs ++ L1.drop (p + q)) :
    L2.take (p + q + r) = cur.take p ++ xs ++ (cur.drop p).take r ∧ L2.length = cur.length := by
  have e0 : L1.take p = cur.take p := by
    rw [h1, List.append_assoc, List.take_append, List.length_take, List.take_take, Nat.min_eq_left (by omega), show p - min (p + q) cur.length = 0 by omega, List.take_zero, List.append_nil]
  have l1 : L1.length = cur.length := by
    rw [h1, List.length_append, List.length_append, List.length_take, List.length_take, List.length_drop, List.length_drop]; omega
  have e1 : L1.drop (p + q) = (cur.drop p).take r ++ cur.drop (p + q + r) := by
    rw [h1, List.append_assoc, List.drop_left' (by rw [List.length_take]; omega)]
  refine ⟨?_, ?_⟩
  · rw [h2, e0, e1, ← List.append_assoc, List.take_left' (by simp only [List.length_append, List.length_take, List.length_drop, hx]; omega)]
  · rw [h2, List.length_append, List.length_append, List.length_take, List.length_drop, hx]; omega

/-! ### slices.Insert of one element into a row of ours (by hand) -/
noncomputable def slices_Insert__api_Rule_F : Go.Sh.Fn := ⟨50, bodyOf Try.f50, 95⟩
theorem slices_Insert__api_Rule_over : ∀ (vals : Array Value) (w : World), (callFunc 67 vals).run Try.prog w = ((Extern.SlicesOverlaps.overlaps #[22, 22] #[4] vals).run Try.prog w).andThen fun v w' => .ok (.value v) w' :=
  fun vals w => run_callFunc_extern Try.func67 (by kernel_rfl) (by kernel_rfl) (by kernel_rfl) (by kernel_rfl) vals w

/-- at the end: append -/
theorem slices_Insert__api_Rule_end (A : List Rule) (x : Rule) (f : Bool) (C : Ctx) (H : HRel tab.S C [.row 34 (List.map Rule.av A) 1000000 true]) (hfit : (A.length + [x].length) * 272 ≤ reach) (vals : Array Value)
    (hv : VRels tab.S C [.own 0 1000000, .sc (.int .i64 (A.length : Int)), .sl 34 (List.map Rule.av [x]) f] vals.toList) :
    Calls Try.prog 50 vals C.w (Rp tab.S C (.own 0 1000001) [.row 34 (List.map Rule.av (A ++ [x])) 1000001 true]) := by
  have hG := tab_ok
  have hm := mixed
  have hlen : C.m.length = 1 := H.len
  refine AR.start (G := tab) slices_Insert__api_Rule_F (fn := Try.f50) Try.func50 (by kernel_rfl) (by kernel_rfl) (Nat.le_of_ble_eq_true (by kernel_rfl)) H hv ?_
  refine AR.seg hG hm 3 [0, 1, 2] (k' := [.code [1, 0], .code [1, 1]]) (t' := [(0, .own 0 1000000), (1, .sc (.int .i64 (A.length : Int))), (2, .sl 34 (List.map Rule.av [x]) f)]) (h' := [.row 34 (List.map Rule.av A) 1000000 true]) (by kernel_rfl) ?_
  refine AR.regK (by kernel_rfl) ?_
  refine LK.seg hG 2 [0, 1, 2, 10, 11] (t' := [(0, .own 0 1000000), (1, .sc (.int .i64 (A.length : Int))), (2, .sl 34 (List.map Rule.av [x]) f), (10, .own 0 1000000), (11, .sc (.int .i64 (A.length : Int)))]) (h' := [.row 34 (List.map Rule.av A) 1000000 true]) (by kernel_rfl) rfl ?_
  refine LK.op [0, 1, 2] (t' := [(0, .own 0 1000000), (1, .sc (.int .i64 (A.length : Int))), (2, .sl 34 (List.map Rule.av [x]) f)]) (LSpec.sliceOwnU hG (ty := 22) (e := 34) (o := 0) (k := 1000000) (kk := .i64) (app := true) (rows := List.map Rule.av A) (x := .tmp 10) (y := .tmp 11) (j := A.length) (by kernel_rfl) (by kernel_rfl) (by kernel_rfl) (by kernel_rfl) (by kernel_rfl) (by kernel_rfl) (by rw [List.length_map]; exact Nat.le_refl _)) (by kernel_rfl) rfl ?_
  refine LK.done (by kernel_rfl) ?_
  refine AR.seg hG hm 5 [0, 1, 2, 16] (k' := [.code [1, 1, 1, 0, 1], .code [1, 1, 1, 1]]) (t' := [(0, .own 0 1000000), (1, .sc (.int .i64 (A.length : Int))), (2, .sl 34 (List.map Rule.av [x]) f), (16, .sc (.bool false))]) (h' := [.row 34 (List.map Rule.av A) 1000000 true]) (by kernel_rfl) ?_
  refine AR.cond (.tmp 16) false (by kernel_rfl) (by kernel_rfl) (fun hb => by cases hb) (fun _ => ?_)
  refine AR.seg hG hm 6 [0, 1, 2, 22] (k' := [.code [1, 1, 1, 1, 1, 0, 1], .code [1, 1, 1, 1, 1, 1]]) (t' := [(0, .own 0 1000000), (1, .sc (.int .i64 (A.length : Int))), (2, .sl 34 (List.map Rule.av [x]) f), (22, .sc (.bool (((A.length : Nat) : Int) == (((List.map Rule.av A).length : Nat) : Int))))]) (h' := [.row 34 (List.map Rule.av A) 1000000 true]) (by kernel_rfl) ?_
  refine AR.cond (.tmp 22) (((A.length : Nat) : Int) == (((List.map Rule.av A).length : Nat) : Int)) (by kernel_rfl) (by kernel_rfl) (fun _ => ?_) (fun hb => absurd hb (by rw [List.length_map]; simp))
  refine AR.seg hG hm 1 [0, 2] (k' := [.code [1, 1, 1, 1, 1, 0, 1, 0, 0], .code [1, 1, 1, 1, 1, 0, 1, 0, 1], .code [1, 1, 1, 1, 1, 1]]) (t' := [(0, .own 0 1000000), (2, .sl 34 (List.map Rule.av [x]) f)]) (h' := [.row 34 (List.map Rule.av A) 1000000 true]) (by kernel_rfl) ?_
  refine AR.regK (by kernel_rfl) ?_
  refine LK.seg hG 2 [23, 24] (t' := [(23, .own 0 1000000), (24, .sl 34 (List.map Rule.av [x]) f)]) (h' := [.row 34 (List.map Rule.av A) 1000000 true]) (by kernel_rfl) rfl ?_
  obtain ⟨ei, hei⟩ := Option.isSome_iff_exists.1 (by kernel_rfl : (tab.get 34).isSome = true)
  have hS := S_get hei
  have hS2 : tab.S 34 = (32, 272) := by kernel_rfl
  rw [hS2] at hS
  injection hS with hS3 hS4
  have L := fun t h hop hx ho hy hnb => LSpec.append (n := slices_Insert__api_Rule_F.n) (ops := opsOf (codeAt slices_Insert__api_Rule_F.B [1, 1, 1, 1, 1, 0, 1, 0, 0])) (i := 0 + 2) (t := t) (h := h) (ty := 22) (e := 34) (x := .tmp 23) (y := .tmp 24) (o := 0) (k := 1000000) (rows := List.map Rule.av A) (rows2 := List.map Rule.av [x]) (f := f) (k' := 1000001) hG hop (by kernel_rfl) hei (by omega) (by omega) hx ho hy hnb (by rw [List.length_map, List.length_map, ← hS4]; exact hfit) (by omega) (fun hq => .inl (by omega))
  rw [← List.map_append] at L
  refine LK.op [25] (t' := [(25, .own 0 1000001)]) (L _ _ (by kernel_rfl) (by kernel_rfl) (by kernel_rfl) (by kernel_rfl) (by kernel_rfl)) (by kernel_rfl) rfl ?_
  refine LK.seg hG 1 [6] (t' := [(6, .own 0 1000001)]) (h' := [.row 34 (List.map Rule.av (A ++ [x])) 1000001 true]) (by kernel_rfl) rfl ?_
  refine LK.done (by kernel_rfl) ?_
  exact AR.ret hG Try.func50 (by kernel_rfl) 1 (by omega) (aas := [.own 0 1000001]) (bs := [.own 0 1000001]) (by kernel_rfl) (by kernel_rfl) (by kernel_rfl) (by kernel_rfl) (by kernel_rfl)

end Go.Proofs.Ytadolbhmdimbkaa

set_option linter.unusedVariables false
set_option linter.unusedSimpArgs false
set_option maxRecDepth 100000
set_option maxHeartbeats 4000000
namespace Go.Proofs.Ytadolbhmdimbkaa
open Go.Sh

def slices_Insert__api_Rule_good (n i : Nat) (cur xs : List Value) (c' : Nat) (L : List Value) : Prop :=
  n + 1 ≤ c' ∧ c' ≤ maxLen ∧ L.length = c' * 32 ∧ L.take ((n + 1) * 32) = cur.take (i * 32) ++ xs ++ (cur.drop (i * 32)).take ((n - i) * 32)
def slices_Insert__api_Rule_R (n i c : Nat) (cur xs : List Value) (ex : AO) (c0 : Ctx) (e : Ending) (w : World) : Prop :=
  (∃ L, slices_Insert__api_Rule_good n i cur xs c L ∧ Rp tab.S c0 (rs 0 0 (n + 1) c) [rawO 34 L, ex] e w) ∨
  ∃ nc L, slices_Insert__api_Rule_good n i cur xs nc L ∧ Rp tab.S c0 (rs 2 0 (n + 1) nc) [rawO 34 cur, ex, rawO 34 L] e w
theorem slices_Insert__api_Rule_mid (n i c ov cv : Nat) (cur cur2 : List Value) (te2 : TypeId) (fr2 : Nat × Nat) (c0 : Ctx) (hc0 : c0.m.length = 2) (hi : i < n) (hnc : n ≤ c) (hcm : c ≤ maxLen) (hcl : cur.length = c * 32) (hc2 : ov + 32 ≤ cur2.length)
    (hone : ∀ v ∈ (cur.drop (i * 32)).take ((n - i) * 32), v.oneCell' = true) (hone2 : ∀ v ∈ (cur2.drop ov).take 32, v.oneCell' = true) (hfit : (n + 1) * 272 ≤ reach) :
    AR Try.prog tab slices_Insert__api_Rule_F c0 (slices_Insert__api_Rule_R n i c cur ((cur2.drop ov).take 32) (exO (.cells cur2.toArray te2 fr2)) c0) [.code []] [(0, rs 0 0 n c), (1, .sc (.int .i64 (i : Int))), (2, rs 1 ov 1 cv)] [rawO 34 cur, exO (.cells cur2.toArray te2 fr2)] := by
  have hG := tab_ok
  have hm := mixed
  have hreach : (n + 1) * 272 ≤ 140737488355328 := hfit
  have hw1 : IntKind.i64.wrap ((n : Int) + 1) = ((n + 1 : Nat) : Int) := by rw [wrap_eq (by omega) (by omega)]; rfl
  have hw2 : IntKind.i64.wrap ((i : Int) + 1) = ((i + 1 : Nat) : Int) := by rw [wrap_eq (by omega) (by omega)]; rfl
  have hw3 : IntKind.i64.wrap (((n + 1 : Nat) : Int) - (i : Int)) = ((n + 1 - i : Nat) : Int) := by rw [wrap_eq (by omega) (by omega)]; omega
  have hx : ((cur2.drop ov).take 32).length = 32 := by rw [List.length_take, List.length_drop]; omega
  have hx1 : (cur2.drop ov).take (1 * 32) = (cur2.drop ov).take 32 := by rw [Nat.one_mul]
  have en1 : (n + 1) * 32 = i * 32 + 32 + (n - i) * 32 := by omega
  have ei1 : (i + 1) * 32 = i * 32 + 32 := by omega
  refine AR.seg hG hm 3 [0, 1, 2] (k' := [.code [1, 0], .code [1, 1]]) (t' := [(0, rs 0 0 n c), (1, .sc (.int .i64 (i : Int))), (2, rs 1 ov 1 cv)]) (h' := [rawO 34 cur, exO (.cells cur2.toArray te2 fr2)]) (by kernel_rfl) ?_
  refine AR.regK (by kernel_rfl) ?_
  refine LK.seg hG 2 [0, 1, 2, 10, 11] (t' := [(0, rs 0 0 n c), (1, .sc (.int .i64 (i : Int))), (2, rs 1 ov 1 cv), (10, rs 0 0 n c), (11, .sc (.int .i64 (i : Int)))]) (h' := [rawO 34 cur, exO (.cells cur2.toArray te2 fr2)]) (by kernel_rfl) rfl ?_
  refine LK.op [0, 1, 2] (t' := [(0, rs 0 0 n c), (1, .sc (.int .i64 (i : Int))), (2, rs 1 ov 1 cv)]) (h' := [rawO 34 cur, exO (.cells cur2.toArray te2 fr2)]) (LSpec.sliceRaw hG (ty := 22) (e := 34) (x := .tmp 10) (lo := some (.tmp 11)) (hi := none) (o := 0) (off := 0) (len := n) (c := c) (i) (n) 32 (by kernel_rfl) (by kernel_rfl) (by kernel_rfl) (by kernel_rfl) (by kernel_rfl) (⟨.i64, by kernel_rfl⟩) (rfl) (by omega) (by omega) (by omega)) (by kernel_rfl) rfl ?_
  refine LK.done (by kernel_rfl) ?_
  refine AR.seg hG hm 1 [0, 1, 2] (k' := [.code [1, 1, 0], .code [1, 1, 1]]) (t' := [(0, rs 0 0 n c), (1, .sc (.int .i64 (i : Int))), (2, rs 1 ov 1 cv)]) (h' := [rawO 34 cur, exO (.cells cur2.toArray te2 fr2)]) (by kernel_rfl) ?_
  refine AR.regK (by kernel_rfl) ?_
  refine LK.seg hG 1 [0, 1, 2, 13] (t' := [(0, rs 0 0 n c), (1, .sc (.int .i64 (i : Int))), (2, rs 1 ov 1 cv), (13, rs 1 ov 1 cv)]) (h' := [rawO 34 cur, exO (.cells cur2.toArray te2 fr2)]) (by kernel_rfl) rfl ?_
  refine LK.op [0, 1, 2, 14] (t' := [(0, rs 0 0 n c), (1, .sc (.int .i64 (i : Int))), (2, rs 1 ov 1 cv), (14, .sc (.int .i64 ((1 : Nat) : Int)))]) (h' := [rawO 34 cur, exO (.cells cur2.toArray te2 fr2)]) (LSpec.lenRaw hG (ty := 22) (e := 34) (x := .tmp 13) (o := 1) (off := ov) (len := 1) (c := cv) (by kernel_rfl) (by kernel_rfl) (by kernel_rfl)) (by kernel_rfl) rfl ?_
  refine LK.seg hG 1 [0, 1, 2, 7] (t' := [(0, rs 0 0 n c), (1, .sc (.int .i64 (i : Int))), (2, rs 1 ov 1 cv), (7, .sc (.int .i64 1))]) (h' := [rawO 34 cur, exO (.cells cur2.toArray te2 fr2)]) (by kernel_rfl) rfl ?_
  refine LK.done (by kernel_rfl) ?_
  refine AR.seg hG hm 3 [0, 1, 2, 7, 16] (k' := [.code [1, 1, 1, 0, 1], .code [1, 1, 1, 1]]) (t' := [(0, rs 0 0 n c), (1, .sc (.int .i64 (i : Int))), (2, rs 1 ov 1 cv), (7, .sc (.int .i64 1)), (16, .sc (.bool false))]) (h' := [rawO 34 cur, exO (.cells cur2.toArray te2 fr2)]) (by kernel_rfl) ?_
  refine AR.cond (.tmp 16) false (by kernel_rfl) (by kernel_rfl) (fun hb => by cases hb) (fun _ => ?_)
  refine AR.seg hG hm 2 [0, 1, 2, 7] (k' := [.code [1, 1, 1, 1, 0], .code [1, 1, 1, 1, 1]]) (t' := [(0, rs 0 0 n c), (1, .sc (.int .i64 (i : Int))), (2, rs 1 ov 1 cv), (7, .sc (.int .i64 1))]) (h' := [rawO 34 cur, exO (.cells cur2.toArray te2 fr2)]) (by kernel_rfl) ?_
  refine AR.regK (by kernel_rfl) ?_
  refine LK.seg hG 1 [0, 1, 2, 7, 18] (t' := [(0, rs 0 0 n c), (1, .sc (.int .i64 (i : Int))), (2, rs 1 ov 1 cv), (7, .sc (.int .i64 1)), (18, rs 0 0 n c)]) (h' := [rawO 34 cur, exO (.cells cur2.toArray te2 fr2)]) (by kernel_rfl) rfl ?_
  refine LK.op [0, 1, 2, 7, 19] (t' := [(0, rs 0 0 n c), (1, .sc (.int .i64 (i : Int))), (2, rs 1 ov 1 cv), (7, .sc (.int .i64 1)), (19, .sc (.int .i64 (n : Int)))]) (h' := [rawO 34 cur, exO (.cells cur2.toArray te2 fr2)]) (LSpec.lenRaw hG (ty := 22) (e := 34) (x := .tmp 18) (o := 0) (off := 0) (len := n) (c := c) (by kernel_rfl) (by kernel_rfl) (by kernel_rfl)) (by kernel_rfl) rfl ?_
  refine LK.seg hG 1 [0, 1, 2, 7, 8] (t' := [(0, rs 0 0 n c), (1, .sc (.int .i64 (i : Int))), (2, rs 1 ov 1 cv), (7, .sc (.int .i64 1)), (8, .sc (.int .i64 (n : Int)))]) (h' := [rawO 34 cur, exO (.cells cur2.toArray te2 fr2)]) (by kernel_rfl) rfl ?_
  refine LK.done (by kernel_rfl) ?_
  refine AR.seg hG hm 3 [0, 1, 2, 7, 8, 22] (k' := [.code [1, 1, 1, 1, 1, 0, 1], .code [1, 1, 1, 1, 1, 1]]) (t' := [(0, rs 0 0 n c), (1, .sc (.int .i64 (i : Int))), (2, rs 1 ov 1 cv), (7, .sc (.int .i64 1)), (8, .sc (.int .i64 (n : Int))), (22, .sc (.bool ((i : Int) == (n : Int))))]) (h' := [rawO 34 cur, exO (.cells cur2.toArray te2 fr2)]) (by kernel_rfl) ?_
  refine AR.cond (.tmp 22) ((i : Int) == (n : Int)) (by kernel_rfl) (by kernel_rfl) (fun hb => absurd hb (by simp; omega)) (fun _ => ?_)
  refine AR.seg hG hm 3 [0, 1, 2, 7, 8] (k' := [.code [1, 1, 1, 1, 1, 1, 0, 0], .code [1, 1, 1, 1, 1, 1, 0, 1], .code [1, 1, 1, 1, 1, 1, 1]]) (t' := [(0, rs 0 0 n c), (1, .sc (.int .i64 (i : Int))), (2, rs 1 ov 1 cv), (7, .sc (.int .i64 1)), (8, .sc (.int .i64 (n : Int)))]) (h' := [rawO 34 cur, exO (.cells cur2.toArray te2 fr2)]) (by kernel_rfl) ?_
  refine AR.regK (by kernel_rfl) ?_
  refine LK.seg hG 4 [0, 1, 2, 7, 8, 28, 29] (t' := [(0, rs 0 0 n c), (1, .sc (.int .i64 (i : Int))), (2, rs 1 ov 1 cv), (7, .sc (.int .i64 1)), (8, .sc (.int .i64 (n : Int))), (28, .sc (.int .i64 (IntKind.i64.wrap ((n : Int) + 1)))), (29, rs 0 0 n c)]) (h' := [rawO 34 cur, exO (.cells cur2.toArray te2 fr2)]) (by kernel_rfl) rfl ?_
  refine LK.op [0, 1, 2, 7, 8, 28, 30] (t' := [(0, rs 0 0 n c), (1, .sc (.int .i64 (i : Int))), (2, rs 1 ov 1 cv), (7, .sc (.int .i64 1)), (8, .sc (.int .i64 (n : Int))), (28, .sc (.int .i64 (IntKind.i64.wrap ((n : Int) + 1)))), (30, .sc (.int .i64 (c : Int)))]) (h' := [rawO 34 cur, exO (.cells cur2.toArray te2 fr2)]) (LSpec.capRaw hG (ty := 22) (e := 34) (x := .tmp 29) (o := 0) (off := 0) (len := n) (c := c) (by kernel_rfl) (by kernel_rfl) (by kernel_rfl)) (by kernel_rfl) rfl ?_
  refine LK.seg hG 1 [0, 1, 2, 7, 8, 31] (t' := [(0, rs 0 0 n c), (1, .sc (.int .i64 (i : Int))), (2, rs 1 ov 1 cv), (7, .sc (.int .i64 1)), (8, .sc (.int .i64 (n : Int))), (31, .sc (.bool (decide (IntKind.i64.wrap ((n : Int) + 1) > (c : Int)))))]) (h' := [rawO 34 cur, exO (.cells cur2.toArray te2 fr2)]) (by kernel_rfl) rfl ?_
  refine LK.done (by kernel_rfl) ?_
  refine AR.cond (.tmp 31) (decide (IntKind.i64.wrap ((n : Int) + 1) > (c : Int))) (by kernel_rfl) (by kernel_rfl) (fun hb => ?B) (fun hb => ?C)
  case B =>
    have hgt : c < n + 1 := by have := of_decide_eq_true hb; rw [hw1] at this; omega
    refine AR.post (fun e w hq => .inr hq) ?_
    refine AR.seg hG hm 1 [0, 1, 2, 7, 8] (k' := [.code [1, 1, 1, 1, 1, 1, 0, 1, 0, 0], .code [1, 1, 1, 1, 1, 1, 0, 1, 0, 1], .code [1, 1, 1, 1, 1, 1, 1]]) (t' := [(0, rs 0 0 n c), (1, .sc (.int .i64 (i : Int))), (2, rs 1 ov 1 cv), (7, .sc (.int .i64 1)), (8, .sc (.int .i64 (n : Int)))]) (h' := [rawO 34 cur, exO (.cells cur2.toArray te2 fr2)]) (by kernel_rfl) ?_
    refine AR.regK (by kernel_rfl) ?_
    refine LK.seg hG 2 [0, 1, 2, 7, 8, 32, 33] (t' := [(0, rs 0 0 n c), (1, .sc (.int .i64 (i : Int))), (2, rs 1 ov 1 cv), (7, .sc (.int .i64 1)), (8, .sc (.int .i64 (n : Int))), (32, rs 0 0 n c), (33, .sc (.int .i64 (i : Int)))]) (h' := [rawO 34 cur, exO (.cells cur2.toArray te2 fr2)]) (by kernel_rfl) rfl ?_
    refine LK.op [0, 1, 2, 7, 8, 34] (t' := [(0, rs 0 0 n c), (1, .sc (.int .i64 (i : Int))), (2, rs 1 ov 1 cv), (7, .sc (.int .i64 1)), (8, .sc (.int .i64 (n : Int))), (34, rs 0 0 i c)]) (h' := [rawO 34 cur, exO (.cells cur2.toArray te2 fr2)]) (LSpec.sliceRaw hG (ty := 22) (e := 34) (x := .tmp 32) (lo := none) (hi := some (.tmp 33)) (o := 0) (off := 0) (len := n) (c := c) (0) (i) 32 (by kernel_rfl) (by kernel_rfl) (by kernel_rfl) (by kernel_rfl) (by kernel_rfl) (rfl) (⟨.i64, by kernel_rfl⟩) (by omega) (by omega) (.inr rfl)) (by kernel_rfl) rfl ?_
    refine LK.seg hG 3 [0, 1, 2, 7, 8, 34, 37] (t' := [(0, rs 0 0 n c), (1, .sc (.int .i64 (i : Int))), (2, rs 1 ov 1 cv), (7, .sc (.int .i64 1)), (8, .sc (.int .i64 (n : Int))), (34, rs 0 0 i c), (37, .sc (.int .i64 (IntKind.i64.wrap ((n : Int) + 1))))]) (h' := [rawO 34 cur, exO (.cells cur2.toArray te2 fr2)]) (by kernel_rfl) rfl ?_
    rw [hw1]
    refine LK.seg hG 2 [0, 1, 2, 7, 8, 34, 39] (t' := [(0, rs 0 0 n c), (1, .sc (.int .i64 (i : Int))), (2, rs 1 ov 1 cv), (7, .sc (.int .i64 1)), (8, .sc (.int .i64 (n : Int))), (34, rs 0 0 i c), (39, .sc (.int .i64 (IntKind.i64.wrap (((n + 1 : Nat) : Int) - (i : Int)))))]) (h' := [rawO 34 cur, exO (.cells cur2.toArray te2 fr2)]) (by kernel_rfl) rfl ?_
    rw [hw3]
    refine LK.appendMake hG (cur := cur) (te := 34) (ty := 22) (tn := 3) (e := 34) (x := .tmp 34) (y := .tmp 39) (o := 0) (off := 0) (len := i) (c := c) (sz := 32) (by_ := 272) (kk := .i64) (kn := .i64) (n + 1 - i) (by kernel_rfl) (by kernel_rfl) (by kernel_rfl) (by kernel_rfl) (by kernel_rfl) (by kernel_rfl) (by kernel_rfl) (by kernel_rfl) (by omega) (by omega) (by omega) (by omega) (by rw [show i + (n + 1 - i) = n + 1 by omega]; exact hfit) (by omega) ?_
    intro nc za zb hn1 hn2 hza hzb
    rw [show i + (n + 1 - i) = n + 1 by omega] at hn1 hzb ⊢
    obtain ⟨L0, hL0⟩ : ∃ L0, (cur.drop 0).take (i * 32) ++ za ++ zb = L0 := ⟨_, rfl⟩
    rw [hL0]
    refine LK.seg hG 1 [0, 1, 2, 7, 9] (t' := [(0, rs 0 0 n c), (1, .sc (.int .i64 (i : Int))), (2, rs 1 ov 1 cv), (7, .sc (.int .i64 1)), (9, rs 2 0 (n + 1) nc)]) (h' := [rawO 34 cur, exO (.cells cur2.toArray te2 fr2), rawO 34 L0]) (by kernel_rfl) rfl ?_
    refine LK.done (by kernel_rfl) ?_
    refine AR.seg hG hm 1 [0, 1, 2, 7, 9] (k' := [.code [1, 1, 1, 1, 1, 1, 0, 1, 0, 1, 0], .code [1, 1, 1, 1, 1, 1, 0, 1, 0, 1, 1], .code [1, 1, 1, 1, 1, 1, 1]]) (t' := [(0, rs 0 0 n c), (1, .sc (.int .i64 (i : Int))), (2, rs 1 ov 1 cv), (7, .sc (.int .i64 1)), (9, rs 2 0 (n + 1) nc)]) (h' := [rawO 34 cur, exO (.cells cur2.toArray te2 fr2), rawO 34 L0]) (by kernel_rfl) ?_
    refine AR.regK (by kernel_rfl) ?_
    refine LK.seg hG 2 [0, 1, 2, 7, 9, 41, 42] (t' := [(0, rs 0 0 n c), (1, .sc (.int .i64 (i : Int))), (2, rs 1 ov 1 cv), (7, .sc (.int .i64 1)), (9, rs 2 0 (n + 1) nc), (41, rs 2 0 (n + 1) nc), (42, .sc (.int .i64 (i : Int)))]) (h' := [rawO 34 cur, exO (.cells cur2.toArray te2 fr2), rawO 34 L0]) (by kernel_rfl) rfl ?_
    refine LK.op [0, 1, 2, 7, 9, 43] (t' := [(0, rs 0 0 n c), (1, .sc (.int .i64 (i : Int))), (2, rs 1 ov 1 cv), (7, .sc (.int .i64 1)), (9, rs 2 0 (n + 1) nc), (43, rs 2 (0 + i * 32) (n + 1 - i) (nc - i))]) (h' := [rawO 34 cur, exO (.cells cur2.toArray te2 fr2), rawO 34 L0]) (LSpec.sliceRaw hG (ty := 22) (e := 34) (x := .tmp 41) (lo := some (.tmp 42)) (hi := none) (o := 2) (off := 0) (len := n + 1) (c := nc) (i) (n + 1) 32 (by kernel_rfl) (by kernel_rfl) (by kernel_rfl) (by kernel_rfl) (by kernel_rfl) (⟨.i64, by kernel_rfl⟩) (rfl) (by omega) (by omega) (by omega)) (by kernel_rfl) rfl ?_
    refine LK.seg hG 1 [0, 1, 2, 7, 9, 43, 44] (t' := [(0, rs 0 0 n c), (1, .sc (.int .i64 (i : Int))), (2, rs 1 ov 1 cv), (7, .sc (.int .i64 1)), (9, rs 2 0 (n + 1) nc), (43, rs 2 (0 + i * 32) (n + 1 - i) (nc - i)), (44, rs 1 ov 1 cv)]) (h' := [rawO 34 cur, exO (.cells cur2.toArray te2 fr2), rawO 34 L0]) (by kernel_rfl) rfl ?_
    have l0 : L0.length = nc * 32 := by rw [← hL0, List.length_append, List.length_append, List.length_take, List.length_drop, hza, hzb]; omega
    refine LK.op [0, 1, 2, 7, 9] (t' := [(0, rs 0 0 n c), (1, .sc (.int .i64 (i : Int))), (2, rs 1 ov 1 cv), (7, .sc (.int .i64 1)), (9, rs 2 0 (n + 1) nc)]) (h' := [rawO 34 cur, exO (.cells cur2.toArray te2 fr2), rawO 34 (L0.take (0 + i * 32) ++ (cur2.drop ov).take (1 * 32) ++ L0.drop (0 + i * 32 + 1 * 32))]) (LSpec.copyRaw hG (ty := 22) (ty2 := 22) (e := 34) (te := 34) (te2 := te2) (x := .tmp 43) (y := .tmp 44) (o := 2) (off := 0 + i * 32) (dn := n + 1 - i) (dc := nc - i) (o2 := 1) (off2 := ov) (sn := 1) (sc := cv) (k := 1) (sz := 32) (cur := L0) (cur2 := cur2) (fr2 := fr2) (by kernel_rfl) (by kernel_rfl) (by kernel_rfl) (by kernel_rfl) (by kernel_rfl) (by kernel_rfl) (by kernel_rfl) (by kernel_rfl) (by omega) (by omega) (by omega) (by rw [hx1]; exact hone2)) (by kernel_rfl) rfl ?_
    refine LK.done (by kernel_rfl) ?_
    obtain ⟨L1, hL1⟩ : ∃ L1, L0.take (0 + i * 32) ++ (cur2.drop ov).take (1 * 32) ++ L0.drop (0 + i * 32 + 1 * 32) = L1 := ⟨_, rfl⟩
    rw [hL1]
    have l1 : L1.length = nc * 32 := by rw [← hL1, List.length_append, List.length_append, List.length_take, List.length_drop, hx1, hx]; omega
    refine AR.seg hG hm 1 [0, 1, 7, 9] (k' := [.code [1, 1, 1, 1, 1, 1, 0, 1, 0, 1, 1, 0], .code [1, 1, 1, 1, 1, 1, 0, 1, 0, 1, 1, 1], .code [1, 1, 1, 1, 1, 1, 1]]) (t' := [(0, rs 0 0 n c), (1, .sc (.int .i64 (i : Int))), (7, .sc (.int .i64 1)), (9, rs 2 0 (n + 1) nc)]) (h' := [rawO 34 cur, exO (.cells cur2.toArray te2 fr2), rawO 34 L1]) (by kernel_rfl) ?_
    refine AR.reg hm [.pure, .pure, .pure, .pure, .pure, .pure, .pure, .pure, .loud] (by kernel_rfl) ?_
    refine DK.seg hG 4 [0, 1, 7, 9, 46, 49] (t' := [(0, rs 0 0 n c), (1, .sc (.int .i64 (i : Int))), (7, .sc (.int .i64 1)), (9, rs 2 0 (n + 1) nc), (46, rs 2 0 (n + 1) nc), (49, .sc (.int .i64 (IntKind.i64.wrap ((i : Int) + 1))))]) (h' := [rawO 34 cur, exO (.cells cur2.toArray te2 fr2), rawO 34 L1]) (by kernel_rfl) rfl ?_
    rw [hw2]
    refine DK.op' [0, 1, 7, 9, 50] (t' := [(0, rs 0 0 n c), (1, .sc (.int .i64 (i : Int))), (7, .sc (.int .i64 1)), (9, rs 2 0 (n + 1) nc), (50, rs 2 (0 + (i + 1) * 32) (n + 1 - (i + 1)) (nc - (i + 1)))]) (h' := [rawO 34 cur, exO (.cells cur2.toArray te2 fr2), rawO 34 L1]) (LSpec.sliceRaw hG (ty := 22) (e := 34) (x := .tmp 46) (lo := some (.tmp 49)) (hi := none) (o := 2) (off := 0) (len := n + 1) (c := nc) (i + 1) (n + 1) 32 (by kernel_rfl) (by kernel_rfl) (by kernel_rfl) (by kernel_rfl) (by kernel_rfl) (⟨.i64, by kernel_rfl⟩) (rfl) (by omega) (by omega) (by omega)) (by kernel_rfl) rfl (by kernel_rfl) rfl ?_
    refine DK.seg hG 2 [0, 1, 7, 9, 50, 51, 52] (t' := [(0, rs 0 0 n c), (1, .sc (.int .i64 (i : Int))), (7, .sc (.int .i64 1)), (9, rs 2 0 (n + 1) nc), (50, rs 2 (0 + (i + 1) * 32) (n + 1 - (i + 1)) (nc - (i + 1))), (51, rs 0 0 n c), (52, .sc (.int .i64 (i : Int)))]) (h' := [rawO 34 cur, exO (.cells cur2.toArray te2 fr2), rawO 34 L1]) (by kernel_rfl) rfl ?_
    refine DK.op' [0, 1, 7, 9, 50, 53] (t' := [(0, rs 0 0 n c), (1, .sc (.int .i64 (i : Int))), (7, .sc (.int .i64 1)), (9, rs 2 0 (n + 1) nc), (50, rs 2 (0 + (i + 1) * 32) (n + 1 - (i + 1)) (nc - (i + 1))), (53, rs 0 (0 + i * 32) (n - i) (c - i))]) (h' := [rawO 34 cur, exO (.cells cur2.toArray te2 fr2), rawO 34 L1]) (LSpec.sliceRaw hG (ty := 22) (e := 34) (x := .tmp 51) (lo := some (.tmp 52)) (hi := none) (o := 0) (off := 0) (len := n) (c := c) (i) (n) 32 (by kernel_rfl) (by kernel_rfl) (by kernel_rfl) (by kernel_rfl) (by kernel_rfl) (⟨.i64, by kernel_rfl⟩) (rfl) (by omega) (by omega) (by omega)) (by kernel_rfl) rfl (by kernel_rfl) rfl ?_
    refine DK.op' [9] (t' := [(9, rs 2 0 (n + 1) nc)]) (h' := [rawO 34 cur, exO (.cells cur2.toArray te2 fr2), rawO 34 (L1.take (0 + (i + 1) * 32) ++ (cur.drop (0 + i * 32)).take ((n - i) * 32) ++ L1.drop (0 + (i + 1) * 32 + (n - i) * 32))]) (LSpec.copyRaw hG (ty := 22) (ty2 := 22) (e := 34) (te := 34) (te2 := 34) (x := .tmp 50) (y := .tmp 53) (o := 2) (off := 0 + (i + 1) * 32) (dn := n + 1 - (i + 1)) (dc := nc - (i + 1)) (o2 := 0) (off2 := 0 + i * 32) (sn := n - i) (sc := c - i) (k := n - i) (sz := 32) (cur := L1) (cur2 := cur) (fr2 := (0, 0)) (by kernel_rfl) (by kernel_rfl) (by kernel_rfl) (by kernel_rfl) (by kernel_rfl) (by kernel_rfl) (by kernel_rfl) (by kernel_rfl) (by omega) (by omega) (by omega) (by rw [Nat.zero_add]; exact hone)) (by kernel_rfl) (by kernel_rfl) (by kernel_rfl) rfl ?_
    refine DK.done (by kernel_rfl) (by kernel_rfl) ?_
    refine AR.seg hG hm 2 [6] (k' := [.code [1, 1, 1, 1, 1, 1, 0, 1, 0, 1, 1, 1, 1], .code [1, 1, 1, 1, 1, 1, 1]]) (t' := [(6, rs 2 0 (n + 1) nc)]) (h' := [rawO 34 cur, exO (.cells cur2.toArray te2 fr2), rawO 34 (L1.take (0 + (i + 1) * 32) ++ (cur.drop (0 + i * 32)).take ((n - i) * 32) ++ L1.drop (0 + (i + 1) * 32 + (n - i) * 32))]) (by kernel_rfl) ?_
    refine AR.post (fun e w hq => ⟨nc, L1.take (0 + (i + 1) * 32) ++ (cur.drop (0 + i * 32)).take ((n - i) * 32) ++ L1.drop (0 + (i + 1) * 32 + (n - i) * 32), ?_, hq⟩) (AR.ret hG Try.func50 (by kernel_rfl) 3 (by omega) (aas := [rs 2 0 (n + 1) nc]) (bs := [rs 2 0 (n + 1) nc]) (by kernel_rfl) (by kernel_rfl) (by kernel_rfl) (by kernel_rfl) (by kernel_rfl))
    have hs := splice_grow cur ((cur2.drop ov).take 32) za zb (i * 32) 32 ((n - i) * 32) (by omega) hx (by omega) L0 L1 (L1.take (0 + (i + 1) * 32) ++ (cur.drop (0 + i * 32)).take ((n - i) * 32) ++ L1.drop (0 + (i + 1) * 32 + (n - i) * 32)) (by rw [← hL0, List.drop_zero]) (by rw [← hL1, hx1, Nat.zero_add, Nat.one_mul]) (by rw [Nat.zero_add, Nat.zero_add, ei1])
    refine ⟨hn1, hn2, ?_, ?_⟩
    · rw [hs.2, hzb]; omega
    · rw [en1]; exact hs.1
  case C =>
    have hle : n + 1 ≤ c := by have := of_decide_eq_false hb; rw [hw1] at this; omega
    refine AR.post (fun e w hq => .inl hq) ?_
    refine AR.seg hG hm 2 [0, 1, 2, 7, 8] (k' := [.code [1, 1, 1, 1, 1, 1, 1, 0], .code [1, 1, 1, 1, 1, 1, 1, 1]]) (t' := [(0, rs 0 0 n c), (1, .sc (.int .i64 (i : Int))), (2, rs 1 ov 1 cv), (7, .sc (.int .i64 1)), (8, .sc (.int .i64 (n : Int)))]) (h' := [rawO 34 cur, exO (.cells cur2.toArray te2 fr2)]) (by kernel_rfl) ?_
    refine AR.regK (by kernel_rfl) ?_
    refine LK.seg hG 4 [1, 2, 7, 56, 59] (t' := [(1, .sc (.int .i64 (i : Int))), (2, rs 1 ov 1 cv), (7, .sc (.int .i64 1)), (56, rs 0 0 n c), (59, .sc (.int .i64 (IntKind.i64.wrap ((n : Int) + 1))))]) (h' := [rawO 34 cur, exO (.cells cur2.toArray te2 fr2)]) (by kernel_rfl) rfl ?_
    rw [hw1]
    refine LK.op [1, 2, 7, 60] (t' := [(1, .sc (.int .i64 (i : Int))), (2, rs 1 ov 1 cv), (7, .sc (.int .i64 1)), (60, rs 0 0 (n + 1) c)]) (h' := [rawO 34 cur, exO (.cells cur2.toArray te2 fr2)]) (LSpec.sliceRaw hG (ty := 22) (e := 34) (x := .tmp 56) (lo := none) (hi := some (.tmp 59)) (o := 0) (off := 0) (len := n) (c := c) (0) (n + 1) 32 (by kernel_rfl) (by kernel_rfl) (by kernel_rfl) (by kernel_rfl) (by kernel_rfl) (rfl) (⟨.i64, by kernel_rfl⟩) (by omega) (by omega) (.inr rfl)) (by kernel_rfl) rfl ?_
    refine LK.seg hG 1 [0, 1, 2, 7] (t' := [(0, rs 0 0 (n + 1) c), (1, .sc (.int .i64 (i : Int))), (2, rs 1 ov 1 cv), (7, .sc (.int .i64 1))]) (h' := [rawO 34 cur, exO (.cells cur2.toArray te2 fr2)]) (by kernel_rfl) rfl ?_
    refine LK.done (by kernel_rfl) ?_
    refine AR.seg hG hm 2 [0, 1, 2, 7] (k' := [.code [1, 1, 1, 1, 1, 1, 1, 1, 0, 0], .code [1, 1, 1, 1, 1, 1, 1, 1, 0, 1], .code [1, 1, 1, 1, 1, 1, 1, 1, 1]]) (t' := [(0, rs 0 0 (n + 1) c), (1, .sc (.int .i64 (i : Int))), (2, rs 1 ov 1 cv), (7, .sc (.int .i64 1))]) (h' := [rawO 34 cur, exO (.cells cur2.toArray te2 fr2)]) (by kernel_rfl) ?_
    refine AR.regK (by kernel_rfl) ?_
    refine LK.seg hG 5 [0, 1, 2, 7, 61, 62, 65] (t' := [(0, rs 0 0 (n + 1) c), (1, .sc (.int .i64 (i : Int))), (2, rs 1 ov 1 cv), (7, .sc (.int .i64 1)), (61, rs 1 ov 1 cv), (62, rs 0 0 (n + 1) c), (65, .sc (.int .i64 (IntKind.i64.wrap ((i : Int) + 1))))]) (h' := [rawO 34 cur, exO (.cells cur2.toArray te2 fr2)]) (by kernel_rfl) rfl ?_
    rw [hw2]
    refine LK.op [0, 1, 2, 7, 61, 66] (t' := [(0, rs 0 0 (n + 1) c), (1, .sc (.int .i64 (i : Int))), (2, rs 1 ov 1 cv), (7, .sc (.int .i64 1)), (61, rs 1 ov 1 cv), (66, rs 0 (0 + (i + 1) * 32) (n + 1 - (i + 1)) (c - (i + 1)))]) (h' := [rawO 34 cur, exO (.cells cur2.toArray te2 fr2)]) (LSpec.sliceRaw hG (ty := 22) (e := 34) (x := .tmp 62) (lo := some (.tmp 65)) (hi := none) (o := 0) (off := 0) (len := n + 1) (c := c) (i + 1) (n + 1) 32 (by kernel_rfl) (by kernel_rfl) (by kernel_rfl) (by kernel_rfl) (by kernel_rfl) (⟨.i64, by kernel_rfl⟩) (rfl) (by omega) (by omega) (by omega)) (by kernel_rfl) rfl ?_
    refine LK.op [0, 1, 2, 7, 67] (t' := [(0, rs 0 0 (n + 1) c), (1, .sc (.int .i64 (i : Int))), (2, rs 1 ov 1 cv), (7, .sc (.int .i64 1)), (67, .sc (.bool false))]) (h' := [rawO 34 cur, exO (.cells cur2.toArray te2 fr2)]) (LSpec.overlapsRaw hG (ts := #[22, 22]) (tR := 4) (tS := 22) (e := 34) (te := 34) (te2 := te2) (fc := .func 67) (x := .tmp 61) (y := .tmp 66) (o := 0) (off := 0 + (i + 1) * 32) (ln := n + 1 - (i + 1)) (cp := c - (i + 1)) (o2 := 1) (off2 := ov) (ln2 := 1) (cp2 := cv) (cur := cur) (cur2 := cur2) (fr2 := fr2) (by kernel_rfl) (by kernel_rfl) slices_Insert__api_Rule_over (by kernel_rfl) (by kernel_rfl) (by kernel_rfl) (by kernel_rfl) (by kernel_rfl) (by kernel_rfl) (by omega) (by omega)) (by kernel_rfl) rfl ?_
    refine LK.seg hG 1 [0, 1, 2, 7, 68] (t' := [(0, rs 0 0 (n + 1) c), (1, .sc (.int .i64 (i : Int))), (2, rs 1 ov 1 cv), (7, .sc (.int .i64 1)), (68, .sc (.bool true))]) (h' := [rawO 34 cur, exO (.cells cur2.toArray te2 fr2)]) (by kernel_rfl) rfl ?_
    refine LK.done (by kernel_rfl) ?_
    refine AR.cond (.tmp 68) true (by kernel_rfl) (by kernel_rfl) (fun _ => ?_) (fun hb => by cases hb)
    refine AR.seg hG hm 1 [0, 1, 2, 7] (k' := [.code [1, 1, 1, 1, 1, 1, 1, 1, 0, 1, 0, 0], .code [1, 1, 1, 1, 1, 1, 1, 1, 0, 1, 0, 1], .code [1, 1, 1, 1, 1, 1, 1, 1, 1]]) (t' := [(0, rs 0 0 (n + 1) c), (1, .sc (.int .i64 (i : Int))), (2, rs 1 ov 1 cv), (7, .sc (.int .i64 1))]) (h' := [rawO 34 cur, exO (.cells cur2.toArray te2 fr2)]) (by kernel_rfl) ?_
    refine AR.reg hm [.pure, .pure, .pure, .pure, .pure, .pure, .pure, .pure, .loud] (by kernel_rfl) ?_
    refine DK.seg hG 4 [0, 1, 2, 7, 69, 72] (t' := [(0, rs 0 0 (n + 1) c), (1, .sc (.int .i64 (i : Int))), (2, rs 1 ov 1 cv), (7, .sc (.int .i64 1)), (69, rs 0 0 (n + 1) c), (72, .sc (.int .i64 (IntKind.i64.wrap ((i : Int) + 1))))]) (h' := [rawO 34 cur, exO (.cells cur2.toArray te2 fr2)]) (by kernel_rfl) rfl ?_
    rw [hw2]
    refine DK.op' [0, 1, 2, 7, 73] (t' := [(0, rs 0 0 (n + 1) c), (1, .sc (.int .i64 (i : Int))), (2, rs 1 ov 1 cv), (7, .sc (.int .i64 1)), (73, rs 0 (0 + (i + 1) * 32) (n + 1 - (i + 1)) (c - (i + 1)))]) (h' := [rawO 34 cur, exO (.cells cur2.toArray te2 fr2)]) (LSpec.sliceRaw hG (ty := 22) (e := 34) (x := .tmp 69) (lo := some (.tmp 72)) (hi := none) (o := 0) (off := 0) (len := n + 1) (c := c) (i + 1) (n + 1) 32 (by kernel_rfl) (by kernel_rfl) (by kernel_rfl) (by kernel_rfl) (by kernel_rfl) (⟨.i64, by kernel_rfl⟩) (rfl) (by omega) (by omega) (by omega)) (by kernel_rfl) rfl (by kernel_rfl) rfl ?_
    refine DK.seg hG 2 [0, 1, 2, 7, 73, 74, 75] (t' := [(0, rs 0 0 (n + 1) c), (1, .sc (.int .i64 (i : Int))), (2, rs 1 ov 1 cv), (7, .sc (.int .i64 1)), (73, rs 0 (0 + (i + 1) * 32) (n + 1 - (i + 1)) (c - (i + 1))), (74, rs 0 0 (n + 1) c), (75, .sc (.int .i64 (i : Int)))]) (h' := [rawO 34 cur, exO (.cells cur2.toArray te2 fr2)]) (by kernel_rfl) rfl ?_
    refine DK.op' [0, 1, 2, 7, 73, 76] (t' := [(0, rs 0 0 (n + 1) c), (1, .sc (.int .i64 (i : Int))), (2, rs 1 ov 1 cv), (7, .sc (.int .i64 1)), (73, rs 0 (0 + (i + 1) * 32) (n + 1 - (i + 1)) (c - (i + 1))), (76, rs 0 (0 + i * 32) (n + 1 - i) (c - i))]) (h' := [rawO 34 cur, exO (.cells cur2.toArray te2 fr2)]) (LSpec.sliceRaw hG (ty := 22) (e := 34) (x := .tmp 74) (lo := some (.tmp 75)) (hi := none) (o := 0) (off := 0) (len := n + 1) (c := c) (i) (n + 1) 32 (by kernel_rfl) (by kernel_rfl) (by kernel_rfl) (by kernel_rfl) (by kernel_rfl) (⟨.i64, by kernel_rfl⟩) (rfl) (by omega) (by omega) (by omega)) (by kernel_rfl) rfl (by kernel_rfl) rfl ?_
    refine DK.op' [0, 1, 2] (t' := [(0, rs 0 0 (n + 1) c), (1, .sc (.int .i64 (i : Int))), (2, rs 1 ov 1 cv)]) (h' := [rawO 34 (cur.take (0 + (i + 1) * 32) ++ (cur.drop (0 + i * 32)).take ((n - i) * 32) ++ cur.drop (0 + (i + 1) * 32 + (n - i) * 32)), exO (.cells cur2.toArray te2 fr2)]) (LSpec.copyRaw hG (ty := 22) (ty2 := 22) (e := 34) (te := 34) (te2 := 34) (x := .tmp 73) (y := .tmp 76) (o := 0) (off := 0 + (i + 1) * 32) (dn := n + 1 - (i + 1)) (dc := c - (i + 1)) (o2 := 0) (off2 := 0 + i * 32) (sn := n + 1 - i) (sc := c - i) (k := n - i) (sz := 32) (cur := cur) (cur2 := cur) (fr2 := (0, 0)) (by kernel_rfl) (by kernel_rfl) (by kernel_rfl) (by kernel_rfl) (by kernel_rfl) (by kernel_rfl) (by kernel_rfl) (by kernel_rfl) (by omega) (by omega) (by omega) (by rw [Nat.zero_add]; exact hone)) (by kernel_rfl) (by kernel_rfl) (by kernel_rfl) rfl ?_
    refine DK.done (by kernel_rfl) (by kernel_rfl) ?_
    obtain ⟨L1, hL1⟩ : ∃ L1, cur.take (0 + (i + 1) * 32) ++ (cur.drop (0 + i * 32)).take ((n - i) * 32) ++ cur.drop (0 + (i + 1) * 32 + (n - i) * 32) = L1 := ⟨_, rfl⟩
    rw [hL1]
    have l1 : L1.length = c * 32 := by rw [← hL1, List.length_append, List.length_append, List.length_take, List.length_take, List.length_drop, List.length_drop]; omega
    refine AR.seg hG hm 1 [0, 1, 2] (k' := [.code [1, 1, 1, 1, 1, 1, 1, 1, 0, 1, 0, 1, 0], .code [1, 1, 1, 1, 1, 1, 1, 1, 0, 1, 0, 1, 1], .code [1, 1, 1, 1, 1, 1, 1, 1, 1]]) (t' := [(0, rs 0 0 (n + 1) c), (1, .sc (.int .i64 (i : Int))), (2, rs 1 ov 1 cv)]) (h' := [rawO 34 L1, exO (.cells cur2.toArray te2 fr2)]) (by kernel_rfl) ?_
    refine AR.regK (by kernel_rfl) ?_
    refine LK.seg hG 2 [0, 1, 2, 78, 79] (t' := [(0, rs 0 0 (n + 1) c), (1, .sc (.int .i64 (i : Int))), (2, rs 1 ov 1 cv), (78, rs 0 0 (n + 1) c), (79, .sc (.int .i64 (i : Int)))]) (h' := [rawO 34 L1, exO (.cells cur2.toArray te2 fr2)]) (by kernel_rfl) rfl ?_
    refine LK.op [0, 1, 2, 80] (t' := [(0, rs 0 0 (n + 1) c), (1, .sc (.int .i64 (i : Int))), (2, rs 1 ov 1 cv), (80, rs 0 (0 + i * 32) (n + 1 - i) (c - i))]) (h' := [rawO 34 L1, exO (.cells cur2.toArray te2 fr2)]) (LSpec.sliceRaw hG (ty := 22) (e := 34) (x := .tmp 78) (lo := some (.tmp 79)) (hi := none) (o := 0) (off := 0) (len := n + 1) (c := c) (i) (n + 1) 32 (by kernel_rfl) (by kernel_rfl) (by kernel_rfl) (by kernel_rfl) (by kernel_rfl) (⟨.i64, by kernel_rfl⟩) (rfl) (by omega) (by omega) (by omega)) (by kernel_rfl) rfl ?_
    refine LK.seg hG 1 [0, 1, 2, 80, 81] (t' := [(0, rs 0 0 (n + 1) c), (1, .sc (.int .i64 (i : Int))), (2, rs 1 ov 1 cv), (80, rs 0 (0 + i * 32) (n + 1 - i) (c - i)), (81, rs 1 ov 1 cv)]) (h' := [rawO 34 L1, exO (.cells cur2.toArray te2 fr2)]) (by kernel_rfl) rfl ?_
    refine LK.op [0] (t' := [(0, rs 0 0 (n + 1) c)]) (h' := [rawO 34 (L1.take (0 + i * 32) ++ (cur2.drop ov).take (1 * 32) ++ L1.drop (0 + i * 32 + 1 * 32)), exO (.cells cur2.toArray te2 fr2)]) (LSpec.copyRaw hG (ty := 22) (ty2 := 22) (e := 34) (te := 34) (te2 := te2) (x := .tmp 80) (y := .tmp 81) (o := 0) (off := 0 + i * 32) (dn := n + 1 - i) (dc := c - i) (o2 := 1) (off2 := ov) (sn := 1) (sc := cv) (k := 1) (sz := 32) (cur := L1) (cur2 := cur2) (fr2 := fr2) (by kernel_rfl) (by kernel_rfl) (by kernel_rfl) (by kernel_rfl) (by kernel_rfl) (by kernel_rfl) (by kernel_rfl) (by kernel_rfl) (by omega) (by omega) (by omega) (by rw [hx1]; exact hone2)) (by kernel_rfl) rfl ?_
    refine LK.done (by kernel_rfl) ?_
    refine AR.seg hG hm 2 [6] (k' := [.code [1, 1, 1, 1, 1, 1, 1, 1, 0, 1, 0, 1, 1, 1], .code [1, 1, 1, 1, 1, 1, 1, 1, 1]]) (t' := [(6, rs 0 0 (n + 1) c)]) (h' := [rawO 34 (L1.take (0 + i * 32) ++ (cur2.drop ov).take (1 * 32) ++ L1.drop (0 + i * 32 + 1 * 32)), exO (.cells cur2.toArray te2 fr2)]) (by kernel_rfl) ?_
    refine AR.post (fun e w hq => ⟨L1.take (0 + i * 32) ++ (cur2.drop ov).take (1 * 32) ++ L1.drop (0 + i * 32 + 1 * 32), ?_, hq⟩) (AR.ret hG Try.func50 (by kernel_rfl) 2 (by omega) (aas := [rs 0 0 (n + 1) c]) (bs := [rs 0 0 (n + 1) c]) (by kernel_rfl) (by kernel_rfl) (by kernel_rfl) (by kernel_rfl) (by kernel_rfl))
    have hs := splice_room cur ((cur2.drop ov).take 32) (i * 32) 32 ((n - i) * 32) (by omega) hx L1 (L1.take (0 + i * 32) ++ (cur2.drop ov).take (1 * 32) ++ L1.drop (0 + i * 32 + 1 * 32)) (by rw [← hL1, Nat.zero_add, Nat.zero_add, ei1]) (by rw [hx1, Nat.zero_add, Nat.one_mul])
    refine ⟨hle, hcm, ?_, ?_⟩
    · rw [hs.2, hcl]
    · rw [en1]; exact hs.1

end Go.Proofs.Ytadolbhmdimbkaa

set_option linter.unusedVariables false
set_option linter.unusedSimpArgs false
set_option maxRecDepth 100000
set_option maxHeartbeats 4000000
namespace Go.Proofs.Ytadolbhmdimbkaa
open Go.Sh
/-- one element put into a row of ours -/
theorem slices_Insert__api_Rule_contract (A : List Rule) (x : Rule) (i : Nat) (hi : i ≤ A.length) (f : Bool) (C : Ctx) (H : HRel tab.S C [.row 34 (List.map Rule.av A) 1000000 true]) (hfit : (A.length + 1) * 272 ≤ reach) (vals : Array Value)
    (hv : VRels tab.S C [.own 0 1000000, .sc (.int .i64 (i : Int)), .sl 34 [Rule.av x] f] vals.toList) :
    Calls Try.prog 50 vals C.w (Rp tab.S C (.own 0 1000001) [.row 34 (List.map Rule.av (A.take i ++ x :: A.drop i)) 1000001 true]) := by
  have hS2 : tab.S 34 = (32, 272) := by kernel_rfl
  by_cases hie : i = A.length
  · subst hie
    rw [List.take_length, List.drop_length]
    exact slices_Insert__api_Rule_end A x f C H hfit vals hv
  · have hlt : i < (List.map Rule.av A).length := by rw [List.length_map]; omega
    obtain ⟨g, n, cap, cur, b, off, cv, cur2, te, fr, v, q1, q2, q3, q4, q5, q6, q7, q8, q9, q10, q11, q12, q13, q14, q15, q16⟩ := insert_open (Nat.le_refl 1000000) H hv hlt
    rw [hS2] at q6 q8 q9 q10 q11
    rw [List.length_map] at q1
    have hmap : List.map Rule.av (A.take i ++ x :: A.drop i) = (List.map Rule.av A).take i ++ Rule.av x :: (List.map Rule.av A).drop i := by
      rw [List.map_append, List.map_cons, List.map_take, List.map_drop]
    rw [hmap]
    have hone := RelF.one _ _ q8
    have hncl : n * 32 ≤ cur.length := by rw [q6]; exact Nat.mul_le_mul_right _ q4
    have hmid := slices_Insert__api_Rule_mid n i cap off cv cur cur2 te fr ⟨C.w, [.blk g, .blk b], C.X⟩ rfl (by omega) q4 q5 q6 q10
      (fun u hu => hone u (by
        rw [Nat.sub_mul, ← List.drop_take] at hu
        exact List.mem_of_mem_drop hu))
      (fun u hu => RelV.one _ _ q11 u hu) (by rw [← q1]; exact hfit)
    refine (AR.start (G := tab) slices_Insert__api_Rule_F (fn := Try.f50) Try.func50 (by kernel_rfl) (by kernel_rfl) (Nat.le_of_ble_eq_true (by kernel_rfl)) (C := ⟨C.w, [.blk g, .blk b], C.X⟩) q15 q16 hmid).mono ?_
    intro en w hq
    exact insert_close q2 q3 H hS2 (by rw [List.length_map]; exact q1) (by omega) q8 hncl (by omega) q11 (by rw [List.length_take, List.length_drop]; omega) q12 (by rw [← q1]; exact hfit) hq
theorem slices_Insert__api_Rule_ent : Ent Try.prog 50 := ent_of Try.func50 (by kernel_rfl) (by kernel_rfl)
theorem slices_Insert__api_Rule_O (A : List Rule) (x : Rule) (j : Int) (A' : List Rule) (f : Bool) (hv : insO A j x = some A') (hfit : (A.length + [x].length) * 272 ≤ reach) (C : Ctx) (vals : Array Value) (H : HRel tab.S C [.row 34 (List.map Rule.av A) 1000000 true])
    (hq : VRels tab.S C (.own 0 1000000 :: [.sc (.int .i64 j), .sl 34 (List.map Rule.av [x]) f]) vals.toList) :
    Calls Try.prog 50 vals C.w (Rp tab.S C (.own 0 1000001) [.row 34 (List.map Rule.av A') 1000001 true]) := by
  obtain ⟨i, rfl, hi, rfl⟩ := insO_some hv
  exact slices_Insert__api_Rule_contract A x i hi f C H hfit vals hq

end Go.Proofs.Ytadolbhmdimbkaa

set_option linter.unusedVariables false
set_option linter.unusedSimpArgs false
set_option maxRecDepth 100000
set_option maxHeartbeats 4000000
namespace Go.Proofs.Ytadolbhmdimbkaa
open Go.Sh
/-! ### head.there: function 79 -/
noncomputable def head_there_F : Go.Sh.Fn := ⟨79, bodyOf Try.f79, 9⟩
def head_there_k0 : List Kd := [.pure, .pure, .pure, .pure, .pure, .pure, .pure]
def head_there (n : Int) : Bool :=
  ((decide (n ≥ 0)) && (decide (n < 12)))
theorem head_there_walk (n : Int) (r : Bool) (H : head_there n = r) :
    ACalls Try.prog tab.S 79 [.sc (.int .i64 n)] [] (.sc (.bool r)) [] := by
  have hG := tab_ok
  have hm := mixed
  refine ACalls.of_AR (G := tab) head_there_F (fn := Try.f79) Try.func79 (by kernel_rfl) (by kernel_rfl) (by kernel_rfl) (Nat.le_of_ble_eq_true (by kernel_rfl)) ?_
  intro c0 hc0
  replace hc0 : c0.m.length = 0 := hc0
  rw [head_there] at H
  refine AR.seg hG hm 3 [0] (k' := [.code [1, 0], .code [1, 1]]) (t' := [(0, .sc (.int .i64 n))]) (h' := []) (by kernel_rfl) ?_
  refine AR.reg hm head_there_k0 (by kernel_rfl) ?_
  refine DK.seg hG 3 [0, 5] (t' := [(0, .sc (.int .i64 n)), (5, .sc (.bool (decide (n ≥ 0))))]) (h' := []) (by kernel_rfl) rfl ?_
  refine DK.mux 5 (decide (n ≥ 0)) (j := 6) (h' := []) (by kernel_rfl) (fun z => [(8, .sc (.bool (z && (decide (n < 12)))))]) ?J1 (fun hb J => ?ht1) (fun hb J => ?hf1)
  case ht1 =>
    exact DK.seg hG 3 [8] (by kernel_rfl) rfl J
  case hf1 =>
    exact DK.seg hG 3 [8] (by kernel_rfl) rfl J
  refine DK.seg hG 1 [2] (t' := [(2, .sc (.bool ((decide (n ≥ 0)) && (decide (n < 12)))))]) (h' := []) (by kernel_rfl) rfl ?_
  refine DK.done (by kernel_rfl) (by kernel_rfl) ?_
  subst H
  exact AR.ret0 (fn := Try.f79) hG Try.func79 (by kernel_rfl) hc0 (r0 := .sc (.bool ((decide (n ≥ 0)) && (decide (n < 12))))) (by kernel_rfl) (WkV.refl _)
theorem head_there_calls (n : Int) : ACalls Try.prog tab.S 79 [.sc (.int .i64 n)] [] (.sc (.bool (head_there n))) [] := head_there_walk n _ rfl

/-! ### head.fields: function 81 -/
noncomputable def head_fields_F : Go.Sh.Fn := ⟨81, bodyOf Try.f81, 14⟩
def head_fields : (List Field) :=
  [({ name := (ByteArray.mk #[105, 110]), size := 16 } : Field), ({ name := (ByteArray.mk #[101, 115, 114, 99]), size := 48 } : Field), ({ name := (ByteArray.mk #[101, 100, 115, 116]), size := 48 } : Field), ({ name := (ByteArray.mk #[101, 116, 121, 112, 101]), size := 16 } : Field), ({ name := (ByteArray.mk #[118, 108, 97, 110]), size := 12 } : Field), ({ name := (ByteArray.mk #[112, 99, 112]), size := 4 } : Field), ({ name := (ByteArray.mk #[115, 114, 99]), size := 32 } : Field), ({ name := (ByteArray.mk #[100, 115, 116]), size := 32 } : Field), ({ name := (ByteArray.mk #[112, 114, 111, 116, 111]), size := 8 } : Field), ({ name := (ByteArray.mk #[116, 111, 115]), size := 8 } : Field), ({ name := (ByteArray.mk #[115, 112, 111, 114, 116]), size := 12 } : Field), ({ name := (ByteArray.mk #[100, 112, 111, 114, 116]), size := 12 } : Field)]
theorem head_fields_walk (r : (List Field)) (H : head_fields = r) :
    ACalls Try.prog tab.S 81 [] [] (.agg (List.flatMap Field.ch r)) [] := by
  have hG := tab_ok
  have hm := mixed
  refine ACalls.of_AR (G := tab) head_fields_F (fn := Try.f81) Try.func81 (by kernel_rfl) (by kernel_rfl) (by kernel_rfl) (Nat.le_of_ble_eq_true (by kernel_rfl)) ?_
  intro c0 hc0
  replace hc0 : c0.m.length = 0 := hc0
  rw [head_fields] at H
  refine AR.seg hG hm 4 [0] (k' := [.code [1, 1]]) (t' := [(0, .ptr 0 0 none)]) (h' := [.box 88 (List.flatMap Field.ch [({ name := (ByteArray.mk #[105, 110]), size := 16 } : Field), ({ name := (ByteArray.mk #[101, 115, 114, 99]), size := 48 } : Field), ({ name := (ByteArray.mk #[101, 100, 115, 116]), size := 48 } : Field), ({ name := (ByteArray.mk #[101, 116, 121, 112, 101]), size := 16 } : Field), ({ name := (ByteArray.mk #[118, 108, 97, 110]), size := 12 } : Field), ({ name := (ByteArray.mk #[112, 99, 112]), size := 4 } : Field), ({ name := (ByteArray.mk #[115, 114, 99]), size := 32 } : Field), ({ name := (ByteArray.mk #[100, 115, 116]), size := 32 } : Field), ({ name := (ByteArray.mk #[112, 114, 111, 116, 111]), size := 8 } : Field), ({ name := (ByteArray.mk #[116, 111, 115]), size := 8 } : Field), ({ name := (ByteArray.mk #[115, 112, 111, 114, 116]), size := 12 } : Field), ({ name := (ByteArray.mk #[100, 112, 111, 114, 116]), size := 12 } : Field)])]) (by kernel_rfl) ?_
  subst H
  exact AR.ret0 (fn := Try.f81) hG Try.func81 (by kernel_rfl) hc0 (r0 := .agg (List.flatMap Field.ch [({ name := (ByteArray.mk #[105, 110]), size := 16 } : Field), ({ name := (ByteArray.mk #[101, 115, 114, 99]), size := 48 } : Field), ({ name := (ByteArray.mk #[101, 100, 115, 116]), size := 48 } : Field), ({ name := (ByteArray.mk #[101, 116, 121, 112, 101]), size := 16 } : Field), ({ name := (ByteArray.mk #[118, 108, 97, 110]), size := 12 } : Field), ({ name := (ByteArray.mk #[112, 99, 112]), size := 4 } : Field), ({ name := (ByteArray.mk #[115, 114, 99]), size := 32 } : Field), ({ name := (ByteArray.mk #[100, 115, 116]), size := 32 } : Field), ({ name := (ByteArray.mk #[112, 114, 111, 116, 111]), size := 8 } : Field), ({ name := (ByteArray.mk #[116, 111, 115]), size := 8 } : Field), ({ name := (ByteArray.mk #[115, 112, 111, 114, 116]), size := 12 } : Field), ({ name := (ByteArray.mk #[100, 112, 111, 114, 116]), size := 12 } : Field)])) (by kernel_rfl) (WkV.refl _)
theorem head_fields_calls : ACalls Try.prog tab.S 81 [] [] (.agg (List.flatMap Field.ch (head_fields))) [] := head_fields_walk _ rfl

/-! ### head.Size: function 76 -/
noncomputable def head_Size_F : Go.Sh.Fn := ⟨76, bodyOf Try.f76, 10⟩
def head_Size_k1 : List Kd := [.pure, .pure, .pure, .pure, .pure]
def head_Size_k0 : List Kd := [.pure, .pure, .pure]
def head_Size_raw (n : Int) : Option (Int) :=
  (bif (!(head_there n)) then
    some 0
  else
    (ixO head_fields n).bind fun x =>
    some x.size)
theorem head_Size_walk (n : Int) (r : Int) (H : head_Size_raw n = some r) :
    ACalls Try.prog tab.S 76 [.sc (.int .i64 n)] [] (.sc (.int .i64 r)) [] := by
  have hG := tab_ok
  have hm := mixed
  refine ACalls.of_AR (G := tab) head_Size_F (fn := Try.f76) Try.func76 (by kernel_rfl) (by kernel_rfl) (by kernel_rfl) (Nat.le_of_ble_eq_true (by kernel_rfl)) ?_
  intro c0 hc0
  replace hc0 : c0.m.length = 0 := hc0
  rw [head_Size_raw] at H
  refine AR.seg hG hm 4 [0] (k' := [.code [1, 0, 0], .code [1, 0, 1], .code [1, 1]]) (t' := [(0, .sc (.int .i64 n))]) (h' := []) (by kernel_rfl) ?_
  refine AR.reg hm head_Size_k0 (by kernel_rfl) ?_
  refine DK.seg hG 1 [0, 3] (t' := [(0, .sc (.int .i64 n)), (3, .sc (.int .i64 n))]) (h' := []) (by kernel_rfl) rfl ?_
  refine DK.op' [0, 4] (t' := [(0, .sc (.int .i64 n)), (4, .sc (.bool (head_there n)))]) (h' := []) (LSpec.callP' (head_there_calls n) (by kernel_rfl)) (by kernel_rfl) rfl (by kernel_rfl) rfl ?_
  refine DK.seg hG 1 [0, 5] (t' := [(0, .sc (.int .i64 n)), (5, .sc (.bool (!(head_there n))))]) (h' := []) (by kernel_rfl) rfl ?_
  refine DK.done (by kernel_rfl) (by kernel_rfl) ?_
  refine AR.cond (.tmp 5) (!(head_there n)) (by kernel_rfl) (by kernel_rfl) (fun hb => ?ht1) (fun hb => ?hf1)
  case ht1 =>
    replace H := cond_t hb H
    refine AR.seg hG hm 2 [2] (k' := [.code [1, 0, 1, 0, 1], .code [1, 1]]) (t' := [(2, .sc (.int .i64 0))]) (h' := []) (by kernel_rfl) ?_
    obtain rfl := Option.some.inj H
    exact AR.ret0 (fn := Try.f76) hG Try.func76 (by kernel_rfl) hc0 (r0 := .sc (.int .i64 0)) (by kernel_rfl) (WkV.refl _)
  case hf1 =>
    replace H := cond_f hb H
    refine AR.seg hG hm 2 [0] (k' := [.code [1, 1, 0], .code [1, 1, 1]]) (t' := [(0, .sc (.int .i64 n))]) (h' := []) (by kernel_rfl) ?_
    refine AR.reg hm head_Size_k1 (by kernel_rfl) ?_
    refine DK.op' [0, 6] (t' := [(0, .sc (.int .i64 n)), (6, .agg (List.flatMap Field.ch head_fields))]) (h' := []) (LSpec.callP' (head_fields_calls) (by kernel_rfl)) (by kernel_rfl) rfl (by kernel_rfl) rfl ?_
    refine DK.seg hG 1 [6, 7] (t' := [(6, .agg (List.flatMap Field.ch head_fields)), (7, .sc (.int .i64 n))]) (h' := []) (by kernel_rfl) rfl ?_
    obtain ⟨x, hv, H⟩ := Option.bind_eq_some_iff.1 H
    refine DK.op' [8] (t' := [(8, Field.av x)]) (h' := []) (LSpec.idxRows' hG (rv := Field.av x) head_fields Field.ch 2 (m := 12) hv (by kernel_rfl) (by kernel_rfl) (by kernel_rfl) (by kernel_rfl)) (by kernel_rfl) rfl (by kernel_rfl) rfl ?_
    refine DK.op' [9] (t' := [(9, .sc (.int .i64 x.size))]) (h' := []) (LSpec.field (r := .sc (.int .i64 x.size)) hG (by kernel_rfl)) (by kernel_rfl) rfl (by kernel_rfl) rfl ?_
    refine DK.seg hG 1 [2] (t' := [(2, .sc (.int .i64 x.size))]) (h' := []) (by kernel_rfl) rfl ?_
    refine DK.done (by kernel_rfl) (by kernel_rfl) ?_
    obtain rfl := Option.some.inj H
    exact AR.ret0 (fn := Try.f76) hG Try.func76 (by kernel_rfl) hc0 (r0 := .sc (.int .i64 x.size)) (by kernel_rfl) (WkV.refl _)

theorem head_Size_ok (n : Int) : ACalls Try.prog tab.S 76 [.sc (.int .i64 n)] [] (.sc (.int .i64 (sizeT n))) [] := by
  refine head_Size_walk n (sizeT n) ?_
  rw [head_Size_raw, head_there]
  rcases sizeT_cases n with ⟨h, e⟩ | ⟨h1, h2, k, rfl, hk, e⟩
  · rw [e]
    have : (decide (n ≥ 0) && decide (n < 12)) = false := by
      rw [Bool.and_eq_false_iff, decide_eq_false_iff_not, decide_eq_false_iff_not]; omega
    rw [this]
    rfl
  · rw [e, decide_eq_true h1, decide_eq_true h2]
    match k, hk with
    | 0, _ | 1, _ | 2, _ | 3, _ | 4, _ | 5, _ | 6, _ | 7, _ | 8, _ | 9, _ | 10, _ | 11, _ => rfl

/-! ### head.fits: function 69 -/
noncomputable def head_fits_F : Go.Sh.Fn := ⟨69, bodyOf Try.f69, 10⟩
def head_fits_k0 : List Kd := [.pure, .pure, .pure, .pure, .pure, .pure]
def head_fits_raw (n : Int) (v : Int) : Option (Bool) :=
  reqO (decide (0 ≤ (sizeT n))) (
  some ((Int.fdiv v (2 ^ (min ((sizeT n) : Int).toNat (IntKind.u64).bits))) == 0))
theorem head_fits_walk (n : Int) (v : Int) (r : Bool) (H : head_fits_raw n v = some r) :
    ACalls Try.prog tab.S 69 [.sc (.int .i64 n), .sc (.int .u64 v)] [] (.sc (.bool r)) [] := by
  have hG := tab_ok
  have hm := mixed
  refine ACalls.of_AR (G := tab) head_fits_F (fn := Try.f69) Try.func69 (by kernel_rfl) (by kernel_rfl) (by kernel_rfl) (Nat.le_of_ble_eq_true (by kernel_rfl)) ?_
  intro c0 hc0
  replace hc0 : c0.m.length = 0 := hc0
  rw [head_fits_raw] at H
  refine AR.seg hG hm 3 [0, 1] (k' := [.code [1, 0], .code [1, 1]]) (t' := [(0, .sc (.int .i64 n)), (1, .sc (.int .u64 v))]) (h' := []) (by kernel_rfl) ?_
  refine AR.reg hm head_fits_k0 (by kernel_rfl) ?_
  refine DK.seg hG 2 [5, 6] (t' := [(5, .sc (.int .u64 v)), (6, .sc (.int .i64 n))]) (h' := []) (by kernel_rfl) rfl ?_
  refine DK.op' [5, 7] (t' := [(5, .sc (.int .u64 v)), (7, .sc (.int .i64 (sizeT n)))]) (h' := []) (LSpec.callP' (head_Size_ok n) (by kernel_rfl)) (by kernel_rfl) rfl (by kernel_rfl) rfl ?_
  obtain ⟨hreq, H⟩ := reqO_some H
  refine DK.op' [8] (t' := [(8, .sc (.int .u64 (Int.fdiv v (2 ^ (min ((sizeT n) : Int).toNat (IntKind.u64).bits)))))]) (h' := []) (LSpec.shr (k := .u64) (a := v) (k' := .i64) (b := (sizeT n)) hreq (by kernel_rfl)) (by kernel_rfl) rfl (by kernel_rfl) rfl ?_
  refine DK.seg hG 2 [4] (t' := [(4, .sc (.bool ((Int.fdiv v (2 ^ (min ((sizeT n) : Int).toNat (IntKind.u64).bits))) == 0)))]) (h' := []) (by kernel_rfl) rfl ?_
  refine DK.done (by kernel_rfl) (by kernel_rfl) ?_
  obtain rfl := Option.some.inj H
  exact AR.ret0 (fn := Try.f69) hG Try.func69 (by kernel_rfl) hc0 (r0 := .sc (.bool ((Int.fdiv v (2 ^ (min ((sizeT n) : Int).toNat (IntKind.u64).bits))) == 0))) (by kernel_rfl) (WkV.refl _)

theorem fits_fdiv {n v : Int} : (Int.fdiv v (2 ^ (min (sizeT n).toNat (IntKind.u64).bits)) == 0) = (decide (0 ≤ v) && fitsT n v) := by
  have hs := sizeT_in n
  have hm : min (sizeT n).toNat (IntKind.u64).bits = (sizeT n).toNat := Nat.min_eq_left (by show _ ≤ 64; omega)
  rw [hm]
  have hp := pow_pos2 (sizeT n).toNat
  unfold fitsT
  rw [Bool.eq_iff_iff, Bool.and_eq_true, decide_eq_true_eq, decide_eq_true_eq, beq_iff_eq]
  rw [Int.fdiv_eq_ediv_of_nonneg _ (Int.le_of_lt hp)]
  constructor
  · intro h
    have h1 := Int.mul_ediv_add_emod v ((2 : Int) ^ (sizeT n).toNat)
    have h2 := Int.emod_nonneg v (Int.ne_of_gt hp)
    have h3 := Int.emod_lt_of_pos v hp
    rw [h, Int.mul_zero, Int.zero_add] at h1
    rw [h1] at h2 h3
    exact ⟨h2, h3⟩
  · intro h
    exact Int.ediv_eq_zero_of_lt h.1 h.2
def fitsH (n v : Int) : Bool := decide (0 ≤ v) && fitsT n v
theorem head_fits_ok (n v : Int) : ACalls Try.prog tab.S 69 [.sc (.int .i64 n), .sc (.int .u64 v)] [] (.sc (.bool (fitsH n v))) [] := by
  refine head_fits_walk n v _ ?_
  rw [head_fits_raw, reqO_eq (decide_eq_true (sizeT_in n).1), fits_fdiv]
  rfl

/-! ### head.Set: function 73 -/
noncomputable def head_Set_F : Go.Sh.Fn := ⟨73, bodyOf Try.f73, 23⟩
def head_Set_k2 : List Kd := [.pure, .pure, .pure, .loud]
def head_Set_k1 : List Kd := [.pure, .pure, .pure, .pure, .pure]
def head_Set_k0 : List Kd := [.pure, .pure, .pure, .pure]
def head_Set_raw (h1 : List Int) (n : Int) (v : Int) : Option ((List Int) × Int) :=
  (bif (!(head_there n)) then
    some ([0, 0, 0, 0, 0, 0, 0, 0, 0, 0, 0, 0], 1)
  else
    (bif (!(fitsH n v)) then
      some ([0, 0, 0, 0, 0, 0, 0, 0, 0, 0, 0, 0], 13)
    else
      reqO (decide (0 ≤ n) && decide (n < ((12 : Nat) : Int))) (
      some ((h1.set (n.toNat) v), 0))))
theorem head_Set_walk (h1 : List Int) (n : Int) (v : Int) (r : (List Int) × Int) (H : head_Set_raw h1 n v = some r) :
    ACalls Try.prog tab.S 73 [.arr .u64 12 h1, .sc (.int .i64 n), .sc (.int .u64 v)] [] (.tup [.arr .u64 12 r.1, .sc (.int .i64 r.2)]) [] := by
  have hG := tab_ok
  have hm := mixed
  refine ACalls.of_AR (G := tab) head_Set_F (fn := Try.f73) Try.func73 (by kernel_rfl) (by kernel_rfl) (by kernel_rfl) (Nat.le_of_ble_eq_true (by kernel_rfl)) ?_
  intro c0 hc0
  replace hc0 : c0.m.length = 0 := hc0
  rw [head_Set_raw] at H
  refine AR.seg hG hm 5 [1, 2, 3, 6] (k' := [.code [1, 0, 0, 0], .code [1, 0, 0, 1], .blk 0, .code [1, 1]]) (t' := [(1, .sc (.int .i64 n)), (2, .sc (.int .u64 v)), (3, .ptr 0 0 none), (6, .ptr 1 0 none)]) (h' := [.box 25 [.arr .u64 12 h1], .box 25 [.arr .u64 12 [0, 0, 0, 0, 0, 0, 0, 0, 0, 0, 0, 0]]]) (by kernel_rfl) ?_
  refine AR.reg hm head_Set_k0 (by kernel_rfl) ?_
  refine DK.seg hG 1 [1, 2, 3, 6, 9] (t' := [(1, .sc (.int .i64 n)), (2, .sc (.int .u64 v)), (3, .ptr 0 0 none), (6, .ptr 1 0 none), (9, .sc (.int .i64 n))]) (h' := [.box 25 [.arr .u64 12 h1], .box 25 [.arr .u64 12 [0, 0, 0, 0, 0, 0, 0, 0, 0, 0, 0, 0]]]) (by kernel_rfl) rfl ?_
  refine DK.op' [1, 2, 3, 6, 10] (t' := [(1, .sc (.int .i64 n)), (2, .sc (.int .u64 v)), (3, .ptr 0 0 none), (6, .ptr 1 0 none), (10, .sc (.bool (head_there n)))]) (h' := [.box 25 [.arr .u64 12 h1], .box 25 [.arr .u64 12 [0, 0, 0, 0, 0, 0, 0, 0, 0, 0, 0, 0]]]) (LSpec.callP' (head_there_calls n) (by kernel_rfl)) (by kernel_rfl) rfl (by kernel_rfl) rfl ?_
  refine DK.seg hG 2 [1, 2, 3, 6, 8] (t' := [(1, .sc (.int .i64 n)), (2, .sc (.int .u64 v)), (3, .ptr 0 0 none), (6, .ptr 1 0 none), (8, .sc (.bool (!(head_there n))))]) (h' := [.box 25 [.arr .u64 12 h1], .box 25 [.arr .u64 12 [0, 0, 0, 0, 0, 0, 0, 0, 0, 0, 0, 0]]]) (by kernel_rfl) rfl ?_
  refine DK.done (by kernel_rfl) (by kernel_rfl) ?_
  refine AR.cond (.tmp 8) (!(head_there n)) (by kernel_rfl) (by kernel_rfl) (fun hb => ?ht1) (fun hb => ?hf1)
  case ht1 =>
    replace H := cond_t hb H
    refine AR.seg hG hm 2 [6, 7] (k' := [.code [1, 0, 0, 1, 0, 1], .blk 0, .code [1, 1]]) (t' := [(6, .ptr 1 0 none), (7, .sc (.int .i64 1))]) (h' := [.box 25 [.arr .u64 12 h1], .box 25 [.arr .u64 12 [0, 0, 0, 0, 0, 0, 0, 0, 0, 0, 0, 0]]]) (by kernel_rfl) ?_
    obtain rfl := Option.some.inj H
    exact AR.ret0 (fn := Try.f73) hG Try.func73 (by kernel_rfl) hc0 (r0 := .tup [.arr .u64 12 [0, 0, 0, 0, 0, 0, 0, 0, 0, 0, 0, 0], .sc (.int .i64 1)]) (by kernel_rfl) (WkV.refl _)
  case hf1 =>
    replace H := cond_f hb H
    refine AR.seg hG hm 1 [1, 2, 3, 6] (k' := [.code [1, 0, 0, 1, 1, 0], .code [1, 0, 0, 1, 1, 1], .blk 0, .code [1, 1]]) (t' := [(1, .sc (.int .i64 n)), (2, .sc (.int .u64 v)), (3, .ptr 0 0 none), (6, .ptr 1 0 none)]) (h' := [.box 25 [.arr .u64 12 h1], .box 25 [.arr .u64 12 [0, 0, 0, 0, 0, 0, 0, 0, 0, 0, 0, 0]]]) (by kernel_rfl) ?_
    refine AR.reg hm head_Set_k1 (by kernel_rfl) ?_
    refine DK.seg hG 2 [1, 2, 3, 6, 14, 15] (t' := [(1, .sc (.int .i64 n)), (2, .sc (.int .u64 v)), (3, .ptr 0 0 none), (6, .ptr 1 0 none), (14, .sc (.int .i64 n)), (15, .sc (.int .u64 v))]) (h' := [.box 25 [.arr .u64 12 h1], .box 25 [.arr .u64 12 [0, 0, 0, 0, 0, 0, 0, 0, 0, 0, 0, 0]]]) (by kernel_rfl) rfl ?_
    refine DK.op' [1, 2, 3, 6, 16] (t' := [(1, .sc (.int .i64 n)), (2, .sc (.int .u64 v)), (3, .ptr 0 0 none), (6, .ptr 1 0 none), (16, .sc (.bool (fitsH n v)))]) (h' := [.box 25 [.arr .u64 12 h1], .box 25 [.arr .u64 12 [0, 0, 0, 0, 0, 0, 0, 0, 0, 0, 0, 0]]]) (LSpec.callP' (head_fits_ok n v) (by kernel_rfl)) (by kernel_rfl) rfl (by kernel_rfl) rfl ?_
    refine DK.seg hG 2 [1, 2, 3, 6, 13] (t' := [(1, .sc (.int .i64 n)), (2, .sc (.int .u64 v)), (3, .ptr 0 0 none), (6, .ptr 1 0 none), (13, .sc (.bool (!(fitsH n v))))]) (h' := [.box 25 [.arr .u64 12 h1], .box 25 [.arr .u64 12 [0, 0, 0, 0, 0, 0, 0, 0, 0, 0, 0, 0]]]) (by kernel_rfl) rfl ?_
    refine DK.done (by kernel_rfl) (by kernel_rfl) ?_
    refine AR.cond (.tmp 13) (!(fitsH n v)) (by kernel_rfl) (by kernel_rfl) (fun hb => ?ht2) (fun hb => ?hf2)
    case ht2 =>
      replace H := cond_t hb H
      refine AR.seg hG hm 2 [6, 7] (k' := [.code [1, 0, 0, 1, 1, 1, 0, 1], .blk 0, .code [1, 1]]) (t' := [(6, .ptr 1 0 none), (7, .sc (.int .i64 13))]) (h' := [.box 25 [.arr .u64 12 h1], .box 25 [.arr .u64 12 [0, 0, 0, 0, 0, 0, 0, 0, 0, 0, 0, 0]]]) (by kernel_rfl) ?_
      obtain rfl := Option.some.inj H
      exact AR.ret0 (fn := Try.f73) hG Try.func73 (by kernel_rfl) hc0 (r0 := .tup [.arr .u64 12 [0, 0, 0, 0, 0, 0, 0, 0, 0, 0, 0, 0], .sc (.int .i64 13)]) (by kernel_rfl) (WkV.refl _)
    case hf2 =>
      replace H := cond_f hb H
      refine AR.seg hG hm 3 [1, 2, 3, 6] (k' := [.code [1, 1, 0], .code [1, 1, 1]]) (t' := [(1, .sc (.int .i64 n)), (2, .sc (.int .u64 v)), (3, .ptr 0 0 none), (6, .ptr 1 0 none)]) (h' := [.box 25 [.arr .u64 12 h1], .box 25 [.arr .u64 12 [0, 0, 0, 0, 0, 0, 0, 0, 0, 0, 0, 0]]]) (by kernel_rfl) ?_
      refine AR.reg hm head_Set_k2 (by kernel_rfl) ?_
      refine DK.seg hG 2 [3, 6, 19, 20] (t' := [(3, .ptr 0 0 none), (6, .ptr 1 0 none), (19, .sc (.int .i64 n)), (20, .sc (.int .u64 v))]) (h' := [.box 25 [.arr .u64 12 h1], .box 25 [.arr .u64 12 [0, 0, 0, 0, 0, 0, 0, 0, 0, 0, 0, 0]]]) (by kernel_rfl) rfl ?_
      obtain ⟨hreq, H⟩ := reqO_some H
      refine DK.op' [3, 6, 20, 21] (t' := [(3, .ptr 0 0 none), (6, .ptr 1 0 none), (20, .sc (.int .u64 v)), (21, .ptr 0 0 (some (n.toNat, 12)))]) (h' := [.box 25 [.arr .u64 12 h1], .box 25 [.arr .u64 12 [0, 0, 0, 0, 0, 0, 0, 0, 0, 0, 0, 0]]]) (LSpec.idxPtr (o := 0) (off := 0) (m := 12) (j := n) hG hreq (by kernel_rfl)) (by kernel_rfl) rfl (by kernel_rfl) rfl ?_
      refine DK.seg hG 1 [3, 6] (t' := [(3, .ptr 0 0 none), (6, .ptr 1 0 none)]) (h' := [.box 25 [.arr .u64 12 (h1.set (n.toNat) v)], .box 25 [.arr .u64 12 [0, 0, 0, 0, 0, 0, 0, 0, 0, 0, 0, 0]]]) (by kernel_rfl) rfl ?_
      refine DK.done (by kernel_rfl) (by kernel_rfl) ?_
      refine AR.seg hG hm 2 [6, 7] (k' := [.code [1, 1, 1, 1]]) (t' := [(6, .ptr 1 0 none), (7, .sc (.int .i64 0))]) (h' := [.box 25 [.arr .u64 12 (h1.set (n.toNat) v)], .box 25 [.arr .u64 12 (h1.set (n.toNat) v)]]) (by kernel_rfl) ?_
      obtain rfl := Option.some.inj H
      exact AR.ret0 (fn := Try.f73) hG Try.func73 (by kernel_rfl) hc0 (r0 := .tup [.arr .u64 12 (h1.set (n.toNat) v), .sc (.int .i64 0)]) (by kernel_rfl) (WkV.refl _)

def setT_ (h : List Int) (n v : Int) : List Int × Int :=
  if head_there n then (if fitsH n v then (h.set n.toNat v, 0) else ([0, 0, 0, 0, 0, 0, 0, 0, 0, 0, 0, 0], 13)) else ([0, 0, 0, 0, 0, 0, 0, 0, 0, 0, 0, 0], 1)
theorem head_Set_ok (h : List Int) (n v : Int) : ACalls Try.prog tab.S 73 [.arr .u64 12 h, .sc (.int .i64 n), .sc (.int .u64 v)] [] (.tup [.arr .u64 12 (setT_ h n v).1, .sc (.int .i64 (setT_ h n v).2)]) [] := by
  refine head_Set_walk h n v (setT_ h n v) ?_
  rw [head_Set_raw]
  unfold setT_
  cases ht : head_there n
  · rfl
  · cases hf : fitsH n v
    · rfl
    · have hn : (decide (0 ≤ n) && decide (n < ((12 : Nat) : Int))) = true := ht
      simp only [Bool.not_true, cond_false, if_true]
      rw [reqO_eq hn]

/-! ### head.Sound: function 52 -/
noncomputable def head_Sound_F : Go.Sh.Fn := ⟨52, bodyOf Try.f52, 15⟩
def head_Sound_k1 : List Kd := [.pure, .pure, .pure, .pure]
def head_Sound_k0 : List Kd := [.pure, .pure, .pure, .pure]
def head_Sound_l0s (h1 : List Int) : Nat → Nat → Sum (Unit) (Bool)
  | 0, t6 =>
    (.inl ())
  | rest + 1, t6 =>
    (bif (!(fitsH ((t6 : Nat) : Int) (h1.getD t6 0))) then
      (.inr false)
    else
      head_Sound_l0s h1 rest (t6 + 1) )
theorem head_Sound_l0_walk (h1 : List Int) (r : Bool) (c0 : Ctx) (hc0 : c0.m.length = 0) (res : Sum (Unit) (Bool)) (J : ∀ w : Unit, res = .inl w → AR Try.prog tab head_Sound_F c0 (Rp tab.S c0 (.sc (.bool r)) []) [.code [1, 1]] [] [.box 25 [.arr .u64 12 h1]]) (Jr : ∀ w, res = .inr w → w = r) :
    ∀ (rest : Nat) (t6 : Nat) (hd : t6 + rest = 12) (H : head_Sound_l0s h1 rest t6 = res), AR Try.prog tab head_Sound_F c0 (Rp tab.S c0 (.sc (.bool r)) []) [.code [1, 0, 1, 0, 0], .loop [1, 0, 1, 0], .blk 0, .code [1, 1]] [(5, .arr .u64 12 h1), (6, .sc (.int .i64 ((t6 : Nat) : Int)))] [.box 25 [.arr .u64 12 h1]] := by
  have hG := tab_ok
  have hm := mixed
  intro rest
  induction rest with
  | zero =>
    intro t6 hd  H
    rw [head_Sound_l0s] at H
    have hc : (decide (((t6 : Nat) : Int) < 12)) = false := decide_eq_false (by omega)
    refine AR.seg hG hm 3 [5, 6, 7] (k' := [.code [1, 0, 1, 0, 0, 1, 0], .code [1, 0, 1, 0, 0, 1, 1], .loop [1, 0, 1, 0], .blk 0, .code [1, 1]]) (t' := [(5, .arr .u64 12 h1), (6, .sc (.int .i64 ((t6 : Nat) : Int))), (7, .sc (.bool (decide (((t6 : Nat) : Int) < 12))))]) (h' := [.box 25 [.arr .u64 12 h1]]) (by kernel_rfl) ?_
    refine AR.cond (.tmp 7) (decide (((t6 : Nat) : Int) < 12)) (by kernel_rfl) (by kernel_rfl) (fun hb => ?ht7) (fun hb => ?hf7)
    case ht7 => exact absurd (hb.symm.trans hc) (by decide)
    case hf7 =>
      refine AR.seg hG hm 1 [] (k' := [.code [1, 1]]) (t' := []) (h' := [.box 25 [.arr .u64 12 h1]]) (by kernel_rfl) ?_
      refine AR.keep [] (t' := []) (by kernel_rfl) ?_
      exact J () H.symm
  | succ rest ih =>
    intro t6 hd  H
    rw [head_Sound_l0s] at H
    have hlt_t6 : t6 < 12 := by omega
    have hc : (decide (((t6 : Nat) : Int) < 12)) = true := decide_eq_true (by omega)
    have hw : IntKind.i64.wrap (((t6 : Nat) : Int) + 1) = ((t6 + 1 : Nat) : Int) := wrapI_succ (by omega)
    refine AR.seg hG hm 3 [5, 6, 7] (k' := [.code [1, 0, 1, 0, 0, 1, 0], .code [1, 0, 1, 0, 0, 1, 1], .loop [1, 0, 1, 0], .blk 0, .code [1, 1]]) (t' := [(5, .arr .u64 12 h1), (6, .sc (.int .i64 ((t6 : Nat) : Int))), (7, .sc (.bool (decide (((t6 : Nat) : Int) < 12))))]) (h' := [.box 25 [.arr .u64 12 h1]]) (by kernel_rfl) ?_
    refine AR.cond (.tmp 7) (decide (((t6 : Nat) : Int) < 12)) (by kernel_rfl) (by kernel_rfl) (fun hb => ?ht8) (fun hb => ?hf8)
    case ht8 =>
      refine AR.seg hG hm 4 [5, 6] (k' := [.code [1, 0, 1, 0, 0, 1, 1, 0, 0, 0], .code [1, 0, 1, 0, 0, 1, 1, 0, 0, 1], .blk 1, .code [1, 0, 1, 0, 0, 1, 1, 1], .loop [1, 0, 1, 0], .blk 0, .code [1, 1]]) (t' := [(5, .arr .u64 12 h1), (6, .sc (.int .i64 ((t6 : Nat) : Int)))]) (h' := [.box 25 [.arr .u64 12 h1]]) (by kernel_rfl) ?_
      refine AR.reg hm head_Sound_k0 (by kernel_rfl) ?_
      refine DK.seg hG 1 [5, 6, 8] (t' := [(5, .arr .u64 12 h1), (6, .sc (.int .i64 ((t6 : Nat) : Int))), (8, .sc (.int .i64 ((t6 : Nat) : Int)))]) (h' := [.box 25 [.arr .u64 12 h1]]) (by kernel_rfl) rfl ?_
      have hreq := idx_in 12 hlt_t6 (by decide)
      refine DK.op' [5, 6, 8, 9] (t' := [(5, .arr .u64 12 h1), (6, .sc (.int .i64 ((t6 : Nat) : Int))), (8, .sc (.int .i64 ((t6 : Nat) : Int))), (9, .sc (.int .u64 (h1.getD t6 0)))]) (h' := [.box 25 [.arr .u64 12 h1]]) (LSpec.idxVal (k := .u64) (m := 12) (j := ((t6 : Nat) : Int)) (xs := h1) hG hreq (by kernel_rfl)) (by kernel_rfl) rfl (by kernel_rfl) rfl ?_
      refine DK.seg hG 2 [3, 4, 5, 6] (t' := [(3, .sc (.int .i64 ((t6 : Nat) : Int))), (4, .sc (.int .u64 (h1.getD t6 0))), (5, .arr .u64 12 h1), (6, .sc (.int .i64 ((t6 : Nat) : Int)))]) (h' := [.box 25 [.arr .u64 12 h1]]) (by kernel_rfl) rfl ?_
      refine DK.done (by kernel_rfl) (by kernel_rfl) ?_
      refine AR.seg hG hm 1 [3, 4, 5, 6] (k' := [.code [1, 0, 1, 0, 0, 1, 1, 0, 0, 1, 0], .code [1, 0, 1, 0, 0, 1, 1, 0, 0, 1, 1], .blk 1, .code [1, 0, 1, 0, 0, 1, 1, 1], .loop [1, 0, 1, 0], .blk 0, .code [1, 1]]) (t' := [(3, .sc (.int .i64 ((t6 : Nat) : Int))), (4, .sc (.int .u64 (h1.getD t6 0))), (5, .arr .u64 12 h1), (6, .sc (.int .i64 ((t6 : Nat) : Int)))]) (h' := [.box 25 [.arr .u64 12 h1]]) (by kernel_rfl) ?_
      refine AR.reg hm head_Sound_k1 (by kernel_rfl) ?_
      refine DK.seg hG 2 [5, 6, 10, 11] (t' := [(5, .arr .u64 12 h1), (6, .sc (.int .i64 ((t6 : Nat) : Int))), (10, .sc (.int .i64 ((t6 : Nat) : Int))), (11, .sc (.int .u64 (h1.getD t6 0)))]) (h' := [.box 25 [.arr .u64 12 h1]]) (by kernel_rfl) rfl ?_
      refine DK.op' [5, 6, 12] (t' := [(5, .arr .u64 12 h1), (6, .sc (.int .i64 ((t6 : Nat) : Int))), (12, .sc (.bool (fitsH ((t6 : Nat) : Int) (h1.getD t6 0))))]) (h' := [.box 25 [.arr .u64 12 h1]]) (LSpec.callP' (head_fits_ok ((t6 : Nat) : Int) (h1.getD t6 0)) (by kernel_rfl)) (by kernel_rfl) rfl (by kernel_rfl) rfl ?_
      refine DK.seg hG 1 [5, 6, 13] (t' := [(5, .arr .u64 12 h1), (6, .sc (.int .i64 ((t6 : Nat) : Int))), (13, .sc (.bool (!(fitsH ((t6 : Nat) : Int) (h1.getD t6 0)))))]) (h' := [.box 25 [.arr .u64 12 h1]]) (by kernel_rfl) rfl ?_
      refine DK.done (by kernel_rfl) (by kernel_rfl) ?_
      refine AR.cond (.tmp 13) (!(fitsH ((t6 : Nat) : Int) (h1.getD t6 0))) (by kernel_rfl) (by kernel_rfl) (fun hb => ?ht9) (fun hb => ?hf9)
      case ht9 =>
        replace H := cond_t hb H
        refine AR.seg hG hm 2 [2] (k' := [.code [1, 0, 1, 0, 0, 1, 1, 0, 0, 1, 1, 0, 1], .blk 1, .code [1, 0, 1, 0, 0, 1, 1, 1], .loop [1, 0, 1, 0], .blk 0, .code [1, 1]]) (t' := [(2, .sc (.bool false))]) (h' := [.box 25 [.arr .u64 12 h1]]) (by kernel_rfl) ?_
        subst H
        obtain rfl := Jr _ rfl
        exact AR.ret0 (fn := Try.f52) hG Try.func52 (by kernel_rfl) hc0 (r0 := .sc (.bool false)) (by kernel_rfl) (WkV.refl _)
      case hf9 =>
        replace H := cond_f hb H
        refine AR.seg hG hm 3 [5, 6] (k' := [.loop [1, 0, 1, 0], .blk 0, .code [1, 1]]) (t' := [(5, .arr .u64 12 h1), (6, .sc (.int .i64 (IntKind.i64.wrap (((t6 : Nat) : Int) + 1))))]) (h' := [.box 25 [.arr .u64 12 h1]]) (by kernel_rfl) ?_
        refine AR.keep [5, 6] (t' := [(5, .arr .u64 12 h1), (6, .sc (.int .i64 (IntKind.i64.wrap (((t6 : Nat) : Int) + 1))))]) (by kernel_rfl) ?_
        refine AR.loop_round ?_
        rw [hw]
        exact ih (t6 + 1) (by omega) H
    case hf8 => exact absurd (hc.symm.trans hb) (by decide)

def head_Sound (h1 : List Int) : Bool :=
  sumG (fun q => q) (head_Sound_l0s h1 12 0) fun v =>
  true
theorem head_Sound_walk (h1 : List Int) (r : Bool) (H : head_Sound h1 = r) :
    ACalls Try.prog tab.S 52 [.arr .u64 12 h1] [] (.sc (.bool r)) [] := by
  have hG := tab_ok
  have hm := mixed
  refine ACalls.of_AR (G := tab) head_Sound_F (fn := Try.f52) Try.func52 (by kernel_rfl) (by kernel_rfl) (by kernel_rfl) (Nat.le_of_ble_eq_true (by kernel_rfl)) ?_
  intro c0 hc0
  replace hc0 : c0.m.length = 0 := hc0
  rw [head_Sound] at H
  refine AR.seg hG hm 6 [5, 6] (k' := [.code [1, 0, 1, 0], .blk 0, .code [1, 1]]) (t' := [(5, .arr .u64 12 h1), (6, .sc (.int .i64 0))]) (h' := [.box 25 [.arr .u64 12 h1]]) (by kernel_rfl) ?_
  rcases sumG_eq H with ⟨v, hv, H⟩ | ⟨r1, hv, hr1⟩
  case inr =>
    refine AR.into (by kernel_rfl) ?_
    replace hr1 : r1 = r := hr1
    subst hr1
    exact head_Sound_l0_walk h1 _ c0 hc0 (.inr _) (fun _ e => by cases e) (fun _ e => (Sum.inr.inj e).symm) 12 0 rfl hv
  refine AR.into (by kernel_rfl) ?_
  refine head_Sound_l0_walk h1 r c0 hc0 (.inl v) (fun w e => ?_) (fun _ e => by cases e) 12 0 rfl hv
  have e := Sum.inl.inj e
  subst e
  refine AR.seg hG hm 2 [2] (k' := [.code [1, 1, 1]]) (t' := [(2, .sc (.bool true))]) (h' := [.box 25 [.arr .u64 12 h1]]) (by kernel_rfl) ?_
  subst H
  exact AR.ret0 (fn := Try.f52) hG Try.func52 (by kernel_rfl) hc0 (r0 := .sc (.bool true)) (by kernel_rfl) (WkV.refl _)
theorem head_Sound_calls (h1 : List Int) : ACalls Try.prog tab.S 52 [.arr .u64 12 h1] [] (.sc (.bool (head_Sound h1))) [] := head_Sound_walk h1 _ rfl

/-! ### cube.Sound: function 36 -/
noncomputable def cube_Sound_F : Go.Sh.Fn := ⟨36, bodyOf Try.f36, 23⟩
def cube_Sound_k2 : List Kd := [.pure, .pure, .pure, .pure, .read, .pure, .pure]
def cube_Sound_k1 : List Kd := [.pure, .pure, .pure, .pure]
def cube_Sound_k0 : List Kd := [.pure, .read, .pure, .pure]
def cube_Sound_l0s (c : Cube) : Nat → Nat → Sum (Unit) (Bool)
  | 0, t11 =>
    (.inl ())
  | rest + 1, t11 =>
    (bif ((IntKind.u64.wrap ((BitVec.ofInt 64 (c.Value.getD t11 0) &&& ~~~ (BitVec.ofInt 64 (c.Care.getD (t11) 0))).toNat)) != 0) then
      (.inr false)
    else
      cube_Sound_l0s c rest (t11 + 1) )
theorem cube_Sound_l0_walk (c : Cube) (r : Bool) (c0 : Ctx) (hc0 : c0.m.length = 0) (res : Sum (Unit) (Bool)) (J : ∀ w : Unit, res = .inl w → AR Try.prog tab cube_Sound_F c0 (Rp tab.S c0 (.sc (.bool r)) []) [.code [1, 1, 1]] [] [.box 31 (Cube.ch c)]) (Jr : ∀ w, res = .inr w → w = r) :
    ∀ (rest : Nat) (t11 : Nat) (hd : t11 + rest = 12) (H : cube_Sound_l0s c rest t11 = res), AR Try.prog tab cube_Sound_F c0 (Rp tab.S c0 (.sc (.bool r)) []) [.code [1, 1, 0, 1, 0, 0], .loop [1, 1, 0, 1, 0], .blk 0, .code [1, 1, 1]] [(1, .ptr 0 0 none), (10, .arr .u64 12 c.Value), (11, .sc (.int .i64 ((t11 : Nat) : Int)))] [.box 31 (Cube.ch c)] := by
  have hG := tab_ok
  have hm := mixed
  intro rest
  induction rest with
  | zero =>
    intro t11 hd  H
    rw [cube_Sound_l0s] at H
    have hc : (decide (((t11 : Nat) : Int) < 12)) = false := decide_eq_false (by omega)
    refine AR.seg hG hm 3 [1, 10, 11, 12] (k' := [.code [1, 1, 0, 1, 0, 0, 1, 0], .code [1, 1, 0, 1, 0, 0, 1, 1], .loop [1, 1, 0, 1, 0], .blk 0, .code [1, 1, 1]]) (t' := [(1, .ptr 0 0 none), (10, .arr .u64 12 c.Value), (11, .sc (.int .i64 ((t11 : Nat) : Int))), (12, .sc (.bool (decide (((t11 : Nat) : Int) < 12))))]) (h' := [.box 31 (Cube.ch c)]) (by kernel_rfl) ?_
    refine AR.cond (.tmp 12) (decide (((t11 : Nat) : Int) < 12)) (by kernel_rfl) (by kernel_rfl) (fun hb => ?ht8) (fun hb => ?hf8)
    case ht8 => exact absurd (hb.symm.trans hc) (by decide)
    case hf8 =>
      refine AR.seg hG hm 1 [] (k' := [.code [1, 1, 1]]) (t' := []) (h' := [.box 31 (Cube.ch c)]) (by kernel_rfl) ?_
      refine AR.keep [] (t' := []) (by kernel_rfl) ?_
      exact J () H.symm
  | succ rest ih =>
    intro t11 hd  H
    rw [cube_Sound_l0s] at H
    have hlt_t11 : t11 < 12 := by omega
    have hc : (decide (((t11 : Nat) : Int) < 12)) = true := decide_eq_true (by omega)
    have hw : IntKind.i64.wrap (((t11 : Nat) : Int) + 1) = ((t11 + 1 : Nat) : Int) := wrapI_succ (by omega)
    refine AR.seg hG hm 3 [1, 10, 11, 12] (k' := [.code [1, 1, 0, 1, 0, 0, 1, 0], .code [1, 1, 0, 1, 0, 0, 1, 1], .loop [1, 1, 0, 1, 0], .blk 0, .code [1, 1, 1]]) (t' := [(1, .ptr 0 0 none), (10, .arr .u64 12 c.Value), (11, .sc (.int .i64 ((t11 : Nat) : Int))), (12, .sc (.bool (decide (((t11 : Nat) : Int) < 12))))]) (h' := [.box 31 (Cube.ch c)]) (by kernel_rfl) ?_
    refine AR.cond (.tmp 12) (decide (((t11 : Nat) : Int) < 12)) (by kernel_rfl) (by kernel_rfl) (fun hb => ?ht9) (fun hb => ?hf9)
    case ht9 =>
      refine AR.seg hG hm 4 [1, 10, 11] (k' := [.code [1, 1, 0, 1, 0, 0, 1, 1, 0, 0, 0], .code [1, 1, 0, 1, 0, 0, 1, 1, 0, 0, 1], .blk 1, .code [1, 1, 0, 1, 0, 0, 1, 1, 1], .loop [1, 1, 0, 1, 0], .blk 0, .code [1, 1, 1]]) (t' := [(1, .ptr 0 0 none), (10, .arr .u64 12 c.Value), (11, .sc (.int .i64 ((t11 : Nat) : Int)))]) (h' := [.box 31 (Cube.ch c)]) (by kernel_rfl) ?_
      refine AR.reg hm cube_Sound_k1 (by kernel_rfl) ?_
      refine DK.seg hG 1 [1, 10, 11, 13] (t' := [(1, .ptr 0 0 none), (10, .arr .u64 12 c.Value), (11, .sc (.int .i64 ((t11 : Nat) : Int))), (13, .sc (.int .i64 ((t11 : Nat) : Int)))]) (h' := [.box 31 (Cube.ch c)]) (by kernel_rfl) rfl ?_
      have hreq := idx_in 12 hlt_t11 (by decide)
      refine DK.op' [1, 10, 11, 13, 14] (t' := [(1, .ptr 0 0 none), (10, .arr .u64 12 c.Value), (11, .sc (.int .i64 ((t11 : Nat) : Int))), (13, .sc (.int .i64 ((t11 : Nat) : Int))), (14, .sc (.int .u64 (c.Value.getD t11 0)))]) (h' := [.box 31 (Cube.ch c)]) (LSpec.idxVal (k := .u64) (m := 12) (j := ((t11 : Nat) : Int)) (xs := c.Value) hG hreq (by kernel_rfl)) (by kernel_rfl) rfl (by kernel_rfl) rfl ?_
      refine DK.seg hG 2 [1, 3, 4, 10, 11] (t' := [(1, .ptr 0 0 none), (3, .sc (.int .i64 ((t11 : Nat) : Int))), (4, .sc (.int .u64 (c.Value.getD t11 0))), (10, .arr .u64 12 c.Value), (11, .sc (.int .i64 ((t11 : Nat) : Int)))]) (h' := [.box 31 (Cube.ch c)]) (by kernel_rfl) rfl ?_
      refine DK.done (by kernel_rfl) (by kernel_rfl) ?_
      refine AR.seg hG hm 1 [1, 3, 4, 10, 11] (k' := [.code [1, 1, 0, 1, 0, 0, 1, 1, 0, 0, 1, 0], .code [1, 1, 0, 1, 0, 0, 1, 1, 0, 0, 1, 1], .blk 1, .code [1, 1, 0, 1, 0, 0, 1, 1, 1], .loop [1, 1, 0, 1, 0], .blk 0, .code [1, 1, 1]]) (t' := [(1, .ptr 0 0 none), (3, .sc (.int .i64 ((t11 : Nat) : Int))), (4, .sc (.int .u64 (c.Value.getD t11 0))), (10, .arr .u64 12 c.Value), (11, .sc (.int .i64 ((t11 : Nat) : Int)))]) (h' := [.box 31 (Cube.ch c)]) (by kernel_rfl) ?_
      refine AR.reg hm cube_Sound_k2 (by kernel_rfl) ?_
      refine DK.seg hG 3 [1, 10, 11, 15, 16, 17] (t' := [(1, .ptr 0 0 none), (10, .arr .u64 12 c.Value), (11, .sc (.int .i64 ((t11 : Nat) : Int))), (15, .sc (.int .u64 (c.Value.getD t11 0))), (16, .sc (.int .i64 ((t11 : Nat) : Int))), (17, .ptr 0 12 none)]) (h' := [.box 31 (Cube.ch c)]) (by kernel_rfl) rfl ?_
      have hreq := idx_in 12 hlt_t11 (by decide)
      refine DK.op' [1, 10, 11, 15, 18] (t' := [(1, .ptr 0 0 none), (10, .arr .u64 12 c.Value), (11, .sc (.int .i64 ((t11 : Nat) : Int))), (15, .sc (.int .u64 (c.Value.getD t11 0))), (18, .ptr 0 12 (some (t11, 12)))]) (h' := [.box 31 (Cube.ch c)]) (LSpec.idxPtr (o := 0) (off := 12) (m := 12) (j := ((t11 : Nat) : Int)) hG hreq (by kernel_rfl)) (by kernel_rfl) rfl (by kernel_rfl) rfl ?_
      refine DK.seg hG 3 [1, 10, 11, 21] (t' := [(1, .ptr 0 0 none), (10, .arr .u64 12 c.Value), (11, .sc (.int .i64 ((t11 : Nat) : Int))), (21, .sc (.bool ((IntKind.u64.wrap ((BitVec.ofInt 64 (c.Value.getD t11 0) &&& ~~~ (BitVec.ofInt 64 (c.Care.getD (t11) 0))).toNat)) != 0)))]) (h' := [.box 31 (Cube.ch c)]) (by kernel_rfl) rfl ?_
      refine DK.done (by kernel_rfl) (by kernel_rfl) ?_
      refine AR.cond (.tmp 21) ((IntKind.u64.wrap ((BitVec.ofInt 64 (c.Value.getD t11 0) &&& ~~~ (BitVec.ofInt 64 (c.Care.getD (t11) 0))).toNat)) != 0) (by kernel_rfl) (by kernel_rfl) (fun hb => ?ht10) (fun hb => ?hf10)
      case ht10 =>
        replace H := cond_t hb H
        refine AR.seg hG hm 2 [2] (k' := [.code [1, 1, 0, 1, 0, 0, 1, 1, 0, 0, 1, 1, 0, 1], .blk 1, .code [1, 1, 0, 1, 0, 0, 1, 1, 1], .loop [1, 1, 0, 1, 0], .blk 0, .code [1, 1, 1]]) (t' := [(2, .sc (.bool false))]) (h' := [.box 31 (Cube.ch c)]) (by kernel_rfl) ?_
        subst H
        obtain rfl := Jr _ rfl
        exact AR.ret0 (fn := Try.f36) hG Try.func36 (by kernel_rfl) hc0 (r0 := .sc (.bool false)) (by kernel_rfl) (WkV.refl _)
      case hf10 =>
        replace H := cond_f hb H
        refine AR.seg hG hm 3 [1, 10, 11] (k' := [.loop [1, 1, 0, 1, 0], .blk 0, .code [1, 1, 1]]) (t' := [(1, .ptr 0 0 none), (10, .arr .u64 12 c.Value), (11, .sc (.int .i64 (IntKind.i64.wrap (((t11 : Nat) : Int) + 1))))]) (h' := [.box 31 (Cube.ch c)]) (by kernel_rfl) ?_
        refine AR.keep [1, 10, 11] (t' := [(1, .ptr 0 0 none), (10, .arr .u64 12 c.Value), (11, .sc (.int .i64 (IntKind.i64.wrap (((t11 : Nat) : Int) + 1))))]) (by kernel_rfl) ?_
        refine AR.loop_round ?_
        rw [hw]
        exact ih (t11 + 1) (by omega) H
    case hf9 => exact absurd (hc.symm.trans hb) (by decide)

def cube_Sound (c : Cube) : Bool :=
  (bif (!(head_Sound c.Care)) then
    false
  else
    sumG (fun q => q) (cube_Sound_l0s c 12 0) fun v =>
    true)
theorem cube_Sound_walk (c : Cube) (r : Bool) (H : cube_Sound c = r) :
    ACalls Try.prog tab.S 36 [Cube.av c] [] (.sc (.bool r)) [] := by
  have hG := tab_ok
  have hm := mixed
  refine ACalls.of_AR (G := tab) cube_Sound_F (fn := Try.f36) Try.func36 (by kernel_rfl) (by kernel_rfl) (by kernel_rfl) (Nat.le_of_ble_eq_true (by kernel_rfl)) ?_
  intro c0 hc0
  replace hc0 : c0.m.length = 0 := hc0
  rw [cube_Sound] at H
  refine AR.seg hG hm 4 [1] (k' := [.code [1, 0, 0], .code [1, 0, 1], .code [1, 1]]) (t' := [(1, .ptr 0 0 none)]) (h' := [.box 31 (Cube.ch c)]) (by kernel_rfl) ?_
  refine AR.reg hm cube_Sound_k0 (by kernel_rfl) ?_
  refine DK.seg hG 2 [1, 6] (t' := [(1, .ptr 0 0 none), (6, .arr .u64 12 c.Care)]) (h' := [.box 31 (Cube.ch c)]) (by kernel_rfl) rfl ?_
  refine DK.op' [1, 7] (t' := [(1, .ptr 0 0 none), (7, .sc (.bool (head_Sound c.Care)))]) (h' := [.box 31 (Cube.ch c)]) (LSpec.callP' (head_Sound_calls c.Care) (by kernel_rfl)) (by kernel_rfl) rfl (by kernel_rfl) rfl ?_
  refine DK.seg hG 1 [1, 8] (t' := [(1, .ptr 0 0 none), (8, .sc (.bool (!(head_Sound c.Care))))]) (h' := [.box 31 (Cube.ch c)]) (by kernel_rfl) rfl ?_
  refine DK.done (by kernel_rfl) (by kernel_rfl) ?_
  refine AR.cond (.tmp 8) (!(head_Sound c.Care)) (by kernel_rfl) (by kernel_rfl) (fun hb => ?ht1) (fun hb => ?hf1)
  case ht1 =>
    replace H := cond_t hb H
    refine AR.seg hG hm 2 [2] (k' := [.code [1, 0, 1, 0, 1], .code [1, 1]]) (t' := [(2, .sc (.bool false))]) (h' := [.box 31 (Cube.ch c)]) (by kernel_rfl) ?_
    subst H
    exact AR.ret0 (fn := Try.f36) hG Try.func36 (by kernel_rfl) hc0 (r0 := .sc (.bool false)) (by kernel_rfl) (WkV.refl _)
  case hf1 =>
    replace H := cond_f hb H
    refine AR.seg hG hm 5 [1, 10, 11] (k' := [.code [1, 1, 0, 1, 0], .blk 0, .code [1, 1, 1]]) (t' := [(1, .ptr 0 0 none), (10, .arr .u64 12 c.Value), (11, .sc (.int .i64 0))]) (h' := [.box 31 (Cube.ch c)]) (by kernel_rfl) ?_
    rcases sumG_eq H with ⟨v, hv, H⟩ | ⟨r1, hv, hr1⟩
    case inr =>
      refine AR.into (by kernel_rfl) ?_
      replace hr1 : r1 = r := hr1
      subst hr1
      exact cube_Sound_l0_walk c _ c0 hc0 (.inr _) (fun _ e => by cases e) (fun _ e => (Sum.inr.inj e).symm) 12 0 rfl hv
    refine AR.into (by kernel_rfl) ?_
    refine cube_Sound_l0_walk c r c0 hc0 (.inl v) (fun w e => ?_) (fun _ e => by cases e) 12 0 rfl hv
    have e := Sum.inl.inj e
    subst e
    refine AR.seg hG hm 2 [2] (k' := [.code [1, 1, 1, 1]]) (t' := [(2, .sc (.bool true))]) (h' := [.box 31 (Cube.ch c)]) (by kernel_rfl) ?_
    subst H
    exact AR.ret0 (fn := Try.f36) hG Try.func36 (by kernel_rfl) hc0 (r0 := .sc (.bool true)) (by kernel_rfl) (WkV.refl _)
theorem cube_Sound_calls (c : Cube) : ACalls Try.prog tab.S 36 [Cube.av c] [] (.sc (.bool (cube_Sound c))) [] := cube_Sound_walk c _ rfl

/-! ### act.sound: function 59 -/
noncomputable def act_sound_F : Go.Sh.Fn := ⟨59, bodyOf Try.f59, 48⟩
def act_sound_k0 : List Kd := [.pure, .read, .pure, .pure, .pure, .read, .pure, .pure, .pure, .pure, .read, .pure, .pure, .pure, .pure, .read, .pure, .pure, .pure]
def act_sound_k2 : List Kd := [.pure, .pure, .pure, .pure, .read, .pure, .pure, .pure]
def act_sound_k1 : List Kd := [.pure, .pure, .read, .pure, .read, .pure, .pure, .pure, .pure, .loud, .loud, .pure]
def act_sound_k3 : List Kd := [.read, .pure, .pure, .pure]
def act_sound (a : Act) : Bool :=
  (bif (a.Kind == 1) then
    ((((decide (a.Port ≥ 1)) && (decide (a.Port ≤ 16))) && (a.Field == 0)) && (a.Value == 0))
  else
    (bif (a.Kind == 2) then
      (((setT_ [0, 0, 0, 0, 0, 0, 0, 0, 0, 0, 0, 0] a.Field a.Value).2 == 0) && (a.Port == 0))
    else
      ((a.Kind == 3) && ((a.Port == 0) && ((a.Field == 0) && (a.Value == 0))))))
theorem act_sound_walk (a : Act) (r : Bool) (H : act_sound a = r) :
    ACalls Try.prog tab.S 59 [Act.av a] [] (.sc (.bool r)) [] := by
  have hG := tab_ok
  have hm := mixed
  refine ACalls.of_AR (G := tab) act_sound_F (fn := Try.f59) Try.func59 (by kernel_rfl) (by kernel_rfl) (by kernel_rfl) (Nat.le_of_ble_eq_true (by kernel_rfl)) ?_
  intro c0 hc0
  replace hc0 : c0.m.length = 0 := hc0
  rw [act_sound] at H
  refine AR.seg hG hm 8 [1, 6, 7] (k' := [.code [1, 0, 1, 0, 1], .blk 0, .code [1, 1]]) (t' := [(1, .ptr 0 0 none), (6, .sc (.int .i64 a.Kind)), (7, .sc (.bool (a.Kind == 1)))]) (h' := [.box 42 (Act.ch a)]) (by kernel_rfl) ?_
  refine AR.cond (.tmp 7) (a.Kind == 1) (by kernel_rfl) (by kernel_rfl) (fun hb => ?ht4) (fun hb => ?hf4)
  case ht4 =>
    replace H := cond_t hb H
    refine AR.seg hG hm 1 [1] (k' := [.code [1, 0, 1, 0, 1, 0, 0], .code [1, 0, 1, 0, 1, 0, 1], .blk 0, .code [1, 1]]) (t' := [(1, .ptr 0 0 none)]) (h' := [.box 42 (Act.ch a)]) (by kernel_rfl) ?_
    refine AR.reg hm act_sound_k0 (by kernel_rfl) ?_
    refine DK.seg hG 4 [1, 12] (t' := [(1, .ptr 0 0 none), (12, .sc (.bool (decide (a.Port ≥ 1))))]) (h' := [.box 42 (Act.ch a)]) (by kernel_rfl) rfl ?_
    refine DK.mux 12 (decide (a.Port ≥ 1)) (j := 8) (h' := [.box 42 (Act.ch a)]) (by kernel_rfl) (fun z => [(1, .ptr 0 0 none), (16, .sc (.bool (z && (decide (a.Port ≤ 16)))))]) ?J5 (fun hb J => ?ht5) (fun hb J => ?hf5)
    case ht5 =>
      exact DK.seg hG 4 [1, 16] (by kernel_rfl) rfl J
    case hf5 =>
      exact DK.seg hG 4 [1, 16] (by kernel_rfl) rfl J
    refine DK.seg hG 1 [1, 17] (t' := [(1, .ptr 0 0 none), (17, .sc (.bool ((decide (a.Port ≥ 1)) && (decide (a.Port ≤ 16)))))]) (h' := [.box 42 (Act.ch a)]) (by kernel_rfl) rfl ?_
    refine DK.mux 17 ((decide (a.Port ≥ 1)) && (decide (a.Port ≤ 16))) (j := 13) (h' := [.box 42 (Act.ch a)]) (by kernel_rfl) (fun z => [(1, .ptr 0 0 none), (21, .sc (.bool (z && (a.Field == 0))))]) ?J6 (fun hb J => ?ht6) (fun hb J => ?hf6)
    case ht6 =>
      exact DK.seg hG 4 [1, 21] (by kernel_rfl) rfl J
    case hf6 =>
      exact DK.seg hG 4 [1, 21] (by kernel_rfl) rfl J
    refine DK.seg hG 1 [1, 22] (t' := [(1, .ptr 0 0 none), (22, .sc (.bool (((decide (a.Port ≥ 1)) && (decide (a.Port ≤ 16))) && (a.Field == 0))))]) (h' := [.box 42 (Act.ch a)]) (by kernel_rfl) rfl ?_
    refine DK.mux 22 (((decide (a.Port ≥ 1)) && (decide (a.Port ≤ 16))) && (a.Field == 0)) (j := 18) (h' := [.box 42 (Act.ch a)]) (by kernel_rfl) (fun z => [(26, .sc (.bool (z && (a.Value == 0))))]) ?J7 (fun hb J => ?ht7) (fun hb J => ?hf7)
    case ht7 =>
      exact DK.seg hG 4 [26] (by kernel_rfl) rfl J
    case hf7 =>
      exact DK.seg hG 4 [26] (by kernel_rfl) rfl J
    refine DK.seg hG 1 [2] (t' := [(2, .sc (.bool ((((decide (a.Port ≥ 1)) && (decide (a.Port ≤ 16))) && (a.Field == 0)) && (a.Value == 0))))]) (h' := [.box 42 (Act.ch a)]) (by kernel_rfl) rfl ?_
    refine DK.done (by kernel_rfl) (by kernel_rfl) ?_
    subst H
    exact AR.ret0 (fn := Try.f59) hG Try.func59 (by kernel_rfl) hc0 (r0 := .sc (.bool ((((decide (a.Port ≥ 1)) && (decide (a.Port ≤ 16))) && (a.Field == 0)) && (a.Value == 0)))) (by kernel_rfl) (WkV.refl _)
  case hf4 =>
    replace H := cond_f hb H
    refine AR.seg hG hm 2 [1, 27] (k' := [.code [1, 0, 1, 0, 1, 1, 1], .blk 0, .code [1, 1]]) (t' := [(1, .ptr 0 0 none), (27, .sc (.bool (a.Kind == 2)))]) (h' := [.box 42 (Act.ch a)]) (by kernel_rfl) ?_
    refine AR.cond (.tmp 27) (a.Kind == 2) (by kernel_rfl) (by kernel_rfl) (fun hb => ?ht9) (fun hb => ?hf9)
    case ht9 =>
      replace H := cond_t hb H
      refine AR.seg hG hm 1 [1] (k' := [.code [1, 0, 1, 0, 1, 1, 1, 0, 0], .code [1, 0, 1, 0, 1, 1, 1, 0, 1], .blk 0, .code [1, 1]]) (t' := [(1, .ptr 0 0 none)]) (h' := [.box 42 (Act.ch a)]) (by kernel_rfl) ?_
      refine AR.reg hm act_sound_k1 (by kernel_rfl) ?_
      refine DK.seg hG 5 [1, 30, 32, 34] (t' := [(1, .ptr 0 0 none), (30, .arr .u64 12 [0, 0, 0, 0, 0, 0, 0, 0, 0, 0, 0, 0]), (32, .sc (.int .i64 a.Field)), (34, .sc (.int .u64 a.Value))]) (h' := [.box 42 (Act.ch a)]) (by kernel_rfl) rfl ?_
      refine DK.op' [1, 35] (t' := [(1, .ptr 0 0 none), (35, .tup [.arr .u64 12 ((setT_ [0, 0, 0, 0, 0, 0, 0, 0, 0, 0, 0, 0] a.Field a.Value).1), .sc (.int .i64 ((setT_ [0, 0, 0, 0, 0, 0, 0, 0, 0, 0, 0, 0] a.Field a.Value).2))])]) (h' := [.box 42 (Act.ch a)]) (LSpec.callP' (head_Set_ok [0, 0, 0, 0, 0, 0, 0, 0, 0, 0, 0, 0] a.Field a.Value) (by kernel_rfl)) (by kernel_rfl) rfl (by kernel_rfl) rfl ?_
      refine DK.seg hG 6 [1, 4] (t' := [(1, .ptr 0 0 none), (4, .sc (.int .i64 ((setT_ [0, 0, 0, 0, 0, 0, 0, 0, 0, 0, 0, 0] a.Field a.Value).2)))]) (h' := [.box 42 (Act.ch a), .box 25 [.arr .u64 12 ((setT_ [0, 0, 0, 0, 0, 0, 0, 0, 0, 0, 0, 0] a.Field a.Value).1)]]) (by kernel_rfl) rfl ?_
      refine DK.done (by kernel_rfl) (by kernel_rfl) ?_
      refine AR.seg hG hm 1 [1, 4] (k' := [.code [1, 0, 1, 0, 1, 1, 1, 0, 1, 0], .code [1, 0, 1, 0, 1, 1, 1, 0, 1, 1], .blk 0, .code [1, 1]]) (t' := [(1, .ptr 0 0 none), (4, .sc (.int .i64 ((setT_ [0, 0, 0, 0, 0, 0, 0, 0, 0, 0, 0, 0] a.Field a.Value).2)))]) (h' := [.box 42 (Act.ch a), .box 25 [.arr .u64 12 ((setT_ [0, 0, 0, 0, 0, 0, 0, 0, 0, 0, 0, 0] a.Field a.Value).1)]]) (by kernel_rfl) ?_
      refine AR.reg hm act_sound_k2 (by kernel_rfl) ?_
      refine DK.seg hG 3 [1, 40] (t' := [(1, .ptr 0 0 none), (40, .sc (.bool ((setT_ [0, 0, 0, 0, 0, 0, 0, 0, 0, 0, 0, 0] a.Field a.Value).2 == 0)))]) (h' := [.box 42 (Act.ch a), .box 25 [.arr .u64 12 ((setT_ [0, 0, 0, 0, 0, 0, 0, 0, 0, 0, 0, 0] a.Field a.Value).1)]]) (by kernel_rfl) rfl ?_
      refine DK.mux 40 ((setT_ [0, 0, 0, 0, 0, 0, 0, 0, 0, 0, 0, 0] a.Field a.Value).2 == 0) (j := 7) (h' := [.box 42 (Act.ch a), .box 25 [.arr .u64 12 ((setT_ [0, 0, 0, 0, 0, 0, 0, 0, 0, 0, 0, 0] a.Field a.Value).1)]]) (by kernel_rfl) (fun z => [(44, .sc (.bool (z && (a.Port == 0))))]) ?J10 (fun hb J => ?ht10) (fun hb J => ?hf10)
      case ht10 =>
        exact DK.seg hG 4 [44] (by kernel_rfl) rfl J
      case hf10 =>
        exact DK.seg hG 4 [44] (by kernel_rfl) rfl J
      refine DK.seg hG 1 [2] (t' := [(2, .sc (.bool (((setT_ [0, 0, 0, 0, 0, 0, 0, 0, 0, 0, 0, 0] a.Field a.Value).2 == 0) && (a.Port == 0))))]) (h' := [.box 42 (Act.ch a), .box 25 [.arr .u64 12 ((setT_ [0, 0, 0, 0, 0, 0, 0, 0, 0, 0, 0, 0] a.Field a.Value).1)]]) (by kernel_rfl) rfl ?_
      refine DK.done (by kernel_rfl) (by kernel_rfl) ?_
      subst H
      exact AR.ret0 (fn := Try.f59) hG Try.func59 (by kernel_rfl) hc0 (r0 := .sc (.bool (((setT_ [0, 0, 0, 0, 0, 0, 0, 0, 0, 0, 0, 0] a.Field a.Value).2 == 0) && (a.Port == 0)))) (by kernel_rfl) (WkV.refl _)
    case hf9 =>
      replace H := cond_f hb H
      refine AR.seg hG hm 3 [1] (k' := [.code [1, 1, 0], .code [1, 1, 1]]) (t' := [(1, .ptr 0 0 none)]) (h' := [.box 42 (Act.ch a)]) (by kernel_rfl) ?_
      refine AR.reg hm act_sound_k3 (by kernel_rfl) ?_
      refine DK.seg hG 2 [45, 46] (t' := [(45, Act.av a), (46, .agg [.sc (.int .i64 3), .sc (.int .i64 0), .sc (.int .i64 0), .sc (.int .u64 0)])]) (h' := [.box 42 (Act.ch a)]) (by kernel_rfl) rfl ?_
      refine DK.op' [47] (t' := [(47, .sc (.bool ((a.Kind == 3) && ((a.Port == 0) && ((a.Field == 0) && (a.Value == 0))))))]) (h' := [.box 42 (Act.ch a)]) (LSpec.eq' 9 (r := ((a.Kind == 3) && ((a.Port == 0) && ((a.Field == 0) && (a.Value == 0))))) (by kernel_rfl)) (by kernel_rfl) rfl (by kernel_rfl) rfl ?_
      refine DK.seg hG 1 [2] (t' := [(2, .sc (.bool ((a.Kind == 3) && ((a.Port == 0) && ((a.Field == 0) && (a.Value == 0))))))]) (h' := [.box 42 (Act.ch a)]) (by kernel_rfl) rfl ?_
      refine DK.done (by kernel_rfl) (by kernel_rfl) ?_
      subst H
      exact AR.ret0 (fn := Try.f59) hG Try.func59 (by kernel_rfl) hc0 (r0 := .sc (.bool ((a.Kind == 3) && ((a.Port == 0) && ((a.Field == 0) && (a.Value == 0)))))) (by kernel_rfl) (WkV.refl _)
theorem act_sound_calls (a : Act) : ACalls Try.prog tab.S 59 [Act.av a] [] (.sc (.bool (act_sound a))) [] := act_sound_walk a _ rfl

/-! ### slices.IndexFunc: function 72 -/
noncomputable def slices_IndexFunc__api_Act_F : Go.Sh.Fn := ⟨72, bodyOf Try.f72, 19⟩
def slices_IndexFunc__api_Act_k0 : List Kd := [.pure, .pure, .pure, .pure, .pure, .pure]
def slices_IndexFunc__api_Act_l0s (f : Act → Bool) : List Act → Nat → Sum (Unit) (Int)
  | [], t8 =>
    (.inl ())
  | x :: rest, t8 =>
    (bif (f x) then
      (.inr ((t8 : Nat) : Int))
    else
      slices_IndexFunc__api_Act_l0s f rest (t8 + 1) )
theorem slices_IndexFunc__api_Act_l0_walk (s : List Act) (F_f : FuncId) (C_f : List AV) (f : Act → Bool) (P_f : plainL C_f = true) (O_f : C_f.all oneA = true) (H_f : ∀ (y0 : Act), ACalls Try.prog tab.S F_f ([Act.av y0] ++ C_f) [] (.sc (.bool (f y0))) []) (f_s : Bool) (r : Int) (c0 : Ctx) (hc0 : c0.m.length = 0) (res : Sum (Unit) (Int)) (J : ∀ w : Unit, res = .inl w → AR Try.prog tab slices_IndexFunc__api_Act_F c0 (Rp tab.S c0 (.sc (.int .i64 r)) []) [.code [1, 1]] [] []) (Jr : ∀ w, res = .inr w → w = r) :
    ∀ (rest : List Act) (t8 : Nat) (hd : s.drop t8 = rest) (H : slices_IndexFunc__api_Act_l0s f rest t8 = res), AR Try.prog tab slices_IndexFunc__api_Act_F c0 (Rp tab.S c0 (.sc (.int .i64 r)) []) [.code [1, 0, 1, 0, 0], .loop [1, 0, 1, 0], .blk 0, .code [1, 1]] [(0, .sl 42 (List.map Act.av s) f_s), (1, .fn F_f C_f), (7, .sc (.int .i64 (((List.map Act.av s).length : Nat) : Int))), (8, .sc (.int .i64 ((t8 : Nat) : Int)))] [] := by
  have hG := tab_ok
  have hm := mixed
  intro rest
  induction rest with
  | nil =>
    intro t8 hd  H
    rw [slices_IndexFunc__api_Act_l0s] at H
    refine AR.facts 0 rfl fun hf => ?_
    have hlen : s.length ≤ 9223372036854775807 := by have hq := len_ok hf.2.1; rw [List.length_map] at hq; exact hq
    have hge : s.length ≤ t8 := List.drop_eq_nil_iff.1 hd
    have hc : (decide (((t8 : Nat) : Int) < (((List.map Act.av s).length : Nat) : Int))) = false := by rw [List.length_map]; exact decide_eq_false (by omega)
    refine AR.seg hG hm 3 [0, 1, 7, 8, 9] (k' := [.code [1, 0, 1, 0, 0, 1, 0], .code [1, 0, 1, 0, 0, 1, 1], .loop [1, 0, 1, 0], .blk 0, .code [1, 1]]) (t' := [(0, .sl 42 (List.map Act.av s) f_s), (1, .fn F_f C_f), (7, .sc (.int .i64 (((List.map Act.av s).length : Nat) : Int))), (8, .sc (.int .i64 ((t8 : Nat) : Int))), (9, .sc (.bool (decide (((t8 : Nat) : Int) < (((List.map Act.av s).length : Nat) : Int)))))]) (h' := []) (by kernel_rfl) ?_
    refine AR.cond (.tmp 9) (decide (((t8 : Nat) : Int) < (((List.map Act.av s).length : Nat) : Int))) (by kernel_rfl) (by kernel_rfl) (fun hb => ?ht7) (fun hb => ?hf7)
    case ht7 => exact absurd (hb.symm.trans hc) (by decide)
    case hf7 =>
      refine AR.seg hG hm 1 [] (k' := [.code [1, 1]]) (t' := []) (h' := []) (by kernel_rfl) ?_
      refine AR.keep [] (t' := []) (by kernel_rfl) ?_
      exact J () H.symm
  | cons x rest ih =>
    intro t8 hd  H
    rw [slices_IndexFunc__api_Act_l0s] at H
    refine AR.facts 0 rfl fun hf => ?_
    have hlen : s.length ≤ 9223372036854775807 := by have hq := len_ok hf.2.1; rw [List.length_map] at hq; exact hq
    obtain ⟨hlt, hv_t8, hd2⟩ := drop_cons hd
    have hc : (decide (((t8 : Nat) : Int) < (((List.map Act.av s).length : Nat) : Int))) = true := by rw [List.length_map]; exact decide_eq_true (by omega)
    have hw : IntKind.i64.wrap (((t8 : Nat) : Int) + 1) = ((t8 + 1 : Nat) : Int) := wrapI_succ (by omega)
    refine AR.seg hG hm 3 [0, 1, 7, 8, 9] (k' := [.code [1, 0, 1, 0, 0, 1, 0], .code [1, 0, 1, 0, 0, 1, 1], .loop [1, 0, 1, 0], .blk 0, .code [1, 1]]) (t' := [(0, .sl 42 (List.map Act.av s) f_s), (1, .fn F_f C_f), (7, .sc (.int .i64 (((List.map Act.av s).length : Nat) : Int))), (8, .sc (.int .i64 ((t8 : Nat) : Int))), (9, .sc (.bool (decide (((t8 : Nat) : Int) < (((List.map Act.av s).length : Nat) : Int)))))]) (h' := []) (by kernel_rfl) ?_
    refine AR.cond (.tmp 9) (decide (((t8 : Nat) : Int) < (((List.map Act.av s).length : Nat) : Int))) (by kernel_rfl) (by kernel_rfl) (fun hb => ?ht8) (fun hb => ?hf8)
    case ht8 =>
      refine AR.seg hG hm 6 [0, 1, 5, 7, 8] (k' := [.code [1, 0, 1, 0, 0, 1, 1, 0, 0, 1, 0], .code [1, 0, 1, 0, 0, 1, 1, 0, 0, 1, 1], .blk 1, .code [1, 0, 1, 0, 0, 1, 1, 1], .loop [1, 0, 1, 0], .blk 0, .code [1, 1]]) (t' := [(0, .sl 42 (List.map Act.av s) f_s), (1, .fn F_f C_f), (5, .sc (.int .i64 ((t8 : Nat) : Int))), (7, .sc (.int .i64 (((List.map Act.av s).length : Nat) : Int))), (8, .sc (.int .i64 ((t8 : Nat) : Int)))]) (h' := []) (by kernel_rfl) ?_
      refine AR.reg hm slices_IndexFunc__api_Act_k0 (by kernel_rfl) ?_
      refine DK.seg hG 3 [0, 1, 5, 7, 8, 11, 12, 13] (t' := [(0, .sl 42 (List.map Act.av s) f_s), (1, .fn F_f C_f), (5, .sc (.int .i64 ((t8 : Nat) : Int))), (7, .sc (.int .i64 (((List.map Act.av s).length : Nat) : Int))), (8, .sc (.int .i64 ((t8 : Nat) : Int))), (11, .fn F_f C_f), (12, .sl 42 (List.map Act.av s) f_s), (13, .sc (.int .i64 ((t8 : Nat) : Int)))]) (h' := []) (by kernel_rfl) rfl ?_
      refine DK.op' [0, 1, 5, 7, 8, 11, 14] (t' := [(0, .sl 42 (List.map Act.av s) f_s), (1, .fn F_f C_f), (5, .sc (.int .i64 ((t8 : Nat) : Int))), (7, .sc (.int .i64 (((List.map Act.av s).length : Nat) : Int))), (8, .sc (.int .i64 ((t8 : Nat) : Int))), (11, .fn F_f C_f), (14, .ep [.sc (.int .i64 x.Kind), .sc (.int .i64 x.Port), .sc (.int .i64 x.Field), .sc (.int .u64 x.Value)] 0 none)]) (h' := []) (LSpec.index' (r := Act.av x) (fs := [.sc (.int .i64 x.Kind), .sc (.int .i64 x.Port), .sc (.int .i64 x.Field), .sc (.int .u64 x.Value)]) hG (rows := List.map Act.av s) (j := ((t8 : Nat) : Int)) (by kernel_rfl) (ixO_map hv_t8 _) (by kernel_rfl)) (by kernel_rfl) rfl (by kernel_rfl) rfl ?_
      refine DK.seg hG 1 [0, 1, 5, 7, 8, 11, 15] (t' := [(0, .sl 42 (List.map Act.av s) f_s), (1, .fn F_f C_f), (5, .sc (.int .i64 ((t8 : Nat) : Int))), (7, .sc (.int .i64 (((List.map Act.av s).length : Nat) : Int))), (8, .sc (.int .i64 ((t8 : Nat) : Int))), (11, .fn F_f C_f), (15, Act.av x)]) (h' := []) (by kernel_rfl) rfl ?_
      refine DK.op' [0, 1, 5, 7, 8, 16] (t' := [(0, .sl 42 (List.map Act.av s) f_s), (1, .fn F_f C_f), (5, .sc (.int .i64 ((t8 : Nat) : Int))), (7, .sc (.int .i64 (((List.map Act.av s).length : Nat) : Int))), (8, .sc (.int .i64 ((t8 : Nat) : Int))), (16, .sc (.bool (f x)))]) (h' := []) (LSpec.callFP' (H_f x) (by kernel_rfl) P_f O_f) (by kernel_rfl) rfl (by kernel_rfl) rfl ?_
      refine DK.done (by kernel_rfl) (by kernel_rfl) ?_
      refine AR.cond (.tmp 16) (f x) (by kernel_rfl) (by kernel_rfl) (fun hb => ?ht9) (fun hb => ?hf9)
      case ht9 =>
        replace H := cond_t hb H
        refine AR.seg hG hm 2 [4] (k' := [.code [1, 0, 1, 0, 0, 1, 1, 0, 0, 1, 1, 0, 1], .blk 1, .code [1, 0, 1, 0, 0, 1, 1, 1], .loop [1, 0, 1, 0], .blk 0, .code [1, 1]]) (t' := [(4, .sc (.int .i64 ((t8 : Nat) : Int)))]) (h' := []) (by kernel_rfl) ?_
        subst H
        obtain rfl := Jr _ rfl
        exact AR.ret0 (fn := Try.f72) hG Try.func72 (by kernel_rfl) hc0 (r0 := .sc (.int .i64 ((t8 : Nat) : Int))) (by kernel_rfl) (WkV.refl _)
      case hf9 =>
        replace H := cond_f hb H
        refine AR.seg hG hm 3 [0, 1, 7, 8] (k' := [.loop [1, 0, 1, 0], .blk 0, .code [1, 1]]) (t' := [(0, .sl 42 (List.map Act.av s) f_s), (1, .fn F_f C_f), (7, .sc (.int .i64 (((List.map Act.av s).length : Nat) : Int))), (8, .sc (.int .i64 (IntKind.i64.wrap (((t8 : Nat) : Int) + 1))))]) (h' := []) (by kernel_rfl) ?_
        refine AR.keep [0, 1, 7, 8] (t' := [(0, .sl 42 (List.map Act.av s) f_s), (1, .fn F_f C_f), (7, .sc (.int .i64 (((List.map Act.av s).length : Nat) : Int))), (8, .sc (.int .i64 (IntKind.i64.wrap (((t8 : Nat) : Int) + 1))))]) (by kernel_rfl) ?_
        refine AR.loop_round ?_
        rw [hw]
        exact ih (t8 + 1) hd2 H
    case hf8 => exact absurd (hc.symm.trans hb) (by decide)

def slices_IndexFunc__api_Act (s : List Act) (f : Act → Bool) : Int :=
  sumG (fun q => q) (slices_IndexFunc__api_Act_l0s f s 0) fun v =>
  (-1)
theorem slices_IndexFunc__api_Act_walk (s : List Act) (F_f : FuncId) (C_f : List AV) (f : Act → Bool) (P_f : plainL C_f = true) (O_f : C_f.all oneA = true) (H_f : ∀ (y0 : Act), ACalls Try.prog tab.S F_f ([Act.av y0] ++ C_f) [] (.sc (.bool (f y0))) []) (f_s : Bool) (r : Int) (H : slices_IndexFunc__api_Act s f = r) :
    ACalls Try.prog tab.S 72 [.sl 42 (List.map Act.av s) f_s, .fn F_f C_f] [] (.sc (.int .i64 r)) [] := by
  have hG := tab_ok
  have hm := mixed
  refine ACalls.of_AR (G := tab) slices_IndexFunc__api_Act_F (fn := Try.f72) Try.func72 (by kernel_rfl) (by kernel_rfl) (by kernel_rfl) (Nat.le_of_ble_eq_true (by kernel_rfl)) ?_
  intro c0 hc0
  replace hc0 : c0.m.length = 0 := hc0
  rw [slices_IndexFunc__api_Act] at H
  refine AR.seg hG hm 6 [0, 1, 7, 8] (k' := [.code [1, 0, 1, 0], .blk 0, .code [1, 1]]) (t' := [(0, .sl 42 (List.map Act.av s) f_s), (1, .fn F_f C_f), (7, .sc (.int .i64 (((List.map Act.av s).length : Nat) : Int))), (8, .sc (.int .i64 0))]) (h' := []) (by kernel_rfl) ?_
  rcases sumG_eq H with ⟨v, hv, H⟩ | ⟨r1, hv, hr1⟩
  case inr =>
    refine AR.into (by kernel_rfl) ?_
    replace hr1 : r1 = r := hr1
    subst hr1
    exact slices_IndexFunc__api_Act_l0_walk s F_f C_f f P_f O_f H_f f_s _ c0 hc0 (.inr _) (fun _ e => by cases e) (fun _ e => (Sum.inr.inj e).symm) s 0 rfl hv
  refine AR.into (by kernel_rfl) ?_
  refine slices_IndexFunc__api_Act_l0_walk s F_f C_f f P_f O_f H_f f_s r c0 hc0 (.inl v) (fun w e => ?_) (fun _ e => by cases e) s 0 rfl hv
  have e := Sum.inl.inj e
  subst e
  refine AR.seg hG hm 2 [4] (k' := [.code [1, 1, 1]]) (t' := [(4, .sc (.int .i64 (-1)))]) (h' := []) (by kernel_rfl) ?_
  subst H
  exact AR.ret0 (fn := Try.f72) hG Try.func72 (by kernel_rfl) hc0 (r0 := .sc (.int .i64 (-1))) (by kernel_rfl) (WkV.refl _)
theorem slices_IndexFunc__api_Act_calls (s : List Act) (F_f : FuncId) (C_f : List AV) (f : Act → Bool) (P_f : plainL C_f = true) (O_f : C_f.all oneA = true) (H_f : ∀ (y0 : Act), ACalls Try.prog tab.S F_f ([Act.av y0] ++ C_f) [] (.sc (.bool (f y0))) []) (f_s : Bool) : ACalls Try.prog tab.S 72 [.sl 42 (List.map Act.av s) f_s, .fn F_f C_f] [] (.sc (.int .i64 (slices_IndexFunc__api_Act s f))) [] := slices_IndexFunc__api_Act_walk s F_f C_f f P_f O_f H_f f_s _ rfl

theorem slices_IndexFunc__api_Act_l0s_eq (f : Act → Bool) : ∀ (l : List Act) (i : Nat), slices_IndexFunc__api_Act_l0s f l i = match l.findIdx? f with | some k => .inr ((i + k : Nat) : Int) | none => .inl ()
  | [], i => rfl
  | x :: l, i => by
      rw [slices_IndexFunc__api_Act_l0s, List.findIdx?_cons, slices_IndexFunc__api_Act_l0s_eq f l (i + 1)]
      cases f x
      · simp only [cond_false, Bool.false_eq_true, if_false]
        cases l.findIdx? f with
        | none => rfl
        | some k => simp only [Option.map_some]; rw [show i + 1 + k = i + (k + 1) by omega]
      · rfl
theorem slices_IndexFunc__api_Act_idx (s : List Act) (f : Act → Bool) : slices_IndexFunc__api_Act s f = idxF f s := by
  rw [slices_IndexFunc__api_Act, slices_IndexFunc__api_Act_l0s_eq]
  unfold idxF sumG
  cases s.findIdx? f with
  | none => rfl
  | some k => simp only [Nat.zero_add]

/-! ### slices.ContainsFunc: function 57 -/
noncomputable def slices_ContainsFunc__api_Act_F : Go.Sh.Fn := ⟨57, bodyOf Try.f57, 9⟩
def slices_ContainsFunc__api_Act_k0 : List Kd := [.pure, .pure, .read, .pure, .pure]
def slices_ContainsFunc__api_Act (s : List Act) (f : Act → Bool) : Bool :=
  (decide ((slices_IndexFunc__api_Act s f) ≥ 0))
theorem slices_ContainsFunc__api_Act_walk (s : List Act) (F_f : FuncId) (C_f : List AV) (f : Act → Bool) (P_f : plainL C_f = true) (O_f : C_f.all oneA = true) (H_f : ∀ (y0 : Act), ACalls Try.prog tab.S F_f ([Act.av y0] ++ C_f) [] (.sc (.bool (f y0))) []) (f_s : Bool) (r : Bool) (H : slices_ContainsFunc__api_Act s f = r) :
    ACalls Try.prog tab.S 57 [.sl 42 (List.map Act.av s) f_s, .fn F_f C_f] [] (.sc (.bool r)) [] := by
  have hG := tab_ok
  have hm := mixed
  refine ACalls.of_AR (G := tab) slices_ContainsFunc__api_Act_F (fn := Try.f57) Try.func57 (by kernel_rfl) (by kernel_rfl) (by kernel_rfl) (Nat.le_of_ble_eq_true (by kernel_rfl)) ?_
  intro c0 hc0
  replace hc0 : c0.m.length = 0 := hc0
  rw [slices_ContainsFunc__api_Act] at H
  refine AR.seg hG hm 3 [0, 1] (k' := [.code [1, 0], .code [1, 1]]) (t' := [(0, .sl 42 (List.map Act.av s) f_s), (1, .fn F_f C_f)]) (h' := []) (by kernel_rfl) ?_
  refine AR.reg hm slices_ContainsFunc__api_Act_k0 (by kernel_rfl) ?_
  refine DK.seg hG 2 [5, 6] (t' := [(5, .sl 42 (List.map Act.av s) f_s), (6, .fn F_f C_f)]) (h' := []) (by kernel_rfl) rfl ?_
  refine DK.op' [7] (t' := [(7, .sc (.int .i64 (slices_IndexFunc__api_Act s f)))]) (h' := []) (LSpec.callF' (caps := []) (slices_IndexFunc__api_Act_calls s F_f C_f f P_f O_f H_f f_s) (by kernel_rfl) (.same rfl (.fn (caps := C_f) (lendC_plain C_f P_f) .nil)) (by kernel_rfl) rfl rfl) (by kernel_rfl) rfl (by kernel_rfl) rfl ?_
  refine DK.seg hG 2 [4] (t' := [(4, .sc (.bool (decide ((slices_IndexFunc__api_Act s f) ≥ 0))))]) (h' := []) (by kernel_rfl) rfl ?_
  refine DK.done (by kernel_rfl) (by kernel_rfl) ?_
  subst H
  exact AR.ret0 (fn := Try.f57) hG Try.func57 (by kernel_rfl) hc0 (r0 := .sc (.bool (decide ((slices_IndexFunc__api_Act s f) ≥ 0)))) (by kernel_rfl) (WkV.refl _)
theorem slices_ContainsFunc__api_Act_calls (s : List Act) (F_f : FuncId) (C_f : List AV) (f : Act → Bool) (P_f : plainL C_f = true) (O_f : C_f.all oneA = true) (H_f : ∀ (y0 : Act), ACalls Try.prog tab.S F_f ([Act.av y0] ++ C_f) [] (.sc (.bool (f y0))) []) (f_s : Bool) : ACalls Try.prog tab.S 57 [.sl 42 (List.map Act.av s) f_s, .fn F_f C_f] [] (.sc (.bool (slices_ContainsFunc__api_Act s f))) [] := slices_ContainsFunc__api_Act_walk s F_f C_f f P_f O_f H_f f_s _ rfl

theorem slices_ContainsFunc__api_Act_any (s : List Act) (f : Act → Bool) : slices_ContainsFunc__api_Act s f = s.any f := by
  rw [slices_ContainsFunc__api_Act, slices_IndexFunc__api_Act_idx, idxF_any]

/-! ### act.Sound$1: function 58 -/
noncomputable def act_Sound_1_F : Go.Sh.Fn := ⟨58, bodyOf Try.f58, 6⟩
def act_Sound_1_k0 : List Kd := [.read, .pure, .pure, .pure]
def act_Sound_1 (a : Act) : Bool :=
  (!(act_sound a))
theorem act_Sound_1_walk (a : Act) (r : Bool) (H : act_Sound_1 a = r) :
    ACalls Try.prog tab.S 58 [Act.av a] [] (.sc (.bool r)) [] := by
  have hG := tab_ok
  have hm := mixed
  refine ACalls.of_AR (G := tab) act_Sound_1_F (fn := Try.f58) Try.func58 (by kernel_rfl) (by kernel_rfl) (by kernel_rfl) (Nat.le_of_ble_eq_true (by kernel_rfl)) ?_
  intro c0 hc0
  replace hc0 : c0.m.length = 0 := hc0
  rw [act_Sound_1] at H
  refine AR.seg hG hm 3 [1] (k' := [.code [1, 0], .code [1, 1]]) (t' := [(1, .ptr 0 0 none)]) (h' := [.box 42 (Act.ch a)]) (by kernel_rfl) ?_
  refine AR.reg hm act_Sound_1_k0 (by kernel_rfl) ?_
  refine DK.seg hG 1 [3] (t' := [(3, Act.av a)]) (h' := [.box 42 (Act.ch a)]) (by kernel_rfl) rfl ?_
  refine DK.op' [4] (t' := [(4, .sc (.bool (act_sound a)))]) (h' := [.box 42 (Act.ch a)]) (LSpec.callP' (act_sound_calls a) (by kernel_rfl)) (by kernel_rfl) rfl (by kernel_rfl) rfl ?_
  refine DK.seg hG 2 [2] (t' := [(2, .sc (.bool (!(act_sound a))))]) (h' := [.box 42 (Act.ch a)]) (by kernel_rfl) rfl ?_
  refine DK.done (by kernel_rfl) (by kernel_rfl) ?_
  subst H
  exact AR.ret0 (fn := Try.f58) hG Try.func58 (by kernel_rfl) hc0 (r0 := .sc (.bool (!(act_sound a)))) (by kernel_rfl) (WkV.refl _)
theorem act_Sound_1_calls (a : Act) : ACalls Try.prog tab.S 58 [Act.av a] [] (.sc (.bool (act_Sound_1 a))) [] := act_Sound_1_walk a _ rfl

/-! ### act.Sound: function 37 -/
noncomputable def act_Sound_F : Go.Sh.Fn := ⟨37, bodyOf Try.f37, 11⟩
def act_Sound_k0 : List Kd := [.pure, .pure, .pure, .pure, .pure, .read, .pure, .pure, .pure]
def act_Sound (list : List Act) : Bool :=
  ((decide ((((List.map Act.av list).length : Nat) : Int) ≤ 8)) && (!(slices_ContainsFunc__api_Act list act_Sound_1)))
theorem act_Sound_walk (list : List Act) (f_list : Bool) (r : Bool) (H : act_Sound list = r) :
    ACalls Try.prog tab.S 37 [.sl 42 (List.map Act.av list) f_list] [] (.sc (.bool r)) [] := by
  have hG := tab_ok
  have hm := mixed
  refine ACalls.of_AR (G := tab) act_Sound_F (fn := Try.f37) Try.func37 (by kernel_rfl) (by kernel_rfl) (by kernel_rfl) (Nat.le_of_ble_eq_true (by kernel_rfl)) ?_
  intro c0 hc0
  replace hc0 : c0.m.length = 0 := hc0
  rw [act_Sound] at H
  refine AR.seg hG hm 3 [0] (k' := [.code [1, 0], .code [1, 1]]) (t' := [(0, .sl 42 (List.map Act.av list) f_list)]) (h' := []) (by kernel_rfl) ?_
  refine AR.reg hm act_Sound_k0 (by kernel_rfl) ?_
  refine DK.seg hG 4 [0, 6] (t' := [(0, .sl 42 (List.map Act.av list) f_list), (6, .sc (.bool (decide ((((List.map Act.av list).length : Nat) : Int) ≤ 8))))]) (h' := []) (by kernel_rfl) rfl ?_
  refine DK.mux 6 (decide ((((List.map Act.av list).length : Nat) : Int) ≤ 8)) (j := 8) (h' := []) (by kernel_rfl) (fun z => [(10, .sc (.bool (z && (!(slices_ContainsFunc__api_Act list act_Sound_1)))))]) ?J1 (fun hb J => ?ht1) (fun hb J => ?hf1)
  case ht1 =>
    refine DK.seg hG 1 [6, 7] (t' := [(6, .sc (.bool true)), (7, .sl 42 (List.map Act.av list) f_list)]) (h' := []) (by kernel_rfl) rfl ?_
    refine DK.op' [6, 8] (t' := [(6, .sc (.bool true)), (8, .sc (.bool (slices_ContainsFunc__api_Act list act_Sound_1)))]) (h' := []) (LSpec.callF' (caps := []) (slices_ContainsFunc__api_Act_calls list 58 [] act_Sound_1 rfl rfl (fun y0 => act_Sound_1_calls y0) f_list) (by kernel_rfl) (.same rfl (.fn (caps := []) (by kernel_rfl) .nil)) (by kernel_rfl) rfl rfl) (by kernel_rfl) rfl (by kernel_rfl) rfl ?_
    exact DK.seg hG 2 [10] (by kernel_rfl) rfl J
  case hf1 =>
    exact DK.seg hG 4 [10] (by kernel_rfl) rfl J
  refine DK.seg hG 1 [2] (t' := [(2, .sc (.bool ((decide ((((List.map Act.av list).length : Nat) : Int) ≤ 8)) && (!(slices_ContainsFunc__api_Act list act_Sound_1)))))]) (h' := []) (by kernel_rfl) rfl ?_
  refine DK.done (by kernel_rfl) (by kernel_rfl) ?_
  subst H
  exact AR.ret0 (fn := Try.f37) hG Try.func37 (by kernel_rfl) hc0 (r0 := .sc (.bool ((decide ((((List.map Act.av list).length : Nat) : Int) ≤ 8)) && (!(slices_ContainsFunc__api_Act list act_Sound_1))))) (by kernel_rfl) (WkV.refl _)
theorem act_Sound_calls (list : List Act) (f_list : Bool) : ACalls Try.prog tab.S 37 [.sl 42 (List.map Act.av list) f_list] [] (.sc (.bool (act_Sound list))) [] := act_Sound_walk list f_list _ rfl

/-! ### rule.span: function 38 -/
noncomputable def rule_span_F : Go.Sh.Fn := ⟨38, bodyOf Try.f38, 12⟩
def rule_span_k0 : List Kd := [.pure, .pure, .pure, .pure, .pure, .pure, .pure, .pure]
def rule_span (n : Int) (most : Int) : Bool :=
  ((decide (n ≥ 0)) && (decide (n ≤ most)))
theorem rule_span_walk (n : Int) (most : Int) (r : Bool) (H : rule_span n most = r) :
    ACalls Try.prog tab.S 38 [.sc (.int .i64 n), .sc (.int .i64 most)] [] (.sc (.bool r)) [] := by
  have hG := tab_ok
  have hm := mixed
  refine ACalls.of_AR (G := tab) rule_span_F (fn := Try.f38) Try.func38 (by kernel_rfl) (by kernel_rfl) (by kernel_rfl) (Nat.le_of_ble_eq_true (by kernel_rfl)) ?_
  intro c0 hc0
  replace hc0 : c0.m.length = 0 := hc0
  rw [rule_span] at H
  refine AR.seg hG hm 3 [0, 1] (k' := [.code [1, 0], .code [1, 1]]) (t' := [(0, .sc (.int .i64 n)), (1, .sc (.int .i64 most))]) (h' := []) (by kernel_rfl) ?_
  refine AR.reg hm rule_span_k0 (by kernel_rfl) ?_
  refine DK.seg hG 3 [0, 1, 7] (t' := [(0, .sc (.int .i64 n)), (1, .sc (.int .i64 most)), (7, .sc (.bool (decide (n ≥ 0))))]) (h' := []) (by kernel_rfl) rfl ?_
  refine DK.mux 7 (decide (n ≥ 0)) (j := 7) (h' := []) (by kernel_rfl) (fun z => [(11, .sc (.bool (z && (decide (n ≤ most)))))]) ?J1 (fun hb J => ?ht1) (fun hb J => ?hf1)
  case ht1 =>
    exact DK.seg hG 4 [11] (by kernel_rfl) rfl J
  case hf1 =>
    exact DK.seg hG 4 [11] (by kernel_rfl) rfl J
  refine DK.seg hG 1 [4] (t' := [(4, .sc (.bool ((decide (n ≥ 0)) && (decide (n ≤ most)))))]) (h' := []) (by kernel_rfl) rfl ?_
  refine DK.done (by kernel_rfl) (by kernel_rfl) ?_
  subst H
  exact AR.ret0 (fn := Try.f38) hG Try.func38 (by kernel_rfl) hc0 (r0 := .sc (.bool ((decide (n ≥ 0)) && (decide (n ≤ most))))) (by kernel_rfl) (WkV.refl _)
theorem rule_span_calls (n : Int) (most : Int) : ACalls Try.prog tab.S 38 [.sc (.int .i64 n), .sc (.int .i64 most)] [] (.sc (.bool (rule_span n most))) [] := rule_span_walk n most _ rfl

/-! ### rule.Sound: function 16 -/
noncomputable def rule_Sound_F : Go.Sh.Fn := ⟨16, bodyOf Try.f16, 41⟩
def rule_Sound_k0 : List Kd := [.pure, .read, .pure, .pure, .pure, .read, .pure, .pure, .pure, .pure, .read, .pure, .pure, .pure, .pure, .read, .pure, .pure, .pure, .pure, .read, .pure, .pure, .pure, .pure, .read, .pure, .pure, .pure, .pure, .read, .pure, .read, .pure, .read, .pure, .pure, .pure, .pure]
def rule_Sound (r2 : Rule) : Bool :=
  (((((((cube_Sound r2.Match) && (act_Sound r2.Acts)) && (rule_span r2.Prio 65535)) && (rule_span r2.Idle 1048576)) && (rule_span r2.Hard 1048576)) && (rule_span r2.Owner 255)) && (decide ((if r2.Age < (if r2.Quiet < r2.Hits then r2.Quiet else r2.Hits) then r2.Age else (if r2.Quiet < r2.Hits then r2.Quiet else r2.Hits)) ≥ 0)))
theorem rule_Sound_walk (r2 : Rule) (r : Bool) (H : rule_Sound r2 = r) :
    ACalls Try.prog tab.S 16 [Rule.av r2] [] (.sc (.bool r)) [] := by
  have hG := tab_ok
  have hm := mixed
  refine ACalls.of_AR (G := tab) rule_Sound_F (fn := Try.f16) Try.func16 (by kernel_rfl) (by kernel_rfl) (by kernel_rfl) (Nat.le_of_ble_eq_true (by kernel_rfl)) ?_
  intro c0 hc0
  replace hc0 : c0.m.length = 0 := hc0
  rw [rule_Sound] at H
  refine AR.seg hG hm 3 [1] (k' := [.code [1, 0], .code [1, 1]]) (t' := [(1, .ptr 0 0 none)]) (h' := [.box 34 (Rule.ch r2)]) (by kernel_rfl) ?_
  refine AR.reg hm rule_Sound_k0 (by kernel_rfl) ?_
  refine DK.seg hG 2 [1, 4] (t' := [(1, .ptr 0 0 none), (4, Cube.av r2.Match)]) (h' := [.box 34 (Rule.ch r2)]) (by kernel_rfl) rfl ?_
  refine DK.op' [1, 5] (t' := [(1, .ptr 0 0 none), (5, .sc (.bool (cube_Sound r2.Match)))]) (h' := [.box 34 (Rule.ch r2)]) (LSpec.callP' (cube_Sound_calls r2.Match) (by kernel_rfl)) (by kernel_rfl) rfl (by kernel_rfl) rfl ?_
  refine DK.seg hG 1 [1, 6] (t' := [(1, .ptr 0 0 none), (6, .sc (.bool (cube_Sound r2.Match)))]) (h' := [.box 34 (Rule.ch r2)]) (by kernel_rfl) rfl ?_
  refine DK.mux 6 (cube_Sound r2.Match) (j := 8) (h' := [.box 34 (Rule.ch r2)]) (by kernel_rfl) (fun z => [(1, .ptr 0 0 none), (10, .sc (.bool (z && (act_Sound r2.Acts))))]) ?J1 (fun hb J => ?ht1) (fun hb J => ?hf1)
  case ht1 =>
    refine DK.seg hG 2 [1, 6, 8] (t' := [(1, .ptr 0 0 none), (6, .sc (.bool true)), (8, .sl 42 (List.map Act.av r2.Acts) false)]) (h' := [.box 34 (Rule.ch r2)]) (by kernel_rfl) rfl ?_
    refine DK.op' [1, 6, 9] (t' := [(1, .ptr 0 0 none), (6, .sc (.bool true)), (9, .sc (.bool (act_Sound r2.Acts)))]) (h' := [.box 34 (Rule.ch r2)]) (LSpec.callP' (act_Sound_calls r2.Acts false) (by kernel_rfl)) (by kernel_rfl) rfl (by kernel_rfl) rfl ?_
    exact DK.seg hG 1 [1, 10] (by kernel_rfl) rfl J
  case hf1 =>
    exact DK.seg hG 4 [1, 10] (by kernel_rfl) rfl J
  refine DK.seg hG 1 [1, 11] (t' := [(1, .ptr 0 0 none), (11, .sc (.bool ((cube_Sound r2.Match) && (act_Sound r2.Acts))))]) (h' := [.box 34 (Rule.ch r2)]) (by kernel_rfl) rfl ?_
  refine DK.mux 11 ((cube_Sound r2.Match) && (act_Sound r2.Acts)) (j := 13) (h' := [.box 34 (Rule.ch r2)]) (by kernel_rfl) (fun z => [(1, .ptr 0 0 none), (15, .sc (.bool (z && (rule_span r2.Prio 65535))))]) ?J2 (fun hb J => ?ht2) (fun hb J => ?hf2)
  case ht2 =>
    refine DK.seg hG 2 [1, 11, 13] (t' := [(1, .ptr 0 0 none), (11, .sc (.bool true)), (13, .sc (.int .i64 r2.Prio))]) (h' := [.box 34 (Rule.ch r2)]) (by kernel_rfl) rfl ?_
    refine DK.op' [1, 11, 14] (t' := [(1, .ptr 0 0 none), (11, .sc (.bool true)), (14, .sc (.bool (rule_span r2.Prio 65535)))]) (h' := [.box 34 (Rule.ch r2)]) (LSpec.callP' (rule_span_calls r2.Prio 65535) (by kernel_rfl)) (by kernel_rfl) rfl (by kernel_rfl) rfl ?_
    exact DK.seg hG 1 [1, 15] (by kernel_rfl) rfl J
  case hf2 =>
    exact DK.seg hG 4 [1, 15] (by kernel_rfl) rfl J
  refine DK.seg hG 1 [1, 16] (t' := [(1, .ptr 0 0 none), (16, .sc (.bool (((cube_Sound r2.Match) && (act_Sound r2.Acts)) && (rule_span r2.Prio 65535))))]) (h' := [.box 34 (Rule.ch r2)]) (by kernel_rfl) rfl ?_
  refine DK.mux 16 (((cube_Sound r2.Match) && (act_Sound r2.Acts)) && (rule_span r2.Prio 65535)) (j := 18) (h' := [.box 34 (Rule.ch r2)]) (by kernel_rfl) (fun z => [(1, .ptr 0 0 none), (20, .sc (.bool (z && (rule_span r2.Idle 1048576))))]) ?J3 (fun hb J => ?ht3) (fun hb J => ?hf3)
  case ht3 =>
    refine DK.seg hG 2 [1, 16, 18] (t' := [(1, .ptr 0 0 none), (16, .sc (.bool true)), (18, .sc (.int .i64 r2.Idle))]) (h' := [.box 34 (Rule.ch r2)]) (by kernel_rfl) rfl ?_
    refine DK.op' [1, 16, 19] (t' := [(1, .ptr 0 0 none), (16, .sc (.bool true)), (19, .sc (.bool (rule_span r2.Idle 1048576)))]) (h' := [.box 34 (Rule.ch r2)]) (LSpec.callP' (rule_span_calls r2.Idle 1048576) (by kernel_rfl)) (by kernel_rfl) rfl (by kernel_rfl) rfl ?_
    exact DK.seg hG 1 [1, 20] (by kernel_rfl) rfl J
  case hf3 =>
    exact DK.seg hG 4 [1, 20] (by kernel_rfl) rfl J
  refine DK.seg hG 1 [1, 21] (t' := [(1, .ptr 0 0 none), (21, .sc (.bool ((((cube_Sound r2.Match) && (act_Sound r2.Acts)) && (rule_span r2.Prio 65535)) && (rule_span r2.Idle 1048576))))]) (h' := [.box 34 (Rule.ch r2)]) (by kernel_rfl) rfl ?_
  refine DK.mux 21 ((((cube_Sound r2.Match) && (act_Sound r2.Acts)) && (rule_span r2.Prio 65535)) && (rule_span r2.Idle 1048576)) (j := 23) (h' := [.box 34 (Rule.ch r2)]) (by kernel_rfl) (fun z => [(1, .ptr 0 0 none), (25, .sc (.bool (z && (rule_span r2.Hard 1048576))))]) ?J4 (fun hb J => ?ht4) (fun hb J => ?hf4)
  case ht4 =>
    refine DK.seg hG 2 [1, 21, 23] (t' := [(1, .ptr 0 0 none), (21, .sc (.bool true)), (23, .sc (.int .i64 r2.Hard))]) (h' := [.box 34 (Rule.ch r2)]) (by kernel_rfl) rfl ?_
    refine DK.op' [1, 21, 24] (t' := [(1, .ptr 0 0 none), (21, .sc (.bool true)), (24, .sc (.bool (rule_span r2.Hard 1048576)))]) (h' := [.box 34 (Rule.ch r2)]) (LSpec.callP' (rule_span_calls r2.Hard 1048576) (by kernel_rfl)) (by kernel_rfl) rfl (by kernel_rfl) rfl ?_
    exact DK.seg hG 1 [1, 25] (by kernel_rfl) rfl J
  case hf4 =>
    exact DK.seg hG 4 [1, 25] (by kernel_rfl) rfl J
  refine DK.seg hG 1 [1, 26] (t' := [(1, .ptr 0 0 none), (26, .sc (.bool (((((cube_Sound r2.Match) && (act_Sound r2.Acts)) && (rule_span r2.Prio 65535)) && (rule_span r2.Idle 1048576)) && (rule_span r2.Hard 1048576))))]) (h' := [.box 34 (Rule.ch r2)]) (by kernel_rfl) rfl ?_
  refine DK.mux 26 (((((cube_Sound r2.Match) && (act_Sound r2.Acts)) && (rule_span r2.Prio 65535)) && (rule_span r2.Idle 1048576)) && (rule_span r2.Hard 1048576)) (j := 28) (h' := [.box 34 (Rule.ch r2)]) (by kernel_rfl) (fun z => [(1, .ptr 0 0 none), (30, .sc (.bool (z && (rule_span r2.Owner 255))))]) ?J5 (fun hb J => ?ht5) (fun hb J => ?hf5)
  case ht5 =>
    refine DK.seg hG 2 [1, 26, 28] (t' := [(1, .ptr 0 0 none), (26, .sc (.bool true)), (28, .sc (.int .i64 r2.Owner))]) (h' := [.box 34 (Rule.ch r2)]) (by kernel_rfl) rfl ?_
    refine DK.op' [1, 26, 29] (t' := [(1, .ptr 0 0 none), (26, .sc (.bool true)), (29, .sc (.bool (rule_span r2.Owner 255)))]) (h' := [.box 34 (Rule.ch r2)]) (LSpec.callP' (rule_span_calls r2.Owner 255) (by kernel_rfl)) (by kernel_rfl) rfl (by kernel_rfl) rfl ?_
    exact DK.seg hG 1 [1, 30] (by kernel_rfl) rfl J
  case hf5 =>
    exact DK.seg hG 4 [1, 30] (by kernel_rfl) rfl J
  refine DK.seg hG 1 [1, 31] (t' := [(1, .ptr 0 0 none), (31, .sc (.bool ((((((cube_Sound r2.Match) && (act_Sound r2.Acts)) && (rule_span r2.Prio 65535)) && (rule_span r2.Idle 1048576)) && (rule_span r2.Hard 1048576)) && (rule_span r2.Owner 255))))]) (h' := [.box 34 (Rule.ch r2)]) (by kernel_rfl) rfl ?_
  refine DK.mux 31 ((((((cube_Sound r2.Match) && (act_Sound r2.Acts)) && (rule_span r2.Prio 65535)) && (rule_span r2.Idle 1048576)) && (rule_span r2.Hard 1048576)) && (rule_span r2.Owner 255)) (j := 38) (h' := [.box 34 (Rule.ch r2)]) (by kernel_rfl) (fun z => [(40, .sc (.bool (z && (decide ((if r2.Age < (if r2.Quiet < r2.Hits then r2.Quiet else r2.Hits) then r2.Age else (if r2.Quiet < r2.Hits then r2.Quiet else r2.Hits)) ≥ 0)))))]) ?J6 (fun hb J => ?ht6) (fun hb J => ?hf6)
  case ht6 =>
    refine DK.seg hG 6 [31, 33, 35, 37] (t' := [(31, .sc (.bool true)), (33, .sc (.int .i64 r2.Hits)), (35, .sc (.int .i64 r2.Quiet)), (37, .sc (.int .i64 r2.Age))]) (h' := [.box 34 (Rule.ch r2)]) (by kernel_rfl) rfl ?_
    refine DK.op' [31, 38] (t' := [(31, .sc (.bool true)), (38, .sc (.int .i64 (if r2.Age < (if r2.Quiet < r2.Hits then r2.Quiet else r2.Hits) then r2.Age else (if r2.Quiet < r2.Hits then r2.Quiet else r2.Hits))))]) (h' := [.box 34 (Rule.ch r2)]) (LSpec.min3 (k := .i64) (a := r2.Hits) (b := r2.Quiet) (c := r2.Age) (by kernel_rfl)) (by kernel_rfl) rfl (by kernel_rfl) rfl ?_
    exact DK.seg hG 2 [40] (by kernel_rfl) rfl J
  case hf6 =>
    exact DK.seg hG 9 [40] (by kernel_rfl) rfl J
  refine DK.seg hG 1 [2] (t' := [(2, .sc (.bool (((((((cube_Sound r2.Match) && (act_Sound r2.Acts)) && (rule_span r2.Prio 65535)) && (rule_span r2.Idle 1048576)) && (rule_span r2.Hard 1048576)) && (rule_span r2.Owner 255)) && (decide ((if r2.Age < (if r2.Quiet < r2.Hits then r2.Quiet else r2.Hits) then r2.Age else (if r2.Quiet < r2.Hits then r2.Quiet else r2.Hits)) ≥ 0)))))]) (h' := [.box 34 (Rule.ch r2)]) (by kernel_rfl) rfl ?_
  refine DK.done (by kernel_rfl) (by kernel_rfl) ?_
  subst H
  exact AR.ret0 (fn := Try.f16) hG Try.func16 (by kernel_rfl) hc0 (r0 := .sc (.bool (((((((cube_Sound r2.Match) && (act_Sound r2.Acts)) && (rule_span r2.Prio 65535)) && (rule_span r2.Idle 1048576)) && (rule_span r2.Hard 1048576)) && (rule_span r2.Owner 255)) && (decide ((if r2.Age < (if r2.Quiet < r2.Hits then r2.Quiet else r2.Hits) then r2.Age else (if r2.Quiet < r2.Hits then r2.Quiet else r2.Hits)) ≥ 0))))) (by kernel_rfl) (WkV.refl _)
theorem rule_Sound_calls (r2 : Rule) : ACalls Try.prog tab.S 16 [Rule.av r2] [] (.sc (.bool (rule_Sound r2))) [] := rule_Sound_walk r2 _ rfl

end Go.Proofs.Ytadolbhmdimbkaa

set_option linter.unusedVariables false
set_option linter.unusedSimpArgs false
set_option maxRecDepth 100000
set_option maxHeartbeats 4000000
namespace Go.Proofs.Ytadolbhmdimbkaa
open Go.Sh
/-! ### cmp.isNaN: function 82 -/
noncomputable def cmp_isNaN_uint64_F : Go.Sh.Fn := ⟨82, bodyOf Try.f82, 6⟩
def cmp_isNaN_uint64 (x : Int) : Bool :=
  (x != x)
theorem cmp_isNaN_uint64_walk (x : Int) (r : Bool) (H : cmp_isNaN_uint64 x = r) :
    ACalls Try.prog tab.S 82 [.sc (.int .u64 x)] [] (.sc (.bool r)) [] := by
  have hG := tab_ok
  have hm := mixed
  refine ACalls.of_AR (G := tab) cmp_isNaN_uint64_F (fn := Try.f82) Try.func82 (by kernel_rfl) (by kernel_rfl) (by kernel_rfl) (Nat.le_of_ble_eq_true (by kernel_rfl)) ?_
  intro c0 hc0
  replace hc0 : c0.m.length = 0 := hc0
  rw [cmp_isNaN_uint64] at H
  refine AR.seg hG hm 4 [2] (k' := [.code [1, 1]]) (t' := [(2, .sc (.bool (x != x)))]) (h' := []) (by kernel_rfl) ?_
  subst H
  exact AR.ret0 (fn := Try.f82) hG Try.func82 (by kernel_rfl) hc0 (r0 := .sc (.bool (x != x))) (by kernel_rfl) (WkV.refl _)
theorem cmp_isNaN_uint64_calls (x : Int) : ACalls Try.prog tab.S 82 [.sc (.int .u64 x)] [] (.sc (.bool (cmp_isNaN_uint64 x))) [] := cmp_isNaN_uint64_walk x _ rfl

/-! ### cmp.Compare: function 78 -/
noncomputable def cmp_Compare_uint64_F : Go.Sh.Fn := ⟨78, bodyOf Try.f78, 20⟩
def cmp_Compare_uint64_k1 : List Kd := [.pure, .pure, .pure]
def cmp_Compare_uint64_k0 : List Kd := [.pure, .pure, .pure]
def cmp_Compare_uint64 (x : Int) (y : Int) : Int :=
  (bif (cmp_isNaN_uint64 x) then
    (bif (cmp_isNaN_uint64 y) then
      0
    else
      (-1))
  else
    (bif (cmp_isNaN_uint64 y) then
      1
    else
      (bif (decide (x < y)) then
        (-1)
      else
        (bif (decide (x > y)) then
          1
        else
          0))))
theorem cmp_Compare_uint64_walk (x : Int) (y : Int) (r : Int) (H : cmp_Compare_uint64 x y = r) :
    ACalls Try.prog tab.S 78 [.sc (.int .u64 x), .sc (.int .u64 y)] [] (.sc (.int .i64 r)) [] := by
  have hG := tab_ok
  have hm := mixed
  refine ACalls.of_AR (G := tab) cmp_Compare_uint64_F (fn := Try.f78) Try.func78 (by kernel_rfl) (by kernel_rfl) (by kernel_rfl) (Nat.le_of_ble_eq_true (by kernel_rfl)) ?_
  intro c0 hc0
  replace hc0 : c0.m.length = 0 := hc0
  rw [cmp_Compare_uint64] at H
  refine AR.seg hG hm 3 [0, 1] (k' := [.code [1, 0], .code [1, 1]]) (t' := [(0, .sc (.int .u64 x)), (1, .sc (.int .u64 y))]) (h' := []) (by kernel_rfl) ?_
  refine AR.reg hm cmp_Compare_uint64_k0 (by kernel_rfl) ?_
  refine DK.seg hG 1 [0, 1, 7] (t' := [(0, .sc (.int .u64 x)), (1, .sc (.int .u64 y)), (7, .sc (.int .u64 x))]) (h' := []) (by kernel_rfl) rfl ?_
  refine DK.op' [0, 1, 8] (t' := [(0, .sc (.int .u64 x)), (1, .sc (.int .u64 y)), (8, .sc (.bool (cmp_isNaN_uint64 x)))]) (h' := []) (LSpec.callP' (cmp_isNaN_uint64_calls x) (by kernel_rfl)) (by kernel_rfl) rfl (by kernel_rfl) rfl ?_
  refine DK.seg hG 1 [0, 1, 5] (t' := [(0, .sc (.int .u64 x)), (1, .sc (.int .u64 y)), (5, .sc (.bool (cmp_isNaN_uint64 x)))]) (h' := []) (by kernel_rfl) rfl ?_
  refine DK.done (by kernel_rfl) (by kernel_rfl) ?_
  refine AR.seg hG hm 1 [0, 1, 5] (k' := [.code [1, 1, 0], .code [1, 1, 1]]) (t' := [(0, .sc (.int .u64 x)), (1, .sc (.int .u64 y)), (5, .sc (.bool (cmp_isNaN_uint64 x)))]) (h' := []) (by kernel_rfl) ?_
  refine AR.reg hm cmp_Compare_uint64_k1 (by kernel_rfl) ?_
  refine DK.seg hG 1 [0, 1, 5, 9] (t' := [(0, .sc (.int .u64 x)), (1, .sc (.int .u64 y)), (5, .sc (.bool (cmp_isNaN_uint64 x))), (9, .sc (.int .u64 y))]) (h' := []) (by kernel_rfl) rfl ?_
  refine DK.op' [0, 1, 5, 10] (t' := [(0, .sc (.int .u64 x)), (1, .sc (.int .u64 y)), (5, .sc (.bool (cmp_isNaN_uint64 x))), (10, .sc (.bool (cmp_isNaN_uint64 y)))]) (h' := []) (LSpec.callP' (cmp_isNaN_uint64_calls y) (by kernel_rfl)) (by kernel_rfl) rfl (by kernel_rfl) rfl ?_
  refine DK.seg hG 1 [0, 1, 5, 6] (t' := [(0, .sc (.int .u64 x)), (1, .sc (.int .u64 y)), (5, .sc (.bool (cmp_isNaN_uint64 x))), (6, .sc (.bool (cmp_isNaN_uint64 y)))]) (h' := []) (by kernel_rfl) rfl ?_
  refine DK.done (by kernel_rfl) (by kernel_rfl) ?_
  refine AR.seg hG hm 3 [0, 1, 6, 11] (k' := [.code [1, 1, 1, 0, 1], .code [1, 1, 1, 1]]) (t' := [(0, .sc (.int .u64 x)), (1, .sc (.int .u64 y)), (6, .sc (.bool (cmp_isNaN_uint64 y))), (11, .sc (.bool (cmp_isNaN_uint64 x)))]) (h' := []) (by kernel_rfl) ?_
  refine AR.cond (.tmp 11) (cmp_isNaN_uint64 x) (by kernel_rfl) (by kernel_rfl) (fun hb => ?ht2) (fun hb => ?hf2)
  case ht2 =>
    replace H := cond_t hb H
    refine AR.seg hG hm 3 [12] (k' := [.code [1, 1, 1, 0, 1, 0, 0, 1], .code [1, 1, 1, 0, 1, 0, 1], .code [1, 1, 1, 1]]) (t' := [(12, .sc (.bool (cmp_isNaN_uint64 y)))]) (h' := []) (by kernel_rfl) ?_
    refine AR.cond (.tmp 12) (cmp_isNaN_uint64 y) (by kernel_rfl) (by kernel_rfl) (fun hb => ?ht3) (fun hb => ?hf3)
    case ht3 =>
      replace H := cond_t hb H
      refine AR.seg hG hm 2 [4] (k' := [.code [1, 1, 1, 0, 1, 0, 0, 1, 0, 1], .code [1, 1, 1, 0, 1, 0, 1], .code [1, 1, 1, 1]]) (t' := [(4, .sc (.int .i64 0))]) (h' := []) (by kernel_rfl) ?_
      subst H
      exact AR.ret0 (fn := Try.f78) hG Try.func78 (by kernel_rfl) hc0 (r0 := .sc (.int .i64 0)) (by kernel_rfl) (WkV.refl _)
    case hf3 =>
      replace H := cond_f hb H
      refine AR.seg hG hm 3 [4] (k' := [.code [1, 1, 1, 0, 1, 0, 1, 1], .code [1, 1, 1, 1]]) (t' := [(4, .sc (.int .i64 (-1)))]) (h' := []) (by kernel_rfl) ?_
      subst H
      exact AR.ret0 (fn := Try.f78) hG Try.func78 (by kernel_rfl) hc0 (r0 := .sc (.int .i64 (-1))) (by kernel_rfl) (WkV.refl _)
  case hf2 =>
    replace H := cond_f hb H
    refine AR.seg hG hm 4 [0, 1, 13] (k' := [.code [1, 1, 1, 1, 0, 1], .code [1, 1, 1, 1, 1]]) (t' := [(0, .sc (.int .u64 x)), (1, .sc (.int .u64 y)), (13, .sc (.bool (cmp_isNaN_uint64 y)))]) (h' := []) (by kernel_rfl) ?_
    refine AR.cond (.tmp 13) (cmp_isNaN_uint64 y) (by kernel_rfl) (by kernel_rfl) (fun hb => ?ht4) (fun hb => ?hf4)
    case ht4 =>
      replace H := cond_t hb H
      refine AR.seg hG hm 2 [4] (k' := [.code [1, 1, 1, 1, 0, 1, 0, 1], .code [1, 1, 1, 1, 1]]) (t' := [(4, .sc (.int .i64 1))]) (h' := []) (by kernel_rfl) ?_
      subst H
      exact AR.ret0 (fn := Try.f78) hG Try.func78 (by kernel_rfl) hc0 (r0 := .sc (.int .i64 1)) (by kernel_rfl) (WkV.refl _)
    case hf4 =>
      replace H := cond_f hb H
      refine AR.seg hG hm 4 [0, 1, 16] (k' := [.code [1, 1, 1, 1, 1, 0, 1], .code [1, 1, 1, 1, 1, 1]]) (t' := [(0, .sc (.int .u64 x)), (1, .sc (.int .u64 y)), (16, .sc (.bool (decide (x < y))))]) (h' := []) (by kernel_rfl) ?_
      refine AR.cond (.tmp 16) (decide (x < y)) (by kernel_rfl) (by kernel_rfl) (fun hb => ?ht5) (fun hb => ?hf5)
      case ht5 =>
        replace H := cond_t hb H
        refine AR.seg hG hm 2 [4] (k' := [.code [1, 1, 1, 1, 1, 0, 1, 0, 1], .code [1, 1, 1, 1, 1, 1]]) (t' := [(4, .sc (.int .i64 (-1)))]) (h' := []) (by kernel_rfl) ?_
        subst H
        exact AR.ret0 (fn := Try.f78) hG Try.func78 (by kernel_rfl) hc0 (r0 := .sc (.int .i64 (-1))) (by kernel_rfl) (WkV.refl _)
      case hf5 =>
        replace H := cond_f hb H
        refine AR.seg hG hm 4 [19] (k' := [.code [1, 1, 1, 1, 1, 1, 0, 1], .code [1, 1, 1, 1, 1, 1, 1]]) (t' := [(19, .sc (.bool (decide (x > y))))]) (h' := []) (by kernel_rfl) ?_
        refine AR.cond (.tmp 19) (decide (x > y)) (by kernel_rfl) (by kernel_rfl) (fun hb => ?ht6) (fun hb => ?hf6)
        case ht6 =>
          replace H := cond_t hb H
          refine AR.seg hG hm 2 [4] (k' := [.code [1, 1, 1, 1, 1, 1, 0, 1, 0, 1], .code [1, 1, 1, 1, 1, 1, 1]]) (t' := [(4, .sc (.int .i64 1))]) (h' := []) (by kernel_rfl) ?_
          subst H
          exact AR.ret0 (fn := Try.f78) hG Try.func78 (by kernel_rfl) hc0 (r0 := .sc (.int .i64 1)) (by kernel_rfl) (WkV.refl _)
        case hf6 =>
          replace H := cond_f hb H
          refine AR.seg hG hm 3 [4] (k' := [.code [1, 1, 1, 1, 1, 1, 1, 1]]) (t' := [(4, .sc (.int .i64 0))]) (h' := []) (by kernel_rfl) ?_
          subst H
          exact AR.ret0 (fn := Try.f78) hG Try.func78 (by kernel_rfl) hc0 (r0 := .sc (.int .i64 0)) (by kernel_rfl) (WkV.refl _)
theorem cmp_Compare_uint64_calls (x : Int) (y : Int) : ACalls Try.prog tab.S 78 [.sc (.int .u64 x), .sc (.int .u64 y)] [] (.sc (.int .i64 (cmp_Compare_uint64 x y))) [] := cmp_Compare_uint64_walk x y _ rfl

/-! ### slices.CompareFunc: function 77 -/
noncomputable def slices_CompareFunc__uint64_F : Go.Sh.Fn := ⟨77, bodyOf Try.f77, 39⟩
def slices_CompareFunc__uint64_k2 : List Kd := [.pure, .pure, .pure, .pure, .pure]
def slices_CompareFunc__uint64_k1 : List Kd := [.pure, .pure, .pure, .pure, .pure]
def slices_CompareFunc__uint64_k0 : List Kd := [.pure, .pure, .pure, .pure, .pure]
def slices_CompareFunc__uint64_l0s (s2 : List Int) (cmp : Int → Int → Int) : List Int → Nat → Option (Sum (Unit) (Int))
  | [], t13 =>
    some (.inl ())
  | x :: rest, t13 =>
    (bif (decide (((t13 : Nat) : Int) ≥ (((List.map (intA .u64) s2).length : Nat) : Int))) then
      some (.inr 1)
    else
      (ixO s2 ((t13 : Nat) : Int)).bind fun x1 =>
      (bif ((cmp x x1) != 0) then
        some (.inr (cmp x x1))
      else
        slices_CompareFunc__uint64_l0s s2 cmp rest (t13 + 1) ))
theorem slices_CompareFunc__uint64_l0_walk (s1 : List Int) (s2 : List Int) (F_cmp : FuncId) (C_cmp : List AV) (cmp : Int → Int → Int) (P_cmp : plainL C_cmp = true) (O_cmp : C_cmp.all oneA = true) (H_cmp : ∀ (y0 : Int) (y1 : Int), ACalls Try.prog tab.S F_cmp ([.sc (.int .u64 y0), .sc (.int .u64 y1)] ++ C_cmp) [] (.sc (.int .i64 (cmp y0 y1))) []) (f_s1 : Bool) (f_s2 : Bool) (r : Int) (c0 : Ctx) (hc0 : c0.m.length = 0) (res : Sum (Unit) (Int)) (J : ∀ w : Unit, res = .inl w → AR Try.prog tab slices_CompareFunc__uint64_F c0 (Rp tab.S c0 (.sc (.int .i64 r)) []) [.code [1, 1]] [(0, .sl 23 (List.map (intA .u64) s1) f_s1), (1, .sl 23 (List.map (intA .u64) s2) f_s2)] []) (Jr : ∀ w, res = .inr w → w = r) :
    ∀ (rest : List Int) (t13 : Nat) (hd : s1.drop t13 = rest) (H : slices_CompareFunc__uint64_l0s s2 cmp rest t13 = some res), AR Try.prog tab slices_CompareFunc__uint64_F c0 (Rp tab.S c0 (.sc (.int .i64 r)) []) [.code [1, 0, 1, 0, 0], .loop [1, 0, 1, 0], .blk 0, .code [1, 1]] [(0, .sl 23 (List.map (intA .u64) s1) f_s1), (1, .sl 23 (List.map (intA .u64) s2) f_s2), (2, .fn F_cmp C_cmp), (11, .sl 23 (List.map (intA .u64) s1) f_s1), (12, .sc (.int .i64 (((List.map (intA .u64) s1).length : Nat) : Int))), (13, .sc (.int .i64 ((t13 : Nat) : Int)))] [] := by
  have hG := tab_ok
  have hm := mixed
  intro rest
  induction rest with
  | nil =>
    intro t13 hd  H
    rw [slices_CompareFunc__uint64_l0s] at H
    refine AR.facts 0 rfl fun hf => ?_
    have hlen : s1.length ≤ 9223372036854775807 := by have hq := len_ok hf.2.1; rw [List.length_map] at hq; exact hq
    have hge : s1.length ≤ t13 := List.drop_eq_nil_iff.1 hd
    have hc : (decide (((t13 : Nat) : Int) < (((List.map (intA .u64) s1).length : Nat) : Int))) = false := by rw [List.length_map]; exact decide_eq_false (by omega)
    refine AR.seg hG hm 3 [0, 1, 2, 11, 12, 13, 14] (k' := [.code [1, 0, 1, 0, 0, 1, 0], .code [1, 0, 1, 0, 0, 1, 1], .loop [1, 0, 1, 0], .blk 0, .code [1, 1]]) (t' := [(0, .sl 23 (List.map (intA .u64) s1) f_s1), (1, .sl 23 (List.map (intA .u64) s2) f_s2), (2, .fn F_cmp C_cmp), (11, .sl 23 (List.map (intA .u64) s1) f_s1), (12, .sc (.int .i64 (((List.map (intA .u64) s1).length : Nat) : Int))), (13, .sc (.int .i64 ((t13 : Nat) : Int))), (14, .sc (.bool (decide (((t13 : Nat) : Int) < (((List.map (intA .u64) s1).length : Nat) : Int)))))]) (h' := []) (by kernel_rfl) ?_
    refine AR.cond (.tmp 14) (decide (((t13 : Nat) : Int) < (((List.map (intA .u64) s1).length : Nat) : Int))) (by kernel_rfl) (by kernel_rfl) (fun hb => ?ht10) (fun hb => ?hf10)
    case ht10 => exact absurd (hb.symm.trans hc) (by decide)
    case hf10 =>
      refine AR.seg hG hm 1 [0, 1] (k' := [.code [1, 1]]) (t' := [(0, .sl 23 (List.map (intA .u64) s1) f_s1), (1, .sl 23 (List.map (intA .u64) s2) f_s2)]) (h' := []) (by kernel_rfl) ?_
      refine AR.keep [0, 1] (t' := [(0, .sl 23 (List.map (intA .u64) s1) f_s1), (1, .sl 23 (List.map (intA .u64) s2) f_s2)]) (by kernel_rfl) ?_
      exact J () (Option.some.inj H).symm
  | cons x rest ih =>
    intro t13 hd  H
    rw [slices_CompareFunc__uint64_l0s] at H
    refine AR.facts 0 rfl fun hf => ?_
    have hlen : s1.length ≤ 9223372036854775807 := by have hq := len_ok hf.2.1; rw [List.length_map] at hq; exact hq
    obtain ⟨hlt, hv_t13, hd2⟩ := drop_cons hd
    have hc : (decide (((t13 : Nat) : Int) < (((List.map (intA .u64) s1).length : Nat) : Int))) = true := by rw [List.length_map]; exact decide_eq_true (by omega)
    have hw : IntKind.i64.wrap (((t13 : Nat) : Int) + 1) = ((t13 + 1 : Nat) : Int) := wrapI_succ (by omega)
    refine AR.seg hG hm 3 [0, 1, 2, 11, 12, 13, 14] (k' := [.code [1, 0, 1, 0, 0, 1, 0], .code [1, 0, 1, 0, 0, 1, 1], .loop [1, 0, 1, 0], .blk 0, .code [1, 1]]) (t' := [(0, .sl 23 (List.map (intA .u64) s1) f_s1), (1, .sl 23 (List.map (intA .u64) s2) f_s2), (2, .fn F_cmp C_cmp), (11, .sl 23 (List.map (intA .u64) s1) f_s1), (12, .sc (.int .i64 (((List.map (intA .u64) s1).length : Nat) : Int))), (13, .sc (.int .i64 ((t13 : Nat) : Int))), (14, .sc (.bool (decide (((t13 : Nat) : Int) < (((List.map (intA .u64) s1).length : Nat) : Int)))))]) (h' := []) (by kernel_rfl) ?_
    refine AR.cond (.tmp 14) (decide (((t13 : Nat) : Int) < (((List.map (intA .u64) s1).length : Nat) : Int))) (by kernel_rfl) (by kernel_rfl) (fun hb => ?ht11) (fun hb => ?hf11)
    case ht11 =>
      refine AR.seg hG hm 4 [0, 1, 2, 11, 12, 13] (k' := [.code [1, 0, 1, 0, 0, 1, 1, 0, 0, 0], .code [1, 0, 1, 0, 0, 1, 1, 0, 0, 1], .blk 1, .code [1, 0, 1, 0, 0, 1, 1, 1], .loop [1, 0, 1, 0], .blk 0, .code [1, 1]]) (t' := [(0, .sl 23 (List.map (intA .u64) s1) f_s1), (1, .sl 23 (List.map (intA .u64) s2) f_s2), (2, .fn F_cmp C_cmp), (11, .sl 23 (List.map (intA .u64) s1) f_s1), (12, .sc (.int .i64 (((List.map (intA .u64) s1).length : Nat) : Int))), (13, .sc (.int .i64 ((t13 : Nat) : Int)))]) (h' := []) (by kernel_rfl) ?_
      refine AR.reg hm slices_CompareFunc__uint64_k0 (by kernel_rfl) ?_
      refine DK.seg hG 1 [0, 1, 2, 11, 12, 13, 15] (t' := [(0, .sl 23 (List.map (intA .u64) s1) f_s1), (1, .sl 23 (List.map (intA .u64) s2) f_s2), (2, .fn F_cmp C_cmp), (11, .sl 23 (List.map (intA .u64) s1) f_s1), (12, .sc (.int .i64 (((List.map (intA .u64) s1).length : Nat) : Int))), (13, .sc (.int .i64 ((t13 : Nat) : Int))), (15, .sc (.int .i64 ((t13 : Nat) : Int)))]) (h' := []) (by kernel_rfl) rfl ?_
      refine DK.op' [0, 1, 2, 11, 12, 13, 15, 16] (t' := [(0, .sl 23 (List.map (intA .u64) s1) f_s1), (1, .sl 23 (List.map (intA .u64) s2) f_s2), (2, .fn F_cmp C_cmp), (11, .sl 23 (List.map (intA .u64) s1) f_s1), (12, .sc (.int .i64 (((List.map (intA .u64) s1).length : Nat) : Int))), (13, .sc (.int .i64 ((t13 : Nat) : Int))), (15, .sc (.int .i64 ((t13 : Nat) : Int))), (16, .ep [.sc (.int .u64 x)] 0 none)]) (h' := []) (LSpec.index' (r := .sc (.int .u64 x)) (fs := [.sc (.int .u64 x)]) hG (rows := List.map (intA .u64) s1) (j := ((t13 : Nat) : Int)) (by kernel_rfl) (ixO_map hv_t13 _) (by kernel_rfl)) (by kernel_rfl) rfl (by kernel_rfl) rfl ?_
      refine DK.seg hG 3 [0, 1, 2, 7, 8, 11, 12, 13] (t' := [(0, .sl 23 (List.map (intA .u64) s1) f_s1), (1, .sl 23 (List.map (intA .u64) s2) f_s2), (2, .fn F_cmp C_cmp), (7, .sc (.int .i64 ((t13 : Nat) : Int))), (8, .sc (.int .u64 x)), (11, .sl 23 (List.map (intA .u64) s1) f_s1), (12, .sc (.int .i64 (((List.map (intA .u64) s1).length : Nat) : Int))), (13, .sc (.int .i64 ((t13 : Nat) : Int)))]) (h' := []) (by kernel_rfl) rfl ?_
      refine DK.done (by kernel_rfl) (by kernel_rfl) ?_
      refine AR.seg hG hm 3 [0, 1, 2, 7, 8, 11, 12, 13, 21] (k' := [.code [1, 0, 1, 0, 0, 1, 1, 0, 0, 1, 0, 1], .code [1, 0, 1, 0, 0, 1, 1, 0, 0, 1, 1], .blk 1, .code [1, 0, 1, 0, 0, 1, 1, 1], .loop [1, 0, 1, 0], .blk 0, .code [1, 1]]) (t' := [(0, .sl 23 (List.map (intA .u64) s1) f_s1), (1, .sl 23 (List.map (intA .u64) s2) f_s2), (2, .fn F_cmp C_cmp), (7, .sc (.int .i64 ((t13 : Nat) : Int))), (8, .sc (.int .u64 x)), (11, .sl 23 (List.map (intA .u64) s1) f_s1), (12, .sc (.int .i64 (((List.map (intA .u64) s1).length : Nat) : Int))), (13, .sc (.int .i64 ((t13 : Nat) : Int))), (21, .sc (.bool (decide (((t13 : Nat) : Int) ≥ (((List.map (intA .u64) s2).length : Nat) : Int)))))]) (h' := []) (by kernel_rfl) ?_
      refine AR.cond (.tmp 21) (decide (((t13 : Nat) : Int) ≥ (((List.map (intA .u64) s2).length : Nat) : Int))) (by kernel_rfl) (by kernel_rfl) (fun hb => ?ht12) (fun hb => ?hf12)
      case ht12 =>
        replace H := cond_t hb H
        refine AR.seg hG hm 2 [6] (k' := [.code [1, 0, 1, 0, 0, 1, 1, 0, 0, 1, 0, 1, 0, 1], .code [1, 0, 1, 0, 0, 1, 1, 0, 0, 1, 1], .blk 1, .code [1, 0, 1, 0, 0, 1, 1, 1], .loop [1, 0, 1, 0], .blk 0, .code [1, 1]]) (t' := [(6, .sc (.int .i64 1))]) (h' := []) (by kernel_rfl) ?_
        obtain rfl := Option.some.inj H
        obtain rfl := Jr _ rfl
        exact AR.ret0 (fn := Try.f77) hG Try.func77 (by kernel_rfl) hc0 (r0 := .sc (.int .i64 1)) (by kernel_rfl) (WkV.refl _)
      case hf12 =>
        replace H := cond_f hb H
        refine AR.seg hG hm 2 [0, 1, 2, 7, 8, 11, 12, 13] (k' := [.code [1, 0, 1, 0, 0, 1, 1, 0, 0, 1, 1, 0], .code [1, 0, 1, 0, 0, 1, 1, 0, 0, 1, 1, 1], .blk 1, .code [1, 0, 1, 0, 0, 1, 1, 1], .loop [1, 0, 1, 0], .blk 0, .code [1, 1]]) (t' := [(0, .sl 23 (List.map (intA .u64) s1) f_s1), (1, .sl 23 (List.map (intA .u64) s2) f_s2), (2, .fn F_cmp C_cmp), (7, .sc (.int .i64 ((t13 : Nat) : Int))), (8, .sc (.int .u64 x)), (11, .sl 23 (List.map (intA .u64) s1) f_s1), (12, .sc (.int .i64 (((List.map (intA .u64) s1).length : Nat) : Int))), (13, .sc (.int .i64 ((t13 : Nat) : Int)))]) (h' := []) (by kernel_rfl) ?_
        refine AR.reg hm slices_CompareFunc__uint64_k1 (by kernel_rfl) ?_
        refine DK.seg hG 2 [0, 1, 2, 8, 11, 12, 13, 22, 23] (t' := [(0, .sl 23 (List.map (intA .u64) s1) f_s1), (1, .sl 23 (List.map (intA .u64) s2) f_s2), (2, .fn F_cmp C_cmp), (8, .sc (.int .u64 x)), (11, .sl 23 (List.map (intA .u64) s1) f_s1), (12, .sc (.int .i64 (((List.map (intA .u64) s1).length : Nat) : Int))), (13, .sc (.int .i64 ((t13 : Nat) : Int))), (22, .sl 23 (List.map (intA .u64) s2) f_s2), (23, .sc (.int .i64 ((t13 : Nat) : Int)))]) (h' := []) (by kernel_rfl) rfl ?_
        obtain ⟨x1, hv, H⟩ := Option.bind_eq_some_iff.1 H
        refine DK.op' [0, 1, 2, 8, 11, 12, 13, 24] (t' := [(0, .sl 23 (List.map (intA .u64) s1) f_s1), (1, .sl 23 (List.map (intA .u64) s2) f_s2), (2, .fn F_cmp C_cmp), (8, .sc (.int .u64 x)), (11, .sl 23 (List.map (intA .u64) s1) f_s1), (12, .sc (.int .i64 (((List.map (intA .u64) s1).length : Nat) : Int))), (13, .sc (.int .i64 ((t13 : Nat) : Int))), (24, .ep [.sc (.int .u64 x1)] 0 none)]) (h' := []) (LSpec.index' (r := .sc (.int .u64 x1)) (fs := [.sc (.int .u64 x1)]) hG (rows := List.map (intA .u64) s2) (j := ((t13 : Nat) : Int)) (by kernel_rfl) (ixO_map hv _) (by kernel_rfl)) (by kernel_rfl) rfl (by kernel_rfl) rfl ?_
        refine DK.seg hG 2 [0, 1, 2, 8, 9, 11, 12, 13] (t' := [(0, .sl 23 (List.map (intA .u64) s1) f_s1), (1, .sl 23 (List.map (intA .u64) s2) f_s2), (2, .fn F_cmp C_cmp), (8, .sc (.int .u64 x)), (9, .sc (.int .u64 x1)), (11, .sl 23 (List.map (intA .u64) s1) f_s1), (12, .sc (.int .i64 (((List.map (intA .u64) s1).length : Nat) : Int))), (13, .sc (.int .i64 ((t13 : Nat) : Int)))]) (h' := []) (by kernel_rfl) rfl ?_
        refine DK.done (by kernel_rfl) (by kernel_rfl) ?_
        refine AR.seg hG hm 1 [0, 1, 2, 8, 9, 11, 12, 13] (k' := [.code [1, 0, 1, 0, 0, 1, 1, 0, 0, 1, 1, 1, 0], .code [1, 0, 1, 0, 0, 1, 1, 0, 0, 1, 1, 1, 1], .blk 1, .code [1, 0, 1, 0, 0, 1, 1, 1], .loop [1, 0, 1, 0], .blk 0, .code [1, 1]]) (t' := [(0, .sl 23 (List.map (intA .u64) s1) f_s1), (1, .sl 23 (List.map (intA .u64) s2) f_s2), (2, .fn F_cmp C_cmp), (8, .sc (.int .u64 x)), (9, .sc (.int .u64 x1)), (11, .sl 23 (List.map (intA .u64) s1) f_s1), (12, .sc (.int .i64 (((List.map (intA .u64) s1).length : Nat) : Int))), (13, .sc (.int .i64 ((t13 : Nat) : Int)))]) (h' := []) (by kernel_rfl) ?_
        refine AR.reg hm slices_CompareFunc__uint64_k2 (by kernel_rfl) ?_
        refine DK.seg hG 3 [0, 1, 2, 11, 12, 13, 26, 27, 28] (t' := [(0, .sl 23 (List.map (intA .u64) s1) f_s1), (1, .sl 23 (List.map (intA .u64) s2) f_s2), (2, .fn F_cmp C_cmp), (11, .sl 23 (List.map (intA .u64) s1) f_s1), (12, .sc (.int .i64 (((List.map (intA .u64) s1).length : Nat) : Int))), (13, .sc (.int .i64 ((t13 : Nat) : Int))), (26, .fn F_cmp C_cmp), (27, .sc (.int .u64 x)), (28, .sc (.int .u64 x1))]) (h' := []) (by kernel_rfl) rfl ?_
        refine DK.op' [0, 1, 2, 11, 12, 13, 29] (t' := [(0, .sl 23 (List.map (intA .u64) s1) f_s1), (1, .sl 23 (List.map (intA .u64) s2) f_s2), (2, .fn F_cmp C_cmp), (11, .sl 23 (List.map (intA .u64) s1) f_s1), (12, .sc (.int .i64 (((List.map (intA .u64) s1).length : Nat) : Int))), (13, .sc (.int .i64 ((t13 : Nat) : Int))), (29, .sc (.int .i64 (cmp x x1)))]) (h' := []) (LSpec.callFP' (H_cmp x x1) (by kernel_rfl) P_cmp O_cmp) (by kernel_rfl) rfl (by kernel_rfl) rfl ?_
        refine DK.seg hG 1 [0, 1, 2, 10, 11, 12, 13] (t' := [(0, .sl 23 (List.map (intA .u64) s1) f_s1), (1, .sl 23 (List.map (intA .u64) s2) f_s2), (2, .fn F_cmp C_cmp), (10, .sc (.int .i64 (cmp x x1))), (11, .sl 23 (List.map (intA .u64) s1) f_s1), (12, .sc (.int .i64 (((List.map (intA .u64) s1).length : Nat) : Int))), (13, .sc (.int .i64 ((t13 : Nat) : Int)))]) (h' := []) (by kernel_rfl) rfl ?_
        refine DK.done (by kernel_rfl) (by kernel_rfl) ?_
        refine AR.seg hG hm 2 [0, 1, 2, 10, 11, 12, 13, 31] (k' := [.code [1, 0, 1, 0, 0, 1, 1, 0, 0, 1, 1, 1, 1, 1], .blk 1, .code [1, 0, 1, 0, 0, 1, 1, 1], .loop [1, 0, 1, 0], .blk 0, .code [1, 1]]) (t' := [(0, .sl 23 (List.map (intA .u64) s1) f_s1), (1, .sl 23 (List.map (intA .u64) s2) f_s2), (2, .fn F_cmp C_cmp), (10, .sc (.int .i64 (cmp x x1))), (11, .sl 23 (List.map (intA .u64) s1) f_s1), (12, .sc (.int .i64 (((List.map (intA .u64) s1).length : Nat) : Int))), (13, .sc (.int .i64 ((t13 : Nat) : Int))), (31, .sc (.bool ((cmp x x1) != 0)))]) (h' := []) (by kernel_rfl) ?_
        refine AR.cond (.tmp 31) ((cmp x x1) != 0) (by kernel_rfl) (by kernel_rfl) (fun hb => ?ht13) (fun hb => ?hf13)
        case ht13 =>
          replace H := cond_t hb H
          refine AR.seg hG hm 2 [6] (k' := [.code [1, 0, 1, 0, 0, 1, 1, 0, 0, 1, 1, 1, 1, 1, 0, 1], .blk 1, .code [1, 0, 1, 0, 0, 1, 1, 1], .loop [1, 0, 1, 0], .blk 0, .code [1, 1]]) (t' := [(6, .sc (.int .i64 (cmp x x1)))]) (h' := []) (by kernel_rfl) ?_
          obtain rfl := Option.some.inj H
          obtain rfl := Jr _ rfl
          exact AR.ret0 (fn := Try.f77) hG Try.func77 (by kernel_rfl) hc0 (r0 := .sc (.int .i64 (cmp x x1))) (by kernel_rfl) (WkV.refl _)
        case hf13 =>
          replace H := cond_f hb H
          refine AR.seg hG hm 3 [0, 1, 2, 11, 12, 13] (k' := [.loop [1, 0, 1, 0], .blk 0, .code [1, 1]]) (t' := [(0, .sl 23 (List.map (intA .u64) s1) f_s1), (1, .sl 23 (List.map (intA .u64) s2) f_s2), (2, .fn F_cmp C_cmp), (11, .sl 23 (List.map (intA .u64) s1) f_s1), (12, .sc (.int .i64 (((List.map (intA .u64) s1).length : Nat) : Int))), (13, .sc (.int .i64 (IntKind.i64.wrap (((t13 : Nat) : Int) + 1))))]) (h' := []) (by kernel_rfl) ?_
          refine AR.keep [0, 1, 2, 11, 12, 13] (t' := [(0, .sl 23 (List.map (intA .u64) s1) f_s1), (1, .sl 23 (List.map (intA .u64) s2) f_s2), (2, .fn F_cmp C_cmp), (11, .sl 23 (List.map (intA .u64) s1) f_s1), (12, .sc (.int .i64 (((List.map (intA .u64) s1).length : Nat) : Int))), (13, .sc (.int .i64 (IntKind.i64.wrap (((t13 : Nat) : Int) + 1))))]) (by kernel_rfl) ?_
          refine AR.loop_round ?_
          rw [hw]
          exact ih (t13 + 1) hd2 H
    case hf11 => exact absurd (hc.symm.trans hb) (by decide)

def slices_CompareFunc__uint64_raw (s1 : List Int) (s2 : List Int) (cmp : Int → Int → Int) : Option (Int) :=
  loopO (slices_CompareFunc__uint64_l0s s2 cmp s1 0) fun v =>
  (bif (decide ((((List.map (intA .u64) s1).length : Nat) : Int) < (((List.map (intA .u64) s2).length : Nat) : Int))) then
    some (-1)
  else
    some 0)
theorem slices_CompareFunc__uint64_walk (s1 : List Int) (s2 : List Int) (F_cmp : FuncId) (C_cmp : List AV) (cmp : Int → Int → Int) (P_cmp : plainL C_cmp = true) (O_cmp : C_cmp.all oneA = true) (H_cmp : ∀ (y0 : Int) (y1 : Int), ACalls Try.prog tab.S F_cmp ([.sc (.int .u64 y0), .sc (.int .u64 y1)] ++ C_cmp) [] (.sc (.int .i64 (cmp y0 y1))) []) (f_s1 : Bool) (f_s2 : Bool) (r : Int) (H : slices_CompareFunc__uint64_raw s1 s2 cmp = some r) :
    ACalls Try.prog tab.S 77 [.sl 23 (List.map (intA .u64) s1) f_s1, .sl 23 (List.map (intA .u64) s2) f_s2, .fn F_cmp C_cmp] [] (.sc (.int .i64 r)) [] := by
  have hG := tab_ok
  have hm := mixed
  refine ACalls.of_AR (G := tab) slices_CompareFunc__uint64_F (fn := Try.f77) Try.func77 (by kernel_rfl) (by kernel_rfl) (by kernel_rfl) (Nat.le_of_ble_eq_true (by kernel_rfl)) ?_
  intro c0 hc0
  replace hc0 : c0.m.length = 0 := hc0
  rw [slices_CompareFunc__uint64_raw] at H
  refine AR.seg hG hm 6 [0, 1, 2, 11, 12, 13] (k' := [.code [1, 0, 1, 0], .blk 0, .code [1, 1]]) (t' := [(0, .sl 23 (List.map (intA .u64) s1) f_s1), (1, .sl 23 (List.map (intA .u64) s2) f_s2), (2, .fn F_cmp C_cmp), (11, .sl 23 (List.map (intA .u64) s1) f_s1), (12, .sc (.int .i64 (((List.map (intA .u64) s1).length : Nat) : Int))), (13, .sc (.int .i64 0))]) (h' := []) (by kernel_rfl) ?_
  rcases loopO_some H with ⟨v, hv, H⟩ | hv
  case inr =>
    refine AR.into (by kernel_rfl) ?_
    exact slices_CompareFunc__uint64_l0_walk s1 s2 F_cmp C_cmp cmp P_cmp O_cmp H_cmp f_s1 f_s2 _ c0 hc0 (.inr _) (fun _ e => by cases e) (fun _ e => (Sum.inr.inj e).symm) s1 0 rfl hv
  refine AR.into (by kernel_rfl) ?_
  refine slices_CompareFunc__uint64_l0_walk s1 s2 F_cmp C_cmp cmp P_cmp O_cmp H_cmp f_s1 f_s2 r c0 hc0 (.inl v) (fun w e => ?_) (fun _ e => by cases e) s1 0 rfl hv
  have e := Sum.inl.inj e
  subst e
  refine AR.seg hG hm 3 [38] (k' := [.code [1, 1, 0, 1], .code [1, 1, 1]]) (t' := [(38, .sc (.bool (decide ((((List.map (intA .u64) s1).length : Nat) : Int) < (((List.map (intA .u64) s2).length : Nat) : Int)))))]) (h' := []) (by kernel_rfl) ?_
  refine AR.cond (.tmp 38) (decide ((((List.map (intA .u64) s1).length : Nat) : Int) < (((List.map (intA .u64) s2).length : Nat) : Int))) (by kernel_rfl) (by kernel_rfl) (fun hb => ?ht14) (fun hb => ?hf14)
  case ht14 =>
    replace H := cond_t hb H
    refine AR.seg hG hm 2 [6] (k' := [.code [1, 1, 0, 1, 0, 1], .code [1, 1, 1]]) (t' := [(6, .sc (.int .i64 (-1)))]) (h' := []) (by kernel_rfl) ?_
    obtain rfl := Option.some.inj H
    exact AR.ret0 (fn := Try.f77) hG Try.func77 (by kernel_rfl) hc0 (r0 := .sc (.int .i64 (-1))) (by kernel_rfl) (WkV.refl _)
  case hf14 =>
    replace H := cond_f hb H
    refine AR.seg hG hm 3 [6] (k' := [.code [1, 1, 1, 1]]) (t' := [(6, .sc (.int .i64 0))]) (h' := []) (by kernel_rfl) ?_
    obtain rfl := Option.some.inj H
    exact AR.ret0 (fn := Try.f77) hG Try.func77 (by kernel_rfl) hc0 (r0 := .sc (.int .i64 0)) (by kernel_rfl) (WkV.refl _)

def cmpL {α : Type} (cmp : α → α → Int) : List α → List α → Int
  | [], [] => 0
  | [], _ :: _ => -1
  | _ :: _, [] => 1
  | x :: l, y :: r => bif cmp x y != 0 then cmp x y else cmpL cmp l r
def cmpS {α : Type} (cmp : α → α → Int) : List α → List α → Sum Unit Int
  | [], _ => .inl ()
  | _ :: _, [] => .inr 1
  | x :: l, y :: r => bif cmp x y != 0 then .inr (cmp x y) else cmpS cmp l r
theorem cmpS_L {α : Type} (cmp : α → α → Int) : ∀ (l r : List α), (match cmpS cmp l r with | .inl _ => if l.length < r.length then -1 else 0 | .inr v => v) = cmpL cmp l r
  | [], [] => rfl
  | [], _ :: _ => by simp [cmpS, cmpL]
  | _ :: _, [] => rfl
  | x :: l, y :: r => by
      rw [cmpS, cmpL, ← cmpS_L cmp l r]
      cases cmp x y != 0
      · simp only [cond_false, List.length_cons, Nat.add_lt_add_iff_right]
      · rfl
theorem slices_CompareFunc__uint64_l0s_eq (s2 : List Int) (cmp : Int → Int → Int) : ∀ (l : List Int) (i : Nat), slices_CompareFunc__uint64_l0s s2 cmp l i = some (cmpS cmp l (s2.drop i))
  | [], i => by rw [slices_CompareFunc__uint64_l0s]; rfl
  | x :: l, i => by
      rw [slices_CompareFunc__uint64_l0s, List.length_map]
      by_cases h : i < s2.length
      · have hc : decide (((i : Nat) : Int) ≥ ((s2.length : Nat) : Int)) = false := decide_eq_false (by omega)
        rw [hc, cond_false, ixO_lt h, Option.bind_some, List.drop_eq_getElem_cons h, cmpS, slices_CompareFunc__uint64_l0s_eq s2 cmp l (i + 1)]
        cases cmp x s2[i] != 0 <;> rfl
      · have hc : decide (((i : Nat) : Int) ≥ ((s2.length : Nat) : Int)) = true := decide_eq_true (by omega)
        rw [hc, cond_true, List.drop_eq_nil_of_le (by omega)]
        rfl
theorem slices_CompareFunc__uint64_eq (s1 s2 : List Int) (cmp : Int → Int → Int) : slices_CompareFunc__uint64_raw s1 s2 cmp = some (cmpL cmp s1 s2) := by
  rw [slices_CompareFunc__uint64_raw, slices_CompareFunc__uint64_l0s_eq, List.drop_zero, ← cmpS_L]
  cases cmpS cmp s1 s2 with
  | inr v => rfl
  | inl u =>
    show (bif _ then _ else _) = _
    rw [List.length_map, List.length_map]
    by_cases h : s1.length < s2.length
    · rw [decide_eq_true (by omega), if_pos h]; rfl
    · rw [decide_eq_false (by omega), if_neg h]; rfl
theorem slices_CompareFunc__uint64_ok (s1 s2 : List Int) (F_cmp : FuncId) (C_cmp : List AV) (cmp : Int → Int → Int) (P_cmp : plainL C_cmp = true) (O_cmp : C_cmp.all oneA = true) (H_cmp : ∀ (y0 : Int) (y1 : Int), ACalls Try.prog tab.S F_cmp ([.sc (.int .u64 y0), .sc (.int .u64 y1)] ++ C_cmp) [] (.sc (.int .i64 (cmp y0 y1))) []) (f_s1 f_s2 : Bool) :
    ACalls Try.prog tab.S 77 [.sl 23 (List.map (intA .u64) s1) f_s1, .sl 23 (List.map (intA .u64) s2) f_s2, .fn F_cmp C_cmp] [] (.sc (.int .i64 (cmpL cmp s1 s2))) [] :=
  slices_CompareFunc__uint64_walk s1 s2 F_cmp C_cmp cmp P_cmp O_cmp H_cmp f_s1 f_s2 _ (slices_CompareFunc__uint64_eq s1 s2 cmp)

/-! ### head.Compare: function 71 -/
noncomputable def head_Compare_F : Go.Sh.Fn := ⟨71, bodyOf Try.f71, 8⟩
def head_Compare_k1 : List Kd := [.pure, .pure, .read, .pure]
def head_Compare_k0 : List Kd := [.pure, .pure, .pure]
def head_Compare (a : List Int) (b : List Int) : Int :=
  (cmpL cmp_Compare_uint64 a b)
theorem head_Compare_walk (a : List Int) (b : List Int) (r : Int) (H : head_Compare a b = r) :
    ACalls Try.prog tab.S 71 [.arr .u64 12 a, .arr .u64 12 b] [] (.sc (.int .i64 r)) [] := by
  have hG := tab_ok
  have hm := mixed
  refine ACalls.of_AR (G := tab) head_Compare_F (fn := Try.f71) Try.func71 (by kernel_rfl) (by kernel_rfl) (by kernel_rfl) (Nat.le_of_ble_eq_true (by kernel_rfl)) ?_
  intro c0 hc0
  replace hc0 : c0.m.length = 0 := hc0
  rw [head_Compare] at H
  refine AR.seg hG hm 1 [0, 1] (k' := [.code [0], .code [1]]) (t' := [(0, .arr .u64 12 a), (1, .arr .u64 12 b)]) (h' := []) (by kernel_rfl) ?_
  refine AR.reg hm head_Compare_k0 (by kernel_rfl) ?_
  refine DK.op' [1, 2] (t' := [(1, .arr .u64 12 b), (2, .ep [.arr .u64 12 a] 0 none)]) (h' := []) (LSpec.boxP (fs := [.arr .u64 12 a]) (by kernel_rfl)) (by kernel_rfl) rfl (by kernel_rfl) rfl ?_
  refine DK.op' [2, 3] (t' := [(2, .ep [.arr .u64 12 a] 0 none), (3, .ep [.arr .u64 12 b] 0 none)]) (h' := []) (LSpec.boxP (fs := [.arr .u64 12 b]) (by kernel_rfl)) (by kernel_rfl) rfl (by kernel_rfl) rfl ?_
  refine DK.seg hG 1 [2, 3] (t' := [(2, .ep [.arr .u64 12 a] 0 none), (3, .ep [.arr .u64 12 b] 0 none)]) (h' := []) (by kernel_rfl) rfl ?_
  refine DK.done (by kernel_rfl) (by kernel_rfl) ?_
  refine AR.seg hG hm 1 [2, 3] (k' := [.code [1, 0], .code [1, 1]]) (t' := [(2, .ep [.arr .u64 12 a] 0 none), (3, .ep [.arr .u64 12 b] 0 none)]) (h' := []) (by kernel_rfl) ?_
  refine AR.reg hm head_Compare_k1 (by kernel_rfl) ?_
  refine DK.op' [3, 5] (t' := [(3, .ep [.arr .u64 12 b] 0 none), (5, .sl 23 (List.map (intA .u64) a) true)]) (h' := []) (LSpec.sliceEp hG (e := 23) (k := .u64) (xs := a) (by kernel_rfl)) (by kernel_rfl) rfl (by kernel_rfl) rfl ?_
  refine DK.op' [5, 6] (t' := [(5, .sl 23 (List.map (intA .u64) a) true), (6, .sl 23 (List.map (intA .u64) b) true)]) (h' := []) (LSpec.sliceEp hG (e := 23) (k := .u64) (xs := b) (by kernel_rfl)) (by kernel_rfl) rfl (by kernel_rfl) rfl ?_
  refine DK.op' [7] (t' := [(7, .sc (.int .i64 (cmpL cmp_Compare_uint64 a b)))]) (h' := []) (LSpec.callF' (caps := []) (slices_CompareFunc__uint64_ok a b 78 [] cmp_Compare_uint64 rfl rfl (fun y0 y1 => cmp_Compare_uint64_calls y0 y1) true true) (by kernel_rfl) (.same rfl (.same rfl (.fn (caps := []) (by kernel_rfl) .nil))) (by kernel_rfl) rfl rfl) (by kernel_rfl) rfl (by kernel_rfl) rfl ?_
  refine DK.seg hG 1 [4] (t' := [(4, .sc (.int .i64 (cmpL cmp_Compare_uint64 a b)))]) (h' := []) (by kernel_rfl) rfl ?_
  refine DK.done (by kernel_rfl) (by kernel_rfl) ?_
  subst H
  exact AR.ret0 (fn := Try.f71) hG Try.func71 (by kernel_rfl) hc0 (r0 := .sc (.int .i64 (cmpL cmp_Compare_uint64 a b))) (by kernel_rfl) (WkV.refl _)
theorem head_Compare_calls (a : List Int) (b : List Int) : ACalls Try.prog tab.S 71 [.arr .u64 12 a, .arr .u64 12 b] [] (.sc (.int .i64 (head_Compare a b))) [] := head_Compare_walk a b _ rfl

/-! ### cmp.Or: function 70 -/
noncomputable def cmp_Or_int_F : Go.Sh.Fn := ⟨70, bodyOf Try.f70, 18⟩
def cmp_Or_int_k0 : List Kd := [.pure, .pure, .pure]
def cmp_Or_int_l0s : List Int → Sum (Unit) (Int)
  | [] =>
    (.inl ())
  | x :: rest =>
    (bif (x != 0) then
      (.inr x)
    else
      cmp_Or_int_l0s rest )
theorem cmp_Or_int_l0_walk (vals : List Int) (f_vals : Bool) (r : Int) (c0 : Ctx) (hc0 : c0.m.length = 0) (res : Sum (Unit) (Int)) (J : ∀ w : Unit, res = .inl w → AR Try.prog tab cmp_Or_int_F c0 (Rp tab.S c0 (.sc (.int .i64 r)) []) [.code [1, 1, 1]] [(3, .sc (.int .i64 0))] []) (Jr : ∀ w, res = .inr w → w = r) :
    ∀ (rest : List Int) (t8 : Nat) (hd : vals.drop t8 = rest) (H : cmp_Or_int_l0s rest = res), AR Try.prog tab cmp_Or_int_F c0 (Rp tab.S c0 (.sc (.int .i64 r)) []) [.code [1, 1, 0, 1, 0, 0], .loop [1, 1, 0, 1, 0], .blk 0, .code [1, 1, 1]] [(3, .sc (.int .i64 0)), (6, .sl 3 (List.map (intA .i64) vals) f_vals), (7, .sc (.int .i64 (((List.map (intA .i64) vals).length : Nat) : Int))), (8, .sc (.int .i64 ((t8 : Nat) : Int)))] [] := by
  have hG := tab_ok
  have hm := mixed
  intro rest
  induction rest with
  | nil =>
    intro t8 hd  H
    rw [cmp_Or_int_l0s] at H
    refine AR.facts 6 rfl fun hf => ?_
    have hlen : vals.length ≤ 9223372036854775807 := by have hq := len_ok hf.2.1; rw [List.length_map] at hq; exact hq
    have hge : vals.length ≤ t8 := List.drop_eq_nil_iff.1 hd
    have hc : (decide (((t8 : Nat) : Int) < (((List.map (intA .i64) vals).length : Nat) : Int))) = false := by rw [List.length_map]; exact decide_eq_false (by omega)
    refine AR.seg hG hm 3 [3, 6, 7, 8, 9] (k' := [.code [1, 1, 0, 1, 0, 0, 1, 0], .code [1, 1, 0, 1, 0, 0, 1, 1], .loop [1, 1, 0, 1, 0], .blk 0, .code [1, 1, 1]]) (t' := [(3, .sc (.int .i64 0)), (6, .sl 3 (List.map (intA .i64) vals) f_vals), (7, .sc (.int .i64 (((List.map (intA .i64) vals).length : Nat) : Int))), (8, .sc (.int .i64 ((t8 : Nat) : Int))), (9, .sc (.bool (decide (((t8 : Nat) : Int) < (((List.map (intA .i64) vals).length : Nat) : Int)))))]) (h' := []) (by kernel_rfl) ?_
    refine AR.cond (.tmp 9) (decide (((t8 : Nat) : Int) < (((List.map (intA .i64) vals).length : Nat) : Int))) (by kernel_rfl) (by kernel_rfl) (fun hb => ?ht7) (fun hb => ?hf7)
    case ht7 => exact absurd (hb.symm.trans hc) (by decide)
    case hf7 =>
      refine AR.seg hG hm 1 [3] (k' := [.code [1, 1, 1]]) (t' := [(3, .sc (.int .i64 0))]) (h' := []) (by kernel_rfl) ?_
      refine AR.keep [3] (t' := [(3, .sc (.int .i64 0))]) (by kernel_rfl) ?_
      exact J () H.symm
  | cons x rest ih =>
    intro t8 hd  H
    rw [cmp_Or_int_l0s] at H
    refine AR.facts 6 rfl fun hf => ?_
    have hlen : vals.length ≤ 9223372036854775807 := by have hq := len_ok hf.2.1; rw [List.length_map] at hq; exact hq
    obtain ⟨hlt, hv_t8, hd2⟩ := drop_cons hd
    have hc : (decide (((t8 : Nat) : Int) < (((List.map (intA .i64) vals).length : Nat) : Int))) = true := by rw [List.length_map]; exact decide_eq_true (by omega)
    have hw : IntKind.i64.wrap (((t8 : Nat) : Int) + 1) = ((t8 + 1 : Nat) : Int) := wrapI_succ (by omega)
    refine AR.seg hG hm 3 [3, 6, 7, 8, 9] (k' := [.code [1, 1, 0, 1, 0, 0, 1, 0], .code [1, 1, 0, 1, 0, 0, 1, 1], .loop [1, 1, 0, 1, 0], .blk 0, .code [1, 1, 1]]) (t' := [(3, .sc (.int .i64 0)), (6, .sl 3 (List.map (intA .i64) vals) f_vals), (7, .sc (.int .i64 (((List.map (intA .i64) vals).length : Nat) : Int))), (8, .sc (.int .i64 ((t8 : Nat) : Int))), (9, .sc (.bool (decide (((t8 : Nat) : Int) < (((List.map (intA .i64) vals).length : Nat) : Int)))))]) (h' := []) (by kernel_rfl) ?_
    refine AR.cond (.tmp 9) (decide (((t8 : Nat) : Int) < (((List.map (intA .i64) vals).length : Nat) : Int))) (by kernel_rfl) (by kernel_rfl) (fun hb => ?ht8) (fun hb => ?hf8)
    case ht8 =>
      refine AR.seg hG hm 4 [3, 6, 7, 8] (k' := [.code [1, 1, 0, 1, 0, 0, 1, 1, 0, 0, 0], .code [1, 1, 0, 1, 0, 0, 1, 1, 0, 0, 1], .blk 1, .code [1, 1, 0, 1, 0, 0, 1, 1, 1], .loop [1, 1, 0, 1, 0], .blk 0, .code [1, 1, 1]]) (t' := [(3, .sc (.int .i64 0)), (6, .sl 3 (List.map (intA .i64) vals) f_vals), (7, .sc (.int .i64 (((List.map (intA .i64) vals).length : Nat) : Int))), (8, .sc (.int .i64 ((t8 : Nat) : Int)))]) (h' := []) (by kernel_rfl) ?_
      refine AR.reg hm cmp_Or_int_k0 (by kernel_rfl) ?_
      refine DK.op' [3, 6, 7, 8, 10] (t' := [(3, .sc (.int .i64 0)), (6, .sl 3 (List.map (intA .i64) vals) f_vals), (7, .sc (.int .i64 (((List.map (intA .i64) vals).length : Nat) : Int))), (8, .sc (.int .i64 ((t8 : Nat) : Int))), (10, .ep [.sc (.int .i64 x)] 0 none)]) (h' := []) (LSpec.index' (r := .sc (.int .i64 x)) (fs := [.sc (.int .i64 x)]) hG (rows := List.map (intA .i64) vals) (j := ((t8 : Nat) : Int)) (by kernel_rfl) (ixO_map hv_t8 _) (by kernel_rfl)) (by kernel_rfl) rfl (by kernel_rfl) rfl ?_
      refine DK.seg hG 2 [3, 5, 6, 7, 8] (t' := [(3, .sc (.int .i64 0)), (5, .sc (.int .i64 x)), (6, .sl 3 (List.map (intA .i64) vals) f_vals), (7, .sc (.int .i64 (((List.map (intA .i64) vals).length : Nat) : Int))), (8, .sc (.int .i64 ((t8 : Nat) : Int)))]) (h' := []) (by kernel_rfl) rfl ?_
      refine DK.done (by kernel_rfl) (by kernel_rfl) ?_
      refine AR.seg hG hm 2 [3, 5, 6, 7, 8, 14] (k' := [.code [1, 1, 0, 1, 0, 0, 1, 1, 0, 0, 1, 1], .blk 1, .code [1, 1, 0, 1, 0, 0, 1, 1, 1], .loop [1, 1, 0, 1, 0], .blk 0, .code [1, 1, 1]]) (t' := [(3, .sc (.int .i64 0)), (5, .sc (.int .i64 x)), (6, .sl 3 (List.map (intA .i64) vals) f_vals), (7, .sc (.int .i64 (((List.map (intA .i64) vals).length : Nat) : Int))), (8, .sc (.int .i64 ((t8 : Nat) : Int))), (14, .sc (.bool (x != 0)))]) (h' := []) (by kernel_rfl) ?_
      refine AR.cond (.tmp 14) (x != 0) (by kernel_rfl) (by kernel_rfl) (fun hb => ?ht9) (fun hb => ?hf9)
      case ht9 =>
        replace H := cond_t hb H
        refine AR.seg hG hm 2 [2] (k' := [.code [1, 1, 0, 1, 0, 0, 1, 1, 0, 0, 1, 1, 0, 1], .blk 1, .code [1, 1, 0, 1, 0, 0, 1, 1, 1], .loop [1, 1, 0, 1, 0], .blk 0, .code [1, 1, 1]]) (t' := [(2, .sc (.int .i64 x))]) (h' := []) (by kernel_rfl) ?_
        subst H
        obtain rfl := Jr _ rfl
        exact AR.ret0 (fn := Try.f70) hG Try.func70 (by kernel_rfl) hc0 (r0 := .sc (.int .i64 x)) (by kernel_rfl) (WkV.refl _)
      case hf9 =>
        replace H := cond_f hb H
        refine AR.seg hG hm 3 [3, 6, 7, 8] (k' := [.loop [1, 1, 0, 1, 0], .blk 0, .code [1, 1, 1]]) (t' := [(3, .sc (.int .i64 0)), (6, .sl 3 (List.map (intA .i64) vals) f_vals), (7, .sc (.int .i64 (((List.map (intA .i64) vals).length : Nat) : Int))), (8, .sc (.int .i64 (IntKind.i64.wrap (((t8 : Nat) : Int) + 1))))]) (h' := []) (by kernel_rfl) ?_
        refine AR.keep [3, 6, 7, 8] (t' := [(3, .sc (.int .i64 0)), (6, .sl 3 (List.map (intA .i64) vals) f_vals), (7, .sc (.int .i64 (((List.map (intA .i64) vals).length : Nat) : Int))), (8, .sc (.int .i64 (IntKind.i64.wrap (((t8 : Nat) : Int) + 1))))]) (by kernel_rfl) ?_
        refine AR.loop_round ?_
        rw [hw]
        exact ih (t8 + 1) hd2 H
    case hf8 => exact absurd (hc.symm.trans hb) (by decide)

def cmp_Or_int (vals : List Int) : Int :=
  sumG (fun q => q) (cmp_Or_int_l0s vals) fun v =>
  0
theorem cmp_Or_int_walk (vals : List Int) (f_vals : Bool) (r : Int) (H : cmp_Or_int vals = r) :
    ACalls Try.prog tab.S 70 [.sl 3 (List.map (intA .i64) vals) f_vals] [] (.sc (.int .i64 r)) [] := by
  have hG := tab_ok
  have hm := mixed
  refine ACalls.of_AR (G := tab) cmp_Or_int_F (fn := Try.f70) Try.func70 (by kernel_rfl) (by kernel_rfl) (by kernel_rfl) (Nat.le_of_ble_eq_true (by kernel_rfl)) ?_
  intro c0 hc0
  replace hc0 : c0.m.length = 0 := hc0
  rw [cmp_Or_int] at H
  refine AR.seg hG hm 8 [3, 6, 7, 8] (k' := [.code [1, 1, 0, 1, 0], .blk 0, .code [1, 1, 1]]) (t' := [(3, .sc (.int .i64 0)), (6, .sl 3 (List.map (intA .i64) vals) f_vals), (7, .sc (.int .i64 (((List.map (intA .i64) vals).length : Nat) : Int))), (8, .sc (.int .i64 0))]) (h' := []) (by kernel_rfl) ?_
  rcases sumG_eq H with ⟨v, hv, H⟩ | ⟨r1, hv, hr1⟩
  case inr =>
    refine AR.into (by kernel_rfl) ?_
    replace hr1 : r1 = r := hr1
    subst hr1
    exact cmp_Or_int_l0_walk vals f_vals _ c0 hc0 (.inr _) (fun _ e => by cases e) (fun _ e => (Sum.inr.inj e).symm) vals 0 rfl hv
  refine AR.into (by kernel_rfl) ?_
  refine cmp_Or_int_l0_walk vals f_vals r c0 hc0 (.inl v) (fun w e => ?_) (fun _ e => by cases e) vals 0 rfl hv
  have e := Sum.inl.inj e
  subst e
  refine AR.seg hG hm 2 [2] (k' := [.code [1, 1, 1, 1]]) (t' := [(2, .sc (.int .i64 0))]) (h' := []) (by kernel_rfl) ?_
  subst H
  exact AR.ret0 (fn := Try.f70) hG Try.func70 (by kernel_rfl) hc0 (r0 := .sc (.int .i64 0)) (by kernel_rfl) (WkV.refl _)
theorem cmp_Or_int_calls (vals : List Int) (f_vals : Bool) : ACalls Try.prog tab.S 70 [.sl 3 (List.map (intA .i64) vals) f_vals] [] (.sc (.int .i64 (cmp_Or_int vals))) [] := cmp_Or_int_walk vals f_vals _ rfl

/-! ### cube.Compare: function 56 -/
noncomputable def cube_Compare_F : Go.Sh.Fn := ⟨56, bodyOf Try.f56, 17⟩
def cube_Compare_k0 : List Kd := [.pure, .read, .pure, .read, .pure, .pure, .read, .pure, .read, .pure, .pure, .pure, .pure]
def cube_Compare (a : Cube) (b : Cube) : Int :=
  (cmp_Or_int [(head_Compare a.Care b.Care), (head_Compare a.Value b.Value)])
theorem cube_Compare_walk (a : Cube) (b : Cube) (r : Int) (H : cube_Compare a b = r) :
    ACalls Try.prog tab.S 56 [Cube.av a, Cube.av b] [] (.sc (.int .i64 r)) [] := by
  have hG := tab_ok
  have hm := mixed
  refine ACalls.of_AR (G := tab) cube_Compare_F (fn := Try.f56) Try.func56 (by kernel_rfl) (by kernel_rfl) (by kernel_rfl) (Nat.le_of_ble_eq_true (by kernel_rfl)) ?_
  intro c0 hc0
  replace hc0 : c0.m.length = 0 := hc0
  rw [cube_Compare] at H
  refine AR.seg hG hm 3 [2, 3] (k' := [.code [1, 0], .code [1, 1]]) (t' := [(2, .ptr 0 0 none), (3, .ptr 1 0 none)]) (h' := [.box 31 (Cube.ch a), .box 31 (Cube.ch b)]) (by kernel_rfl) ?_
  refine AR.reg hm cube_Compare_k0 (by kernel_rfl) ?_
  refine DK.seg hG 4 [2, 3, 6, 8] (t' := [(2, .ptr 0 0 none), (3, .ptr 1 0 none), (6, .arr .u64 12 a.Care), (8, .arr .u64 12 b.Care)]) (h' := [.box 31 (Cube.ch a), .box 31 (Cube.ch b)]) (by kernel_rfl) rfl ?_
  refine DK.op' [2, 3, 9] (t' := [(2, .ptr 0 0 none), (3, .ptr 1 0 none), (9, .sc (.int .i64 (head_Compare a.Care b.Care)))]) (h' := [.box 31 (Cube.ch a), .box 31 (Cube.ch b)]) (LSpec.callP' (head_Compare_calls a.Care b.Care) (by kernel_rfl)) (by kernel_rfl) rfl (by kernel_rfl) rfl ?_
  refine DK.seg hG 4 [9, 11, 13] (t' := [(9, .sc (.int .i64 (head_Compare a.Care b.Care))), (11, .arr .u64 12 a.Value), (13, .arr .u64 12 b.Value)]) (h' := [.box 31 (Cube.ch a), .box 31 (Cube.ch b)]) (by kernel_rfl) rfl ?_
  refine DK.op' [9, 14] (t' := [(9, .sc (.int .i64 (head_Compare a.Care b.Care))), (14, .sc (.int .i64 (head_Compare a.Value b.Value)))]) (h' := [.box 31 (Cube.ch a), .box 31 (Cube.ch b)]) (LSpec.callP' (head_Compare_calls a.Value b.Value) (by kernel_rfl)) (by kernel_rfl) rfl (by kernel_rfl) rfl ?_
  refine DK.seg hG 1 [15] (t' := [(15, .sl 3 (List.map (intA .i64) [(head_Compare a.Care b.Care), (head_Compare a.Value b.Value)]) true)]) (h' := [.box 31 (Cube.ch a), .box 31 (Cube.ch b)]) (by kernel_rfl) rfl ?_
  refine DK.op' [16] (t' := [(16, .sc (.int .i64 (cmp_Or_int [(head_Compare a.Care b.Care), (head_Compare a.Value b.Value)])))]) (h' := [.box 31 (Cube.ch a), .box 31 (Cube.ch b)]) (LSpec.callP' (cmp_Or_int_calls [(head_Compare a.Care b.Care), (head_Compare a.Value b.Value)] true) (by kernel_rfl)) (by kernel_rfl) rfl (by kernel_rfl) rfl ?_
  refine DK.seg hG 1 [4] (t' := [(4, .sc (.int .i64 (cmp_Or_int [(head_Compare a.Care b.Care), (head_Compare a.Value b.Value)])))]) (h' := [.box 31 (Cube.ch a), .box 31 (Cube.ch b)]) (by kernel_rfl) rfl ?_
  refine DK.done (by kernel_rfl) (by kernel_rfl) ?_
  subst H
  exact AR.ret0 (fn := Try.f56) hG Try.func56 (by kernel_rfl) hc0 (r0 := .sc (.int .i64 (cmp_Or_int [(head_Compare a.Care b.Care), (head_Compare a.Value b.Value)]))) (by kernel_rfl) (WkV.refl _)
theorem cube_Compare_calls (a : Cube) (b : Cube) : ACalls Try.prog tab.S 56 [Cube.av a, Cube.av b] [] (.sc (.int .i64 (cube_Compare a b))) [] := cube_Compare_walk a b _ rfl

/-! ### rule.compare: function 35 -/
noncomputable def rule_compare_F : Go.Sh.Fn := ⟨35, bodyOf Try.f35, 20⟩
def rule_compare_k0 : List Kd := [.pure, .read, .pure, .read, .pure, .pure]
def rule_compare (a : Rule) (b : Rule) : Int :=
  (bif (a.Prio != b.Prio) then
    (bif (decide (a.Prio > b.Prio)) then
      (-1)
    else
      1)
  else
    (cube_Compare a.Match b.Match))
theorem rule_compare_walk (a : Rule) (b : Rule) (r : Int) (H : rule_compare a b = r) :
    ACalls Try.prog tab.S 35 [Rule.av a, Rule.av b] [] (.sc (.int .i64 r)) [] := by
  have hG := tab_ok
  have hm := mixed
  refine ACalls.of_AR (G := tab) rule_compare_F (fn := Try.f35) Try.func35 (by kernel_rfl) (by kernel_rfl) (by kernel_rfl) (Nat.le_of_ble_eq_true (by kernel_rfl)) ?_
  intro c0 hc0
  replace hc0 : c0.m.length = 0 := hc0
  rw [rule_compare] at H
  refine AR.seg hG hm 5 [2, 3, 9] (k' := [.code [1, 0, 1], .code [1, 1]]) (t' := [(2, .ptr 0 0 none), (3, .ptr 1 0 none), (9, .sc (.bool (a.Prio != b.Prio)))]) (h' := [.box 34 (Rule.ch a), .box 34 (Rule.ch b)]) (by kernel_rfl) ?_
  refine AR.cond (.tmp 9) (a.Prio != b.Prio) (by kernel_rfl) (by kernel_rfl) (fun hb => ?ht2) (fun hb => ?hf2)
  case ht2 =>
    replace H := cond_t hb H
    refine AR.seg hG hm 3 [14] (k' := [.code [1, 0, 1, 0, 0, 1], .code [1, 0, 1, 0, 1], .code [1, 1]]) (t' := [(14, .sc (.bool (decide (a.Prio > b.Prio))))]) (h' := [.box 34 (Rule.ch a), .box 34 (Rule.ch b)]) (by kernel_rfl) ?_
    refine AR.cond (.tmp 14) (decide (a.Prio > b.Prio)) (by kernel_rfl) (by kernel_rfl) (fun hb => ?ht3) (fun hb => ?hf3)
    case ht3 =>
      replace H := cond_t hb H
      refine AR.seg hG hm 2 [4] (k' := [.code [1, 0, 1, 0, 0, 1, 0, 1], .code [1, 0, 1, 0, 1], .code [1, 1]]) (t' := [(4, .sc (.int .i64 (-1)))]) (h' := [.box 34 (Rule.ch a), .box 34 (Rule.ch b)]) (by kernel_rfl) ?_
      subst H
      exact AR.ret0 (fn := Try.f35) hG Try.func35 (by kernel_rfl) hc0 (r0 := .sc (.int .i64 (-1))) (by kernel_rfl) (WkV.refl _)
    case hf3 =>
      replace H := cond_f hb H
      refine AR.seg hG hm 3 [4] (k' := [.code [1, 0, 1, 0, 1, 1], .code [1, 1]]) (t' := [(4, .sc (.int .i64 1))]) (h' := [.box 34 (Rule.ch a), .box 34 (Rule.ch b)]) (by kernel_rfl) ?_
      subst H
      exact AR.ret0 (fn := Try.f35) hG Try.func35 (by kernel_rfl) hc0 (r0 := .sc (.int .i64 1)) (by kernel_rfl) (WkV.refl _)
  case hf2 =>
    replace H := cond_f hb H
    refine AR.seg hG hm 2 [2, 3] (k' := [.code [1, 1, 0], .code [1, 1, 1]]) (t' := [(2, .ptr 0 0 none), (3, .ptr 1 0 none)]) (h' := [.box 34 (Rule.ch a), .box 34 (Rule.ch b)]) (by kernel_rfl) ?_
    refine AR.reg hm rule_compare_k0 (by kernel_rfl) ?_
    refine DK.seg hG 4 [16, 18] (t' := [(16, Cube.av a.Match), (18, Cube.av b.Match)]) (h' := [.box 34 (Rule.ch a), .box 34 (Rule.ch b)]) (by kernel_rfl) rfl ?_
    refine DK.op' [19] (t' := [(19, .sc (.int .i64 (cube_Compare a.Match b.Match)))]) (h' := [.box 34 (Rule.ch a), .box 34 (Rule.ch b)]) (LSpec.callP' (cube_Compare_calls a.Match b.Match) (by kernel_rfl)) (by kernel_rfl) rfl (by kernel_rfl) rfl ?_
    refine DK.seg hG 1 [4] (t' := [(4, .sc (.int .i64 (cube_Compare a.Match b.Match)))]) (h' := [.box 34 (Rule.ch a), .box 34 (Rule.ch b)]) (by kernel_rfl) rfl ?_
    refine DK.done (by kernel_rfl) (by kernel_rfl) ?_
    subst H
    exact AR.ret0 (fn := Try.f35) hG Try.func35 (by kernel_rfl) hc0 (r0 := .sc (.int .i64 (cube_Compare a.Match b.Match))) (by kernel_rfl) (WkV.refl _)
theorem rule_compare_calls (a : Rule) (b : Rule) : ACalls Try.prog tab.S 35 [Rule.av a, Rule.av b] [] (.sc (.int .i64 (rule_compare a b))) [] := rule_compare_walk a b _ rfl

/-! ### rule.Before: function 14 -/
noncomputable def rule_Before_F : Go.Sh.Fn := ⟨14, bodyOf Try.f14, 9⟩
def rule_Before_k0 : List Kd := [.read, .read, .pure, .pure, .pure]
def rule_Before (a : Rule) (b : Rule) : Bool :=
  (decide ((rule_compare a b) < 0))
theorem rule_Before_walk (a : Rule) (b : Rule) (r : Bool) (H : rule_Before a b = r) :
    ACalls Try.prog tab.S 14 [Rule.av a, Rule.av b] [] (.sc (.bool r)) [] := by
  have hG := tab_ok
  have hm := mixed
  refine ACalls.of_AR (G := tab) rule_Before_F (fn := Try.f14) Try.func14 (by kernel_rfl) (by kernel_rfl) (by kernel_rfl) (Nat.le_of_ble_eq_true (by kernel_rfl)) ?_
  intro c0 hc0
  replace hc0 : c0.m.length = 0 := hc0
  rw [rule_Before] at H
  refine AR.seg hG hm 3 [2, 3] (k' := [.code [1, 0], .code [1, 1]]) (t' := [(2, .ptr 0 0 none), (3, .ptr 1 0 none)]) (h' := [.box 34 (Rule.ch a), .box 34 (Rule.ch b)]) (by kernel_rfl) ?_
  refine AR.reg hm rule_Before_k0 (by kernel_rfl) ?_
  refine DK.seg hG 2 [5, 6] (t' := [(5, Rule.av a), (6, Rule.av b)]) (h' := [.box 34 (Rule.ch a), .box 34 (Rule.ch b)]) (by kernel_rfl) rfl ?_
  refine DK.op' [7] (t' := [(7, .sc (.int .i64 (rule_compare a b)))]) (h' := [.box 34 (Rule.ch a), .box 34 (Rule.ch b)]) (LSpec.callP' (rule_compare_calls a b) (by kernel_rfl)) (by kernel_rfl) rfl (by kernel_rfl) rfl ?_
  refine DK.seg hG 2 [4] (t' := [(4, .sc (.bool (decide ((rule_compare a b) < 0))))]) (h' := [.box 34 (Rule.ch a), .box 34 (Rule.ch b)]) (by kernel_rfl) rfl ?_
  refine DK.done (by kernel_rfl) (by kernel_rfl) ?_
  subst H
  exact AR.ret0 (fn := Try.f14) hG Try.func14 (by kernel_rfl) hc0 (r0 := .sc (.bool (decide ((rule_compare a b) < 0)))) (by kernel_rfl) (WkV.refl _)
theorem rule_Before_calls (a : Rule) (b : Rule) : ACalls Try.prog tab.S 14 [Rule.av a, Rule.av b] [] (.sc (.bool (rule_Before a b))) [] := rule_Before_walk a b _ rfl

/-! ### rule.Key: function 15 -/
noncomputable def rule_Key_F : Go.Sh.Fn := ⟨15, bodyOf Try.f15, 17⟩
def rule_Key_k0 : List Kd := [.pure, .read, .pure, .read, .pure, .pure, .pure, .read, .pure, .read, .pure, .pure, .pure]
def rule_Key (a : Rule) (b : Rule) : Bool :=
  (((a.Match.Value == b.Match.Value) && (a.Match.Care == b.Match.Care)) && (a.Prio == b.Prio))
theorem rule_Key_walk (a : Rule) (b : Rule) (r : Bool) (H : rule_Key a b = r) :
    ACalls Try.prog tab.S 15 [Rule.av a, Rule.av b] [] (.sc (.bool r)) [] := by
  have hG := tab_ok
  have hm := mixed
  refine ACalls.of_AR (G := tab) rule_Key_F (fn := Try.f15) Try.func15 (by kernel_rfl) (by kernel_rfl) (by kernel_rfl) (Nat.le_of_ble_eq_true (by kernel_rfl)) ?_
  intro c0 hc0
  replace hc0 : c0.m.length = 0 := hc0
  rw [rule_Key] at H
  refine AR.seg hG hm 3 [2, 3] (k' := [.code [1, 0], .code [1, 1]]) (t' := [(2, .ptr 0 0 none), (3, .ptr 1 0 none)]) (h' := [.box 34 (Rule.ch a), .box 34 (Rule.ch b)]) (by kernel_rfl) ?_
  refine AR.reg hm rule_Key_k0 (by kernel_rfl) ?_
  refine DK.seg hG 4 [2, 3, 6, 8] (t' := [(2, .ptr 0 0 none), (3, .ptr 1 0 none), (6, Cube.av a.Match), (8, Cube.av b.Match)]) (h' := [.box 34 (Rule.ch a), .box 34 (Rule.ch b)]) (by kernel_rfl) rfl ?_
  refine DK.op' [2, 3, 9] (t' := [(2, .ptr 0 0 none), (3, .ptr 1 0 none), (9, .sc (.bool ((a.Match.Value == b.Match.Value) && (a.Match.Care == b.Match.Care))))]) (h' := [.box 34 (Rule.ch a), .box 34 (Rule.ch b)]) (LSpec.eq' 9 (r := ((a.Match.Value == b.Match.Value) && (a.Match.Care == b.Match.Care))) (by kernel_rfl)) (by kernel_rfl) rfl (by kernel_rfl) rfl ?_
  refine DK.seg hG 1 [2, 3, 10] (t' := [(2, .ptr 0 0 none), (3, .ptr 1 0 none), (10, .sc (.bool ((a.Match.Value == b.Match.Value) && (a.Match.Care == b.Match.Care))))]) (h' := [.box 34 (Rule.ch a), .box 34 (Rule.ch b)]) (by kernel_rfl) rfl ?_
  refine DK.mux 10 ((a.Match.Value == b.Match.Value) && (a.Match.Care == b.Match.Care)) (j := 12) (h' := [.box 34 (Rule.ch a), .box 34 (Rule.ch b)]) (by kernel_rfl) (fun z => [(16, .sc (.bool (z && (a.Prio == b.Prio))))]) ?J1 (fun hb J => ?ht1) (fun hb J => ?hf1)
  case ht1 =>
    exact DK.seg hG 6 [16] (by kernel_rfl) rfl J
  case hf1 =>
    exact DK.seg hG 6 [16] (by kernel_rfl) rfl J
  refine DK.seg hG 1 [4] (t' := [(4, .sc (.bool (((a.Match.Value == b.Match.Value) && (a.Match.Care == b.Match.Care)) && (a.Prio == b.Prio))))]) (h' := [.box 34 (Rule.ch a), .box 34 (Rule.ch b)]) (by kernel_rfl) rfl ?_
  refine DK.done (by kernel_rfl) (by kernel_rfl) ?_
  subst H
  exact AR.ret0 (fn := Try.f15) hG Try.func15 (by kernel_rfl) hc0 (r0 := .sc (.bool (((a.Match.Value == b.Match.Value) && (a.Match.Care == b.Match.Care)) && (a.Prio == b.Prio)))) (by kernel_rfl) (WkV.refl _)
theorem rule_Key_calls (a : Rule) (b : Rule) : ACalls Try.prog tab.S 15 [Rule.av a, Rule.av b] [] (.sc (.bool (rule_Key a b))) [] := rule_Key_walk a b _ rfl

end Go.Proofs.Ytadolbhmdimbkaa

set_option linter.unusedVariables false
set_option linter.unusedSimpArgs false
set_option maxRecDepth 100000
set_option maxHeartbeats 4000000
namespace Go.Proofs.Ytadolbhmdimbkaa
open Go.Sh
noncomputable def slices_Clone__api_Act_F : Go.Sh.Fn := ⟨66, bodyOf Try.f66, 8⟩
theorem slices_Clone__api_Act_calls (s : List Act) (f_s : Bool) : ACalls Try.prog tab.S 66 [.sl 42 (List.map Act.av s) f_s] [] (.sl 42 (List.map Act.av s) false) [] := by
  have hG := tab_ok
  have hm := mixed
  have hE : Ent Try.prog 66 := ent_of Try.func66 (by kernel_rfl) (by kernel_rfl)
  cases s with
  | nil =>
    refine ACalls.empty hE fun p c => ?_
    refine ACalls.of_AR (G := tab) slices_Clone__api_Act_F (fn := Try.f66) Try.func66 (by kernel_rfl) (by kernel_rfl) (by kernel_rfl) (Nat.le_of_ble_eq_true (by kernel_rfl)) ?_
    intro c0 hc0
    replace hc0 : c0.m.length = 0 := hc0
    refine AR.seg hG hm 4 [0] (k' := [.code [1, 0, 0], .code [1, 0, 1], .code [1, 1]]) (t' := [(0, .sc (.slice p 0 c))]) (h' := []) (by kernel_rfl) ?_
    refine AR.reg hm [.pure, .pure] (by kernel_rfl) ?_
    refine DK.seg hG 1 [0, 3] (t' := [(0, .sc (.slice p 0 c)), (3, .sc (.slice p 0 c))]) (h' := []) (by kernel_rfl) rfl ?_
    refine DK.op' [0, 4] (t' := [(0, .sc (.slice p 0 c)), (4, .sc (.bool p.isNone))]) (h' := []) (LSpec.nilEq hG (p := p) (l := 0) (c := c) (by kernel_rfl)) (by kernel_rfl) rfl (by kernel_rfl) rfl ?_
    refine DK.done (by kernel_rfl) (by kernel_rfl) ?_
    refine AR.cond (.tmp 4) p.isNone (by kernel_rfl) (by kernel_rfl) (fun hb => ?ht) (fun hb => ?hf)
    case ht =>
      refine AR.seg hG hm 2 [2] (k' := [.code [1, 0, 1, 0, 1], .code [1, 1]]) (t' := [(2, .sl 0 [] true)]) (h' := []) (by kernel_rfl) ?_
      exact AR.ret0 (fn := Try.f66) hG Try.func66 (by kernel_rfl) hc0 (r0 := .sl 0 [] true) (by kernel_rfl) (WkV.sl (Wk1.nil 42 false))
    case hf =>
      refine AR.seg hG hm 2 [0] (k' := [.code [1, 1, 0], .code [1, 1, 1]]) (t' := [(0, .sc (.slice p 0 c))]) (h' := []) (by kernel_rfl) ?_
      refine AR.reg hm [.pure, .pure, .pure, .pure] (by kernel_rfl) ?_
      refine DK.seg hG 2 [5, 6] (t' := [(5, .sl 42 [] true), (6, .sc (.slice p 0 c))]) (h' := []) (by kernel_rfl) rfl ?_
      refine DK.op' [7] (t' := [(7, .sl 42 [] true)]) (h' := []) (LSpec.app0 hG (e0 := 42) (rows := []) (f := true) (by kernel_rfl)) (by kernel_rfl) rfl (by kernel_rfl) rfl ?_
      refine DK.seg hG 1 [2] (t' := [(2, .sl 42 [] true)]) (h' := []) (by kernel_rfl) rfl ?_
      refine DK.done (by kernel_rfl) (by kernel_rfl) ?_
      exact AR.ret0 (fn := Try.f66) hG Try.func66 (by kernel_rfl) hc0 (r0 := .sl 42 [] true) (by kernel_rfl) (WkV.sl (Wk1.nil 42 false))
  | cons x xs =>
    refine ACalls.facts hE fun hf => ?_
    have hfit : (([] : List Act).length + (x :: xs).length) * 32 ≤ reach := by
      have h1 : (List.map Act.av (x :: xs)).length * 32 ≤ reach := hf.1.1
      simpa using h1
    refine ACalls.of_AR (G := tab) slices_Clone__api_Act_F (fn := Try.f66) Try.func66 (by kernel_rfl) (by kernel_rfl) (by kernel_rfl) (Nat.le_of_ble_eq_true (by kernel_rfl)) ?_
    intro c0 hc0
    replace hc0 : c0.m.length = 0 := hc0
    refine AR.seg hG hm 4 [0] (k' := [.code [1, 0, 0], .code [1, 0, 1], .code [1, 1]]) (t' := [(0, .sl 42 (List.map Act.av (x :: xs)) f_s)]) (h' := []) (by kernel_rfl) ?_
    refine AR.reg hm [.pure, .pure] (by kernel_rfl) ?_
    refine DK.seg hG 1 [0, 3] (t' := [(0, .sl 42 (List.map Act.av (x :: xs)) f_s), (3, .sl 42 (List.map Act.av (x :: xs)) f_s)]) (h' := []) (by kernel_rfl) rfl ?_
    refine DK.op' [0, 4] (t' := [(0, .sl 42 (List.map Act.av (x :: xs)) f_s), (4, .sc (.bool false))]) (h' := []) (LSpec.neNil hG (by kernel_rfl)) (by kernel_rfl) rfl (by kernel_rfl) rfl ?_
    refine DK.done (by kernel_rfl) (by kernel_rfl) ?_
    refine AR.seg hG hm 3 [0] (k' := [.code [1, 1, 0], .code [1, 1, 1]]) (t' := [(0, .sl 42 (List.map Act.av (x :: xs)) f_s)]) (h' := []) (by kernel_rfl) ?_
    refine AR.reg hm [.pure, .pure, .loud, .pure] (by kernel_rfl) ?_
    refine DK.seg hG 2 [5, 6] (t' := [(5, .sl 42 [] true), (6, .sl 42 (List.map Act.av (x :: xs)) f_s)]) (h' := []) (by kernel_rfl) rfl ?_
    refine DK.op' [7] (t' := [(7, .own 0 1)]) (h' := [.row 42 (List.map Act.av ([] ++ (x :: xs))) 1 true]) (LSpec.appendN hG Act.av [] (x :: xs) 42 32 hfit (by kernel_rfl)) (by kernel_rfl) (by kernel_rfl) (by kernel_rfl) rfl ?_
    refine DK.seg hG 1 [2] (t' := [(2, .own 0 1)]) (h' := [.row 42 (List.map Act.av ([] ++ (x :: xs))) 1 true]) (by kernel_rfl) rfl ?_
    refine DK.done (by kernel_rfl) (by kernel_rfl) ?_
    exact AR.ret0 (fn := Try.f66) hG Try.func66 (by kernel_rfl) hc0 (r0 := .sl 42 (List.map Act.av (x :: xs)) false) (by kernel_rfl) (WkV.refl _)

/-! ### slices.Clip: function 65 -/
noncomputable def slices_Clip__api_Act_F : Go.Sh.Fn := ⟨65, bodyOf Try.f65, 9⟩
def slices_Clip__api_Act_k0 : List Kd := [.pure, .pure, .pure, .pure, .pure, .pure, .pure]
def slices_Clip__api_Act_raw (s : List Act) : Option ((List Act)) :=
  (sliceO s none (some (((List.map Act.av s).length : Nat) : Int)) (some (((List.map Act.av s).length : Nat) : Int))).bind fun x =>
  some x
theorem slices_Clip__api_Act_walk (s : List Act) (f_s : Bool) (r : (List Act)) (H : slices_Clip__api_Act_raw s = some r) :
    ACalls Try.prog tab.S 65 [.sl 42 (List.map Act.av s) f_s] [] (.sl 42 (List.map Act.av r) true) [] := by
  have hG := tab_ok
  have hm := mixed
  refine ACalls.of_AR (G := tab) slices_Clip__api_Act_F (fn := Try.f65) Try.func65 (by kernel_rfl) (by kernel_rfl) (by kernel_rfl) (Nat.le_of_ble_eq_true (by kernel_rfl)) ?_
  intro c0 hc0
  replace hc0 : c0.m.length = 0 := hc0
  rw [slices_Clip__api_Act_raw] at H
  refine AR.seg hG hm 3 [0] (k' := [.code [1, 0], .code [1, 1]]) (t' := [(0, .sl 42 (List.map Act.av s) f_s)]) (h' := []) (by kernel_rfl) ?_
  refine AR.reg hm slices_Clip__api_Act_k0 (by kernel_rfl) ?_
  refine DK.seg hG 5 [3, 5, 7] (t' := [(3, .sl 42 (List.map Act.av s) f_s), (5, .sc (.int .i64 (((List.map Act.av s).length : Nat) : Int))), (7, .sc (.int .i64 (((List.map Act.av s).length : Nat) : Int)))]) (h' := []) (by kernel_rfl) rfl ?_
  obtain ⟨x, hv, H⟩ := Option.bind_eq_some_iff.1 H
  refine DK.op' [8] (t' := [(8, .sl 42 (List.map Act.av x) true)]) (h' := []) (LSpec.sliceO hG Act.av s 42 f_s true none (some (((List.map Act.av s).length : Nat) : Int)) (some (((List.map Act.av s).length : Nat) : Int)) hv rfl (by kernel_rfl)) (by kernel_rfl) rfl (by kernel_rfl) rfl ?_
  refine DK.seg hG 1 [2] (t' := [(2, .sl 42 (List.map Act.av x) true)]) (h' := []) (by kernel_rfl) rfl ?_
  refine DK.done (by kernel_rfl) (by kernel_rfl) ?_
  obtain rfl := Option.some.inj H
  exact AR.ret0 (fn := Try.f65) hG Try.func65 (by kernel_rfl) hc0 (r0 := .sl 42 (List.map Act.av x) true) (by kernel_rfl) (WkV.refl _)

theorem slices_Clip__api_Act_calls (s : List Act) (f_s : Bool) : ACalls Try.prog tab.S 65 [.sl 42 (List.map Act.av s) f_s] [] (.sl 42 (List.map Act.av s) true) [] :=
  slices_Clip__api_Act_walk s f_s s (by simp [slices_Clip__api_Act_raw, sliceO])

/-! ### slices.Clip: function 51 -/
noncomputable def slices_Clip__api_Rule_F : Go.Sh.Fn := ⟨51, bodyOf Try.f51, 9⟩
def slices_Clip__api_Rule_k0 : List Kd := [.pure, .pure, .pure, .pure, .pure, .pure, .pure]
def slices_Clip__api_Rule_raw (s : List Rule) : Option ((List Rule)) :=
  (sliceO s none (some (((List.map Rule.av s).length : Nat) : Int)) (some (((List.map Rule.av s).length : Nat) : Int))).bind fun x =>
  some x
theorem slices_Clip__api_Rule_walk (s : List Rule) (f_s : Bool) (r : (List Rule)) (H : slices_Clip__api_Rule_raw s = some r) :
    ACalls Try.prog tab.S 51 [.sl 34 (List.map Rule.av s) f_s] [] (.sl 34 (List.map Rule.av r) true) [] := by
  have hG := tab_ok
  have hm := mixed
  refine ACalls.of_AR (G := tab) slices_Clip__api_Rule_F (fn := Try.f51) Try.func51 (by kernel_rfl) (by kernel_rfl) (by kernel_rfl) (Nat.le_of_ble_eq_true (by kernel_rfl)) ?_
  intro c0 hc0
  replace hc0 : c0.m.length = 0 := hc0
  rw [slices_Clip__api_Rule_raw] at H
  refine AR.seg hG hm 3 [0] (k' := [.code [1, 0], .code [1, 1]]) (t' := [(0, .sl 34 (List.map Rule.av s) f_s)]) (h' := []) (by kernel_rfl) ?_
  refine AR.reg hm slices_Clip__api_Rule_k0 (by kernel_rfl) ?_
  refine DK.seg hG 5 [3, 5, 7] (t' := [(3, .sl 34 (List.map Rule.av s) f_s), (5, .sc (.int .i64 (((List.map Rule.av s).length : Nat) : Int))), (7, .sc (.int .i64 (((List.map Rule.av s).length : Nat) : Int)))]) (h' := []) (by kernel_rfl) rfl ?_
  obtain ⟨x, hv, H⟩ := Option.bind_eq_some_iff.1 H
  refine DK.op' [8] (t' := [(8, .sl 34 (List.map Rule.av x) true)]) (h' := []) (LSpec.sliceO hG Rule.av s 34 f_s true none (some (((List.map Rule.av s).length : Nat) : Int)) (some (((List.map Rule.av s).length : Nat) : Int)) hv rfl (by kernel_rfl)) (by kernel_rfl) rfl (by kernel_rfl) rfl ?_
  refine DK.seg hG 1 [2] (t' := [(2, .sl 34 (List.map Rule.av x) true)]) (h' := []) (by kernel_rfl) rfl ?_
  refine DK.done (by kernel_rfl) (by kernel_rfl) ?_
  obtain rfl := Option.some.inj H
  exact AR.ret0 (fn := Try.f51) hG Try.func51 (by kernel_rfl) hc0 (r0 := .sl 34 (List.map Rule.av x) true) (by kernel_rfl) (WkV.refl _)

theorem slices_Clip__api_Rule_calls (s : List Rule) (f_s : Bool) : ACalls Try.prog tab.S 51 [.sl 34 (List.map Rule.av s) f_s] [] (.sl 34 (List.map Rule.av s) true) [] :=
  slices_Clip__api_Rule_walk s f_s s (by simp [slices_Clip__api_Rule_raw, sliceO])

/-! ### rule.copied: function 49 -/
noncomputable def rule_copied_F : Go.Sh.Fn := ⟨49, bodyOf Try.f49, 9⟩
def rule_copied_k0 : List Kd := [.pure, .read, .pure, .pure, .pure, .loud]
def rule_copied (r2 : Rule) : Rule :=
  r2
theorem rule_copied_walk (r2 : Rule) (r : Rule) (H : rule_copied r2 = r) :
    ACalls Try.prog tab.S 49 [Rule.av r2] [] (Rule.av r) [] := by
  have hG := tab_ok
  have hm := mixed
  refine ACalls.of_AR (G := tab) rule_copied_F (fn := Try.f49) Try.func49 (by kernel_rfl) (by kernel_rfl) (by kernel_rfl) (Nat.le_of_ble_eq_true (by kernel_rfl)) ?_
  intro c0 hc0
  replace hc0 : c0.m.length = 0 := hc0
  rw [rule_copied] at H
  refine AR.seg hG hm 3 [1, 2] (k' := [.code [1, 0], .code [1, 1]]) (t' := [(1, .ptr 0 0 none), (2, .ptr 1 0 none)]) (h' := [.box 34 (Rule.ch r2), .box 34 [.arr .u64 12 [0, 0, 0, 0, 0, 0, 0, 0, 0, 0, 0, 0], .arr .u64 12 [0, 0, 0, 0, 0, 0, 0, 0, 0, 0, 0, 0], .sc (.int .i64 0), .sl 0 [] true, .sc (.int .i64 0), .sc (.int .i64 0), .sc (.int .i64 0), .sc (.int .i64 0), .sc (.int .i64 0), .sc (.int .i64 0)]]) (by kernel_rfl) ?_
  refine AR.reg hm rule_copied_k0 (by kernel_rfl) ?_
  refine DK.seg hG 2 [1, 2, 4] (t' := [(1, .ptr 0 0 none), (2, .ptr 1 0 none), (4, .sl 42 (List.map Act.av r2.Acts) false)]) (h' := [.box 34 (Rule.ch r2), .box 34 [.arr .u64 12 [0, 0, 0, 0, 0, 0, 0, 0, 0, 0, 0, 0], .arr .u64 12 [0, 0, 0, 0, 0, 0, 0, 0, 0, 0, 0, 0], .sc (.int .i64 0), .sl 0 [] true, .sc (.int .i64 0), .sc (.int .i64 0), .sc (.int .i64 0), .sc (.int .i64 0), .sc (.int .i64 0), .sc (.int .i64 0)]]) (by kernel_rfl) rfl ?_
  refine DK.op' [1, 2, 5] (t' := [(1, .ptr 0 0 none), (2, .ptr 1 0 none), (5, .sl 42 (List.map Act.av r2.Acts) false)]) (h' := [.box 34 (Rule.ch r2), .box 34 [.arr .u64 12 [0, 0, 0, 0, 0, 0, 0, 0, 0, 0, 0, 0], .arr .u64 12 [0, 0, 0, 0, 0, 0, 0, 0, 0, 0, 0, 0], .sc (.int .i64 0), .sl 0 [] true, .sc (.int .i64 0), .sc (.int .i64 0), .sc (.int .i64 0), .sc (.int .i64 0), .sc (.int .i64 0), .sc (.int .i64 0)]]) (LSpec.callP' (slices_Clone__api_Act_calls r2.Acts false) (by kernel_rfl)) (by kernel_rfl) rfl (by kernel_rfl) rfl ?_
  refine DK.op' [1, 2, 6] (t' := [(1, .ptr 0 0 none), (2, .ptr 1 0 none), (6, .sl 42 (List.map Act.av r2.Acts) true)]) (h' := [.box 34 (Rule.ch r2), .box 34 [.arr .u64 12 [0, 0, 0, 0, 0, 0, 0, 0, 0, 0, 0, 0], .arr .u64 12 [0, 0, 0, 0, 0, 0, 0, 0, 0, 0, 0, 0], .sc (.int .i64 0), .sl 0 [] true, .sc (.int .i64 0), .sc (.int .i64 0), .sc (.int .i64 0), .sc (.int .i64 0), .sc (.int .i64 0), .sc (.int .i64 0)]]) (LSpec.callP' (slices_Clip__api_Act_calls r2.Acts false) (by kernel_rfl)) (by kernel_rfl) rfl (by kernel_rfl) rfl ?_
  refine DK.seg hG 2 [1, 2] (t' := [(1, .ptr 0 0 none), (2, .ptr 1 0 none)]) (h' := [.box 34 [.arr .u64 12 r2.Match.Value, .arr .u64 12 r2.Match.Care, .sc (.int .i64 r2.Prio), .sl 42 (List.map Act.av r2.Acts) true, .sc (.int .i64 r2.Idle), .sc (.int .i64 r2.Hard), .sc (.int .i64 r2.Owner), .sc (.int .i64 r2.Hits), .sc (.int .i64 r2.Quiet), .sc (.int .i64 r2.Age)], .box 34 [.arr .u64 12 [0, 0, 0, 0, 0, 0, 0, 0, 0, 0, 0, 0], .arr .u64 12 [0, 0, 0, 0, 0, 0, 0, 0, 0, 0, 0, 0], .sc (.int .i64 0), .sl 0 [] true, .sc (.int .i64 0), .sc (.int .i64 0), .sc (.int .i64 0), .sc (.int .i64 0), .sc (.int .i64 0), .sc (.int .i64 0)]]) (by kernel_rfl) rfl ?_
  refine DK.done (by kernel_rfl) (by kernel_rfl) ?_
  refine AR.seg hG hm 2 [2] (k' := [.code [1, 1, 1]]) (t' := [(2, .ptr 1 0 none)]) (h' := [.box 34 [.arr .u64 12 r2.Match.Value, .arr .u64 12 r2.Match.Care, .sc (.int .i64 r2.Prio), .sl 42 (List.map Act.av r2.Acts) true, .sc (.int .i64 r2.Idle), .sc (.int .i64 r2.Hard), .sc (.int .i64 r2.Owner), .sc (.int .i64 r2.Hits), .sc (.int .i64 r2.Quiet), .sc (.int .i64 r2.Age)], .box 34 [.arr .u64 12 r2.Match.Value, .arr .u64 12 r2.Match.Care, .sc (.int .i64 r2.Prio), .sl 42 (List.map Act.av r2.Acts) true, .sc (.int .i64 r2.Idle), .sc (.int .i64 r2.Hard), .sc (.int .i64 r2.Owner), .sc (.int .i64 r2.Hits), .sc (.int .i64 r2.Quiet), .sc (.int .i64 r2.Age)]]) (by kernel_rfl) ?_
  subst H
  exact AR.ret0 (fn := Try.f49) hG Try.func49 (by kernel_rfl) hc0 (r0 := .agg [.arr .u64 12 r2.Match.Value, .arr .u64 12 r2.Match.Care, .sc (.int .i64 r2.Prio), .sl 42 (List.map Act.av r2.Acts) true, .sc (.int .i64 r2.Idle), .sc (.int .i64 r2.Hard), .sc (.int .i64 r2.Owner), .sc (.int .i64 r2.Hits), .sc (.int .i64 r2.Quiet), .sc (.int .i64 r2.Age)]) (by kernel_rfl) (WkV.agg (WkL.cons (Wk1.refl _) (WkL.cons (Wk1.refl _) (WkL.cons (Wk1.refl _) (WkL.cons (Wk1.anyFull true) (WkL.cons (Wk1.refl _) (WkL.cons (Wk1.refl _) (WkL.cons (Wk1.refl _) (WkL.cons (Wk1.refl _) (WkL.cons (Wk1.refl _) (WkL.cons (Wk1.refl _) WkL.nil)))))))))))
theorem rule_copied_calls (r2 : Rule) : ACalls Try.prog tab.S 49 [Rule.av r2] [] (Rule.av (rule_copied r2)) [] := rule_copied_walk r2 _ rfl

end Go.Proofs.Ytadolbhmdimbkaa

set_option linter.unusedVariables false
set_option linter.unusedSimpArgs false
set_option maxRecDepth 100000
set_option maxHeartbeats 4000000
namespace Go.Proofs.Ytadolbhmdimbkaa
open Go.Sh
/-! ### slices.BinarySearchFunc: function 48 -/
noncomputable def slices_BinarySearchFunc__api_Rule_F : Go.Sh.Fn := ⟨48, bodyOf Try.f48, 49⟩
def slices_BinarySearchFunc__api_Rule_k1 : List Kd := [.pure, .pure, .pure, .pure, .pure, .read, .pure, .pure]
def slices_BinarySearchFunc__api_Rule_k0 : List Kd := [.pure, .pure, .pure, .pure, .pure, .pure, .pure]
def slices_BinarySearchFunc__api_Rule_k2 : List Kd := [.pure, .pure, .pure, .pure, .pure, .pure, .pure, .pure, .pure, .pure, .read, .pure, .pure, .pure, .pure, .pure]
def slices_BinarySearchFunc__api_Rule_l0 (x : List Rule) (target : Rule) (cmp : Rule → Rule → Int) : Nat → Int → Int → Option (Int)
  | 0, _, _ => none
  | m + 1, i, j =>
    (bif (decide (i < j)) then
    (ixO x (IntKind.i64.wrap (Int.fdiv (IntKind.u64.wrap (IntKind.i64.wrap (i + j))) (2 ^ (min (1 : Int).toNat (IntKind.u64).bits))))).bind fun x1 =>
    slices_BinarySearchFunc__api_Rule_l0 x target cmp m (bif (decide ((cmp x1 target) < 0)) then (IntKind.i64.wrap ((IntKind.i64.wrap (Int.fdiv (IntKind.u64.wrap (IntKind.i64.wrap (i + j))) (2 ^ (min (1 : Int).toNat (IntKind.u64).bits)))) + 1)) else i) (bif (decide ((cmp x1 target) < 0)) then j else (IntKind.i64.wrap (Int.fdiv (IntKind.u64.wrap (IntKind.i64.wrap (i + j))) (2 ^ (min (1 : Int).toNat (IntKind.u64).bits)))))
  else
    some i)
theorem slices_BinarySearchFunc__api_Rule_l0_walk (q0 : Nat) (x : List Rule) (target : Rule) (F_cmp : FuncId) (C_cmp : List AV) (cmp : Rule → Rule → Int) (P_cmp : plainL C_cmp = true) (O_cmp : C_cmp.all oneA = true) (H_cmp : ∀ (y0 : Rule) (y1 : Rule), ACalls Try.prog tab.S F_cmp ([Rule.av y0, Rule.av y1] ++ C_cmp) [] (.sc (.int .i64 (cmp y0 y1))) []) (f_x : Bool) (r : Int × Bool) (c0 : Ctx) (hc0 : c0.m.length = 0) (res : Int) (J : AR Try.prog tab slices_BinarySearchFunc__api_Rule_F c0 (Rp tab.S c0 (.tup [.sc (.int .i64 r.1), .sc (.bool r.2)]) []) [.code [1, 1, 1, 1]] [(0, .sl 34 (List.map Rule.av x) f_x), (2, .fn F_cmp C_cmp), (4, .ptr 0 0 none), (8, .sc (.int .i64 (((List.map Rule.av x).length : Nat) : Int))), (9, .sc (.int .i64 res))] [.box 34 (Rule.ch target)]) :
    ∀ (m : Nat) (i : Int) (j : Int) (H : slices_BinarySearchFunc__api_Rule_l0 x target cmp m i j = some res), AR Try.prog tab slices_BinarySearchFunc__api_Rule_F c0 (Rp tab.S c0 (.tup [.sc (.int .i64 r.1), .sc (.bool r.2)]) []) [.code [1, 1, 1, 0, 0, 0], .loop [1, 1, 1, 0, 0], .blk 0, .code [1, 1, 1, 1]] [(0, .sl 34 (List.map Rule.av x) f_x), (2, .fn F_cmp C_cmp), (4, .ptr 0 0 none), (8, .sc (.int .i64 (((List.map Rule.av x).length : Nat) : Int))), (9, .sc (.int .i64 i)), (10, .sc (.int .i64 j))] [.box 34 (Rule.ch target)] := by
  have hG := tab_ok
  have hm := mixed
  intro m
  induction m with
  | zero => intro i j H; cases H
  | succ m ih =>
    intro i j H
    rw [slices_BinarySearchFunc__api_Rule_l0] at H
    refine AR.seg hG hm 3 [0, 2, 4, 8, 9, 10, 17] (k' := [.code [1, 1, 1, 0, 0, 0, 0, 1], .code [1, 1, 1, 0, 0, 0, 1], .loop [1, 1, 1, 0, 0], .blk 0, .code [1, 1, 1, 1]]) (t' := [(0, .sl 34 (List.map Rule.av x) f_x), (2, .fn F_cmp C_cmp), (4, .ptr 0 0 none), (8, .sc (.int .i64 (((List.map Rule.av x).length : Nat) : Int))), (9, .sc (.int .i64 i)), (10, .sc (.int .i64 j)), (17, .sc (.bool (decide (i < j))))]) (h' := [.box 34 (Rule.ch target)]) (by kernel_rfl) ?_
    refine AR.cond (.tmp 17) (decide (i < j)) (by kernel_rfl) (by kernel_rfl) (fun hb => ?ht5) (fun hb => ?hf5)
    case ht5 =>
      replace H := cond_t hb H
      refine AR.seg hG hm 3 [0, 2, 4, 8, 9, 10] (k' := [.code [1, 1, 1, 0, 0, 0, 1, 0, 0], .code [1, 1, 1, 0, 0, 0, 1, 0, 1], .blk 1, .loop [1, 1, 1, 0, 0], .blk 0, .code [1, 1, 1, 1]]) (t' := [(0, .sl 34 (List.map Rule.av x) f_x), (2, .fn F_cmp C_cmp), (4, .ptr 0 0 none), (8, .sc (.int .i64 (((List.map Rule.av x).length : Nat) : Int))), (9, .sc (.int .i64 i)), (10, .sc (.int .i64 j))]) (h' := [.box 34 (Rule.ch target)]) (by kernel_rfl) ?_
      refine AR.reg hm slices_BinarySearchFunc__api_Rule_k0 (by kernel_rfl) ?_
      refine DK.seg hG 4 [0, 2, 4, 8, 9, 10, 21] (t' := [(0, .sl 34 (List.map Rule.av x) f_x), (2, .fn F_cmp C_cmp), (4, .ptr 0 0 none), (8, .sc (.int .i64 (((List.map Rule.av x).length : Nat) : Int))), (9, .sc (.int .i64 i)), (10, .sc (.int .i64 j)), (21, .sc (.int .u64 (IntKind.u64.wrap (IntKind.i64.wrap (i + j)))))]) (h' := [.box 34 (Rule.ch target)]) (by kernel_rfl) rfl ?_
      refine DK.op' [0, 2, 4, 8, 9, 10, 22] (t' := [(0, .sl 34 (List.map Rule.av x) f_x), (2, .fn F_cmp C_cmp), (4, .ptr 0 0 none), (8, .sc (.int .i64 (((List.map Rule.av x).length : Nat) : Int))), (9, .sc (.int .i64 i)), (10, .sc (.int .i64 j)), (22, .sc (.int .u64 (Int.fdiv (IntKind.u64.wrap (IntKind.i64.wrap (i + j))) (2 ^ (min (1 : Int).toNat (IntKind.u64).bits)))))]) (h' := [.box 34 (Rule.ch target)]) (LSpec.shr (k := .u64) (a := (IntKind.u64.wrap (IntKind.i64.wrap (i + j)))) (k' := .u64) (b := 1) (by decide) (by kernel_rfl)) (by kernel_rfl) rfl (by kernel_rfl) rfl ?_
      refine DK.seg hG 2 [0, 2, 4, 8, 9, 10, 11] (t' := [(0, .sl 34 (List.map Rule.av x) f_x), (2, .fn F_cmp C_cmp), (4, .ptr 0 0 none), (8, .sc (.int .i64 (((List.map Rule.av x).length : Nat) : Int))), (9, .sc (.int .i64 i)), (10, .sc (.int .i64 j)), (11, .sc (.int .i64 (IntKind.i64.wrap (Int.fdiv (IntKind.u64.wrap (IntKind.i64.wrap (i + j))) (2 ^ (min (1 : Int).toNat (IntKind.u64).bits))))))]) (h' := [.box 34 (Rule.ch target)]) (by kernel_rfl) rfl ?_
      refine DK.done (by kernel_rfl) (by kernel_rfl) ?_
      refine AR.seg hG hm 1 [0, 2, 4, 8, 9, 10, 11] (k' := [.code [1, 1, 1, 0, 0, 0, 1, 0, 1, 0], .code [1, 1, 1, 0, 0, 0, 1, 0, 1, 1], .blk 1, .loop [1, 1, 1, 0, 0], .blk 0, .code [1, 1, 1, 1]]) (t' := [(0, .sl 34 (List.map Rule.av x) f_x), (2, .fn F_cmp C_cmp), (4, .ptr 0 0 none), (8, .sc (.int .i64 (((List.map Rule.av x).length : Nat) : Int))), (9, .sc (.int .i64 i)), (10, .sc (.int .i64 j)), (11, .sc (.int .i64 (IntKind.i64.wrap (Int.fdiv (IntKind.u64.wrap (IntKind.i64.wrap (i + j))) (2 ^ (min (1 : Int).toNat (IntKind.u64).bits))))))]) (h' := [.box 34 (Rule.ch target)]) (by kernel_rfl) ?_
      refine AR.reg hm slices_BinarySearchFunc__api_Rule_k1 (by kernel_rfl) ?_
      refine DK.seg hG 3 [0, 2, 4, 8, 9, 10, 11, 24, 25, 26] (t' := [(0, .sl 34 (List.map Rule.av x) f_x), (2, .fn F_cmp C_cmp), (4, .ptr 0 0 none), (8, .sc (.int .i64 (((List.map Rule.av x).length : Nat) : Int))), (9, .sc (.int .i64 i)), (10, .sc (.int .i64 j)), (11, .sc (.int .i64 (IntKind.i64.wrap (Int.fdiv (IntKind.u64.wrap (IntKind.i64.wrap (i + j))) (2 ^ (min (1 : Int).toNat (IntKind.u64).bits)))))), (24, .fn F_cmp C_cmp), (25, .sl 34 (List.map Rule.av x) f_x), (26, .sc (.int .i64 (IntKind.i64.wrap (Int.fdiv (IntKind.u64.wrap (IntKind.i64.wrap (i + j))) (2 ^ (min (1 : Int).toNat (IntKind.u64).bits))))))]) (h' := [.box 34 (Rule.ch target)]) (by kernel_rfl) rfl ?_
      obtain ⟨x1, hv, H⟩ := Option.bind_eq_some_iff.1 H
      refine DK.op' [0, 2, 4, 8, 9, 10, 11, 24, 27] (t' := [(0, .sl 34 (List.map Rule.av x) f_x), (2, .fn F_cmp C_cmp), (4, .ptr 0 0 none), (8, .sc (.int .i64 (((List.map Rule.av x).length : Nat) : Int))), (9, .sc (.int .i64 i)), (10, .sc (.int .i64 j)), (11, .sc (.int .i64 (IntKind.i64.wrap (Int.fdiv (IntKind.u64.wrap (IntKind.i64.wrap (i + j))) (2 ^ (min (1 : Int).toNat (IntKind.u64).bits)))))), (24, .fn F_cmp C_cmp), (27, .ep [.arr .u64 12 x1.Match.Value, .arr .u64 12 x1.Match.Care, .sc (.int .i64 x1.Prio), .sl 42 (List.map Act.av x1.Acts) false, .sc (.int .i64 x1.Idle), .sc (.int .i64 x1.Hard), .sc (.int .i64 x1.Owner), .sc (.int .i64 x1.Hits), .sc (.int .i64 x1.Quiet), .sc (.int .i64 x1.Age)] 0 none)]) (h' := [.box 34 (Rule.ch target)]) (LSpec.index' (r := Rule.av x1) (fs := [.arr .u64 12 x1.Match.Value, .arr .u64 12 x1.Match.Care, .sc (.int .i64 x1.Prio), .sl 42 (List.map Act.av x1.Acts) false, .sc (.int .i64 x1.Idle), .sc (.int .i64 x1.Hard), .sc (.int .i64 x1.Owner), .sc (.int .i64 x1.Hits), .sc (.int .i64 x1.Quiet), .sc (.int .i64 x1.Age)]) hG (rows := List.map Rule.av x) (j := (IntKind.i64.wrap (Int.fdiv (IntKind.u64.wrap (IntKind.i64.wrap (i + j))) (2 ^ (min (1 : Int).toNat (IntKind.u64).bits))))) (by kernel_rfl) (ixO_map hv _) (by kernel_rfl)) (by kernel_rfl) rfl (by kernel_rfl) rfl ?_
      refine DK.seg hG 2 [0, 2, 4, 8, 9, 10, 11, 24, 28, 29] (t' := [(0, .sl 34 (List.map Rule.av x) f_x), (2, .fn F_cmp C_cmp), (4, .ptr 0 0 none), (8, .sc (.int .i64 (((List.map Rule.av x).length : Nat) : Int))), (9, .sc (.int .i64 i)), (10, .sc (.int .i64 j)), (11, .sc (.int .i64 (IntKind.i64.wrap (Int.fdiv (IntKind.u64.wrap (IntKind.i64.wrap (i + j))) (2 ^ (min (1 : Int).toNat (IntKind.u64).bits)))))), (24, .fn F_cmp C_cmp), (28, Rule.av x1), (29, Rule.av target)]) (h' := [.box 34 (Rule.ch target)]) (by kernel_rfl) rfl ?_
      refine DK.op' [0, 2, 4, 8, 9, 10, 11, 30] (t' := [(0, .sl 34 (List.map Rule.av x) f_x), (2, .fn F_cmp C_cmp), (4, .ptr 0 0 none), (8, .sc (.int .i64 (((List.map Rule.av x).length : Nat) : Int))), (9, .sc (.int .i64 i)), (10, .sc (.int .i64 j)), (11, .sc (.int .i64 (IntKind.i64.wrap (Int.fdiv (IntKind.u64.wrap (IntKind.i64.wrap (i + j))) (2 ^ (min (1 : Int).toNat (IntKind.u64).bits)))))), (30, .sc (.int .i64 (cmp x1 target)))]) (h' := [.box 34 (Rule.ch target)]) (LSpec.callFP' (H_cmp x1 target) (by kernel_rfl) P_cmp O_cmp) (by kernel_rfl) rfl (by kernel_rfl) rfl ?_
      refine DK.seg hG 1 [0, 2, 4, 8, 9, 10, 11, 31] (t' := [(0, .sl 34 (List.map Rule.av x) f_x), (2, .fn F_cmp C_cmp), (4, .ptr 0 0 none), (8, .sc (.int .i64 (((List.map Rule.av x).length : Nat) : Int))), (9, .sc (.int .i64 i)), (10, .sc (.int .i64 j)), (11, .sc (.int .i64 (IntKind.i64.wrap (Int.fdiv (IntKind.u64.wrap (IntKind.i64.wrap (i + j))) (2 ^ (min (1 : Int).toNat (IntKind.u64).bits)))))), (31, .sc (.bool (decide ((cmp x1 target) < 0))))]) (h' := [.box 34 (Rule.ch target)]) (by kernel_rfl) rfl ?_
      refine DK.done (by kernel_rfl) (by kernel_rfl) ?_
      refine AR.join (.tmp 31) (decide ((cmp x1 target) < 0)) (k' := [.blk 1, .loop [1, 1, 1, 0, 0], .blk 0, .code [1, 1, 1, 1]]) (h' := [.box 34 (Rule.ch target)]) (by kernel_rfl) (by kernel_rfl) (fun z => [(0, .sl 34 (List.map Rule.av x) f_x), (2, .fn F_cmp C_cmp), (4, .ptr 0 0 none), (8, .sc (.int .i64 (((List.map Rule.av x).length : Nat) : Int))), (9, .sc (.int .i64 (bif z then (IntKind.i64.wrap ((IntKind.i64.wrap (Int.fdiv (IntKind.u64.wrap (IntKind.i64.wrap (i + j))) (2 ^ (min (1 : Int).toNat (IntKind.u64).bits)))) + 1)) else i))), (10, .sc (.int .i64 (bif z then j else (IntKind.i64.wrap (Int.fdiv (IntKind.u64.wrap (IntKind.i64.wrap (i + j))) (2 ^ (min (1 : Int).toNat (IntKind.u64).bits)))))))]) ?J6 (fun hb J => ?ht6) (fun hb J => ?hf6)
      case ht6 =>
        exact AR.seg hG hm 1 [0, 2, 4, 8, 9, 10] (by kernel_rfl) J
      case hf6 =>
        exact AR.seg hG hm 1 [0, 2, 4, 8, 9, 10] (by kernel_rfl) J
      refine AR.seg hG hm 1 [0, 2, 4, 8, 9, 10] (k' := [.loop [1, 1, 1, 0, 0], .blk 0, .code [1, 1, 1, 1]]) (t' := [(0, .sl 34 (List.map Rule.av x) f_x), (2, .fn F_cmp C_cmp), (4, .ptr 0 0 none), (8, .sc (.int .i64 (((List.map Rule.av x).length : Nat) : Int))), (9, .sc (.int .i64 (bif (decide ((cmp x1 target) < 0)) then (IntKind.i64.wrap ((IntKind.i64.wrap (Int.fdiv (IntKind.u64.wrap (IntKind.i64.wrap (i + j))) (2 ^ (min (1 : Int).toNat (IntKind.u64).bits)))) + 1)) else i))), (10, .sc (.int .i64 (bif (decide ((cmp x1 target) < 0)) then j else (IntKind.i64.wrap (Int.fdiv (IntKind.u64.wrap (IntKind.i64.wrap (i + j))) (2 ^ (min (1 : Int).toNat (IntKind.u64).bits)))))))]) (h' := [.box 34 (Rule.ch target)]) (by kernel_rfl) ?_
      refine AR.keep [0, 2, 4, 8, 9, 10] (t' := [(0, .sl 34 (List.map Rule.av x) f_x), (2, .fn F_cmp C_cmp), (4, .ptr 0 0 none), (8, .sc (.int .i64 (((List.map Rule.av x).length : Nat) : Int))), (9, .sc (.int .i64 (bif (decide ((cmp x1 target) < 0)) then (IntKind.i64.wrap ((IntKind.i64.wrap (Int.fdiv (IntKind.u64.wrap (IntKind.i64.wrap (i + j))) (2 ^ (min (1 : Int).toNat (IntKind.u64).bits)))) + 1)) else i))), (10, .sc (.int .i64 (bif (decide ((cmp x1 target) < 0)) then j else (IntKind.i64.wrap (Int.fdiv (IntKind.u64.wrap (IntKind.i64.wrap (i + j))) (2 ^ (min (1 : Int).toNat (IntKind.u64).bits)))))))]) (by kernel_rfl) ?_
      refine AR.loop_round ?_
      exact ih (bif (decide ((cmp x1 target) < 0)) then (IntKind.i64.wrap ((IntKind.i64.wrap (Int.fdiv (IntKind.u64.wrap (IntKind.i64.wrap (i + j))) (2 ^ (min (1 : Int).toNat (IntKind.u64).bits)))) + 1)) else i) (bif (decide ((cmp x1 target) < 0)) then j else (IntKind.i64.wrap (Int.fdiv (IntKind.u64.wrap (IntKind.i64.wrap (i + j))) (2 ^ (min (1 : Int).toNat (IntKind.u64).bits))))) H
    case hf5 =>
      replace H := cond_f hb H
      refine AR.seg hG hm 1 [0, 2, 4, 8, 9] (k' := [.code [1, 1, 1, 1]]) (t' := [(0, .sl 34 (List.map Rule.av x) f_x), (2, .fn F_cmp C_cmp), (4, .ptr 0 0 none), (8, .sc (.int .i64 (((List.map Rule.av x).length : Nat) : Int))), (9, .sc (.int .i64 i))]) (h' := [.box 34 (Rule.ch target)]) (by kernel_rfl) ?_
      refine AR.keep [0, 2, 4, 8, 9] (t' := [(0, .sl 34 (List.map Rule.av x) f_x), (2, .fn F_cmp C_cmp), (4, .ptr 0 0 none), (8, .sc (.int .i64 (((List.map Rule.av x).length : Nat) : Int))), (9, .sc (.int .i64 i))]) (by kernel_rfl) ?_
      obtain rfl := Option.some.inj H
      exact J
def slices_BinarySearchFunc__api_Rule_raw (q0 : Nat) (x : List Rule) (target : Rule) (cmp : Rule → Rule → Int) : Option (Int × Bool) :=
  (slices_BinarySearchFunc__api_Rule_l0 x target cmp q0 0 (((List.map Rule.av x).length : Nat) : Int)).bind fun v =>
  (bif (decide (v < (((List.map Rule.av x).length : Nat) : Int))) then
    (ixO x v).bind fun x1 =>
    some (v, ((cmp x1 target) == 0))
  else
    some (v, false))
theorem slices_BinarySearchFunc__api_Rule_walk (q0 : Nat) (x : List Rule) (target : Rule) (F_cmp : FuncId) (C_cmp : List AV) (cmp : Rule → Rule → Int) (P_cmp : plainL C_cmp = true) (O_cmp : C_cmp.all oneA = true) (H_cmp : ∀ (y0 : Rule) (y1 : Rule), ACalls Try.prog tab.S F_cmp ([Rule.av y0, Rule.av y1] ++ C_cmp) [] (.sc (.int .i64 (cmp y0 y1))) []) (f_x : Bool) (r : Int × Bool) (H : slices_BinarySearchFunc__api_Rule_raw q0 x target cmp = some r) :
    ACalls Try.prog tab.S 48 [.sl 34 (List.map Rule.av x) f_x, Rule.av target, .fn F_cmp C_cmp] [] (.tup [.sc (.int .i64 r.1), .sc (.bool r.2)]) [] := by
  have hG := tab_ok
  have hm := mixed
  refine ACalls.of_AR (G := tab) slices_BinarySearchFunc__api_Rule_F (fn := Try.f48) Try.func48 (by kernel_rfl) (by kernel_rfl) (by kernel_rfl) (Nat.le_of_ble_eq_true (by kernel_rfl)) ?_
  intro c0 hc0
  replace hc0 : c0.m.length = 0 := hc0
  rw [slices_BinarySearchFunc__api_Rule_raw] at H
  refine AR.seg hG hm 8 [0, 2, 4, 8, 9, 10] (k' := [.code [1, 1, 1, 0, 0], .blk 0, .code [1, 1, 1, 1]]) (t' := [(0, .sl 34 (List.map Rule.av x) f_x), (2, .fn F_cmp C_cmp), (4, .ptr 0 0 none), (8, .sc (.int .i64 (((List.map Rule.av x).length : Nat) : Int))), (9, .sc (.int .i64 0)), (10, .sc (.int .i64 (((List.map Rule.av x).length : Nat) : Int)))]) (h' := [.box 34 (Rule.ch target)]) (by kernel_rfl) ?_
  obtain ⟨v, hv, H⟩ := Option.bind_eq_some_iff.1 H
  refine AR.into (by kernel_rfl) ?_
  refine slices_BinarySearchFunc__api_Rule_l0_walk q0 x target F_cmp C_cmp cmp P_cmp O_cmp H_cmp f_x r c0 hc0 v ?_ q0 0 (((List.map Rule.av x).length : Nat) : Int) hv
  refine AR.seg hG hm 1 [0, 2, 4, 8, 9] (k' := [.code [1, 1, 1, 1, 0], .code [1, 1, 1, 1, 1]]) (t' := [(0, .sl 34 (List.map Rule.av x) f_x), (2, .fn F_cmp C_cmp), (4, .ptr 0 0 none), (8, .sc (.int .i64 (((List.map Rule.av x).length : Nat) : Int))), (9, .sc (.int .i64 v))]) (h' := [.box 34 (Rule.ch target)]) (by kernel_rfl) ?_
  refine AR.reg hm slices_BinarySearchFunc__api_Rule_k2 (by kernel_rfl) ?_
  refine DK.seg hG 5 [0, 2, 4, 9, 35, 39] (t' := [(0, .sl 34 (List.map Rule.av x) f_x), (2, .fn F_cmp C_cmp), (4, .ptr 0 0 none), (9, .sc (.int .i64 v)), (35, .sc (.int .i64 v)), (39, .sc (.bool (decide (v < (((List.map Rule.av x).length : Nat) : Int)))))]) (h' := [.box 34 (Rule.ch target)]) (by kernel_rfl) rfl ?_
  refine DK.split 39 (decide (v < (((List.map Rule.av x).length : Nat) : Int))) (by kernel_rfl) (fun hb => ?ht7) (fun hb => ?hf7)
  case ht7 =>
    replace H := cond_t hb H
    refine DK.seg hG 3 [4, 35, 39, 40, 41, 42] (t' := [(4, .ptr 0 0 none), (35, .sc (.int .i64 v)), (39, .sc (.bool true)), (40, .fn F_cmp C_cmp), (41, .sl 34 (List.map Rule.av x) f_x), (42, .sc (.int .i64 v))]) (h' := [.box 34 (Rule.ch target)]) (by kernel_rfl) rfl ?_
    obtain ⟨x1, hv, H⟩ := Option.bind_eq_some_iff.1 H
    refine DK.op' [4, 35, 39, 40, 43] (t' := [(4, .ptr 0 0 none), (35, .sc (.int .i64 v)), (39, .sc (.bool true)), (40, .fn F_cmp C_cmp), (43, .ep [.arr .u64 12 x1.Match.Value, .arr .u64 12 x1.Match.Care, .sc (.int .i64 x1.Prio), .sl 42 (List.map Act.av x1.Acts) false, .sc (.int .i64 x1.Idle), .sc (.int .i64 x1.Hard), .sc (.int .i64 x1.Owner), .sc (.int .i64 x1.Hits), .sc (.int .i64 x1.Quiet), .sc (.int .i64 x1.Age)] 0 none)]) (h' := [.box 34 (Rule.ch target)]) (LSpec.index' (r := Rule.av x1) (fs := [.arr .u64 12 x1.Match.Value, .arr .u64 12 x1.Match.Care, .sc (.int .i64 x1.Prio), .sl 42 (List.map Act.av x1.Acts) false, .sc (.int .i64 x1.Idle), .sc (.int .i64 x1.Hard), .sc (.int .i64 x1.Owner), .sc (.int .i64 x1.Hits), .sc (.int .i64 x1.Quiet), .sc (.int .i64 x1.Age)]) hG (rows := List.map Rule.av x) (j := v) (by kernel_rfl) (ixO_map hv _) (by kernel_rfl)) (by kernel_rfl) rfl (by kernel_rfl) rfl ?_
    refine DK.seg hG 2 [35, 39, 40, 44, 45] (t' := [(35, .sc (.int .i64 v)), (39, .sc (.bool true)), (40, .fn F_cmp C_cmp), (44, Rule.av x1), (45, Rule.av target)]) (h' := [.box 34 (Rule.ch target)]) (by kernel_rfl) rfl ?_
    refine DK.op' [35, 39, 46] (t' := [(35, .sc (.int .i64 v)), (39, .sc (.bool true)), (46, .sc (.int .i64 (cmp x1 target)))]) (h' := [.box 34 (Rule.ch target)]) (LSpec.callFP' (H_cmp x1 target) (by kernel_rfl) P_cmp O_cmp) (by kernel_rfl) rfl (by kernel_rfl) rfl ?_
    refine DK.seg hG 4 [6, 7] (t' := [(6, .sc (.int .i64 v)), (7, .sc (.bool ((cmp x1 target) == 0)))]) (h' := [.box 34 (Rule.ch target)]) (by kernel_rfl) rfl ?_
    refine DK.done (by kernel_rfl) (by kernel_rfl) ?_
    obtain rfl := Option.some.inj H
    exact AR.ret0 (fn := Try.f48) hG Try.func48 (by kernel_rfl) hc0 (r0 := .tup [.sc (.int .i64 v), .sc (.bool ((cmp x1 target) == 0))]) (by kernel_rfl) (WkV.refl _)
  case hf7 =>
    replace H := cond_f hb H
    refine DK.seg hG 11 [6, 7] (t' := [(6, .sc (.int .i64 v)), (7, .sc (.bool false))]) (h' := [.box 34 (Rule.ch target)]) (by kernel_rfl) rfl ?_
    refine DK.done (by kernel_rfl) (by kernel_rfl) ?_
    obtain rfl := Option.some.inj H
    exact AR.ret0 (fn := Try.f48) hG Try.func48 (by kernel_rfl) hc0 (r0 := .tup [.sc (.int .i64 v), .sc (.bool false)]) (by kernel_rfl) (WkV.refl _)

/-- binary search: the place, by the question asked at each place -/
def bsF (c : Nat → Bool) : Nat → Nat → Nat → Nat
  | 0, i, _ => i
  | m + 1, i, j => if i < j then (if c ((i + j) / 2) then bsF c m ((i + j) / 2 + 1) j else bsF c m i ((i + j) / 2)) else i
theorem bsF_le (c : Nat → Bool) : ∀ (m i j : Nat), i ≤ j → bsF c m i j ≤ j
  | 0, i, j, h => h
  | m + 1, i, j, h => by
      rw [bsF]
      by_cases hij : i < j
      · rw [if_pos hij]
        cases c ((i + j) / 2)
        · have := bsF_le c m i ((i + j) / 2) (by omega)
          simp only [Bool.false_eq_true, if_false]
          omega
        · have := bsF_le c m ((i + j) / 2 + 1) j (by omega)
          simpa using this
      · rw [if_neg hij]; exact h
def lowAt {α : Type} (x : List α) (t : α) (cmp : α → α → Int) (h : Nat) : Bool := match x[h]? with | some y => decide (cmp y t < 0) | none => false
def bsN {α : Type} (x : List α) (t : α) (cmp : α → α → Int) : Nat := bsF (lowAt x t cmp) (x.length + 1) 0 x.length
def bsR {α : Type} (x : List α) (t : α) (cmp : α → α → Int) : Int × Bool := (((bsN x t cmp : Nat) : Int), match x[bsN x t cmp]? with | some y => cmp y t == 0 | none => false)
theorem bsN_le {α : Type} (x : List α) (t : α) (cmp : α → α → Int) : bsN x t cmp ≤ x.length := bsF_le _ _ _ _ (Nat.zero_le _)
theorem half {i j : Nat} (h : i + j ≤ 9223372036854775807) : IntKind.i64.wrap (Int.fdiv (IntKind.u64.wrap (IntKind.i64.wrap ((i : Int) + (j : Int)))) (2 ^ (min (1 : Int).toNat (IntKind.u64).bits))) = (((i + j) / 2 : Nat) : Int) := by
  have e1 : IntKind.i64.wrap ((i : Int) + (j : Int)) = ((i + j : Nat) : Int) := by rw [wrap_eq (by omega) (by omega)]; omega
  have e2 : IntKind.u64.wrap ((i + j : Nat) : Int) = ((i + j : Nat) : Int) := by
    have hw : ∀ n : Int, IntKind.u64.wrap n = n % 18446744073709551616 := fun n => by simp [IntKind.wrap, IntKind.bits, IntKind.signed]
    rw [hw]; omega
  have e3 : min (1 : Int).toNat (IntKind.u64).bits = 1 := by decide
  rw [e1, e2, e3, Int.fdiv_eq_ediv_of_nonneg _ (by omega), wrap_eq (by omega) (by omega)]
  omega
theorem slices_BinarySearchFunc__api_Rule_l0_eq (x : List Rule) (t : Rule) (cmp : Rule → Rule → Int) (hx : x.length ≤ 1000000000000000) : ∀ (m i j : Nat), i ≤ j → j ≤ x.length → j - i < m → slices_BinarySearchFunc__api_Rule_l0 x t cmp m i j = some ((bsF (lowAt x t cmp) m i j : Nat) : Int)
  | 0, i, j, _, _, h => absurd h (by omega)
  | m + 1, i, j, h1, h2, h3 => by
      rw [slices_BinarySearchFunc__api_Rule_l0, bsF]
      by_cases hij : i < j
      · have hlt : (i + j) / 2 < x.length := by omega
        have hc : decide ((i : Int) < (j : Int)) = true := decide_eq_true (by omega)
        have hl : lowAt x t cmp ((i + j) / 2) = decide (cmp x[(i + j) / 2] t < 0) := by
          unfold lowAt
          rw [List.getElem?_eq_getElem hlt]
        rw [hc, cond_true, half (by omega), ixO_lt hlt, Option.bind_some, if_pos hij, hl]
        cases decide (cmp x[(i + j) / 2] t < 0)
        · simp only [cond_false, Bool.false_eq_true, if_false]
          exact slices_BinarySearchFunc__api_Rule_l0_eq x t cmp hx m i ((i + j) / 2) (by omega) (by omega) (by omega)
        · simp only [cond_true, if_true]
          rw [wrap_succ (by omega)]
          exact slices_BinarySearchFunc__api_Rule_l0_eq x t cmp hx m ((i + j) / 2 + 1) j (by omega) (by omega) (by omega)
      · have hc : decide ((i : Int) < (j : Int)) = false := decide_eq_false (by omega)
        rw [hc, cond_false, if_neg hij]
theorem slices_BinarySearchFunc__api_Rule_eq (x : List Rule) (t : Rule) (cmp : Rule → Rule → Int) (hx : x.length ≤ 1000000000000000) : slices_BinarySearchFunc__api_Rule_raw (x.length + 1) x t cmp = some (bsR x t cmp) := by
  rw [slices_BinarySearchFunc__api_Rule_raw, List.length_map]
  have h := slices_BinarySearchFunc__api_Rule_l0_eq x t cmp hx (x.length + 1) 0 x.length (by omega) (by omega) (by omega)
  rw [show ((0 : Nat) : Int) = 0 from rfl] at h
  rw [h, Option.bind_some]
  have hle := bsN_le x t cmp
  unfold bsN at hle
  unfold bsR bsN
  by_cases hlt : bsF (lowAt x t cmp) (x.length + 1) 0 x.length < x.length
  · rw [decide_eq_true (by omega), cond_true, ixO_lt hlt, Option.bind_some, List.getElem?_eq_getElem hlt]
  · rw [decide_eq_false (by omega), cond_false, List.getElem?_eq_none (by omega)]
theorem slices_BinarySearchFunc__api_Rule_ok (x : List Rule) (t : Rule) (F_cmp : FuncId) (C_cmp : List AV) (cmp : Rule → Rule → Int) (P_cmp : plainL C_cmp = true) (O_cmp : C_cmp.all oneA = true) (H_cmp : ∀ (y0 : Rule) (y1 : Rule), ACalls Try.prog tab.S F_cmp ([Rule.av y0, Rule.av y1] ++ C_cmp) [] (.sc (.int .i64 (cmp y0 y1))) []) (f_x : Bool) :
    ACalls Try.prog tab.S 48 [.sl 34 (List.map Rule.av x) f_x, Rule.av t, .fn F_cmp C_cmp] [] (.tup [.sc (.int .i64 (bsR x t cmp).1), .sc (.bool (bsR x t cmp).2)]) [] := by
  refine ACalls.facts (ent_of Try.func48 (by kernel_rfl) (by kernel_rfl)) fun hf => ?_
  have l0 : x.length * 272 ≤ 140737488355328 := by have h := hf.1.1; rw [List.length_map] at h; exact h
  exact slices_BinarySearchFunc__api_Rule_walk (x.length + 1) x t F_cmp C_cmp cmp P_cmp O_cmp H_cmp f_x _ (slices_BinarySearchFunc__api_Rule_eq x t cmp (by omega))

end Go.Proofs.Ytadolbhmdimbkaa

set_option linter.unusedVariables false
set_option linter.unusedSimpArgs false
set_option maxRecDepth 100000
set_option maxHeartbeats 4000000
namespace Go.Proofs.Ytadolbhmdimbkaa
open Go.Sh
/-! ### rule.Sort: function 24 -/
noncomputable def rule_Sort_F : Go.Sh.Fn := ⟨24, bodyOf Try.f24, 38⟩
def rule_Sort_k3 : List Kd := [.pure, .pure, .read, .pure, .read, .loud]
def rule_Sort_k4 : List Kd := [.pure, .pure, .read, .pure, .pure, .loud, .pure]
def rule_Sort_k2 : List Kd := [.pure, .read, .read, .pure, .pure, .pure, .pure, .pure]
def rule_Sort_k1 : List Kd := [.read, .pure, .pure]
def rule_Sort_k0 : List Kd := [.pure, .pure, .loud, .loud]
def rule_Sort_k5 : List Kd := [.pure, .loud, .pure]
def rule_Sort_l0s : List Rule → List Rule → Option ((List Rule))
  | [], out =>
    some out
  | x :: rest, out =>
    (bif (!(rule_Sound x)) then
      rule_Sort_l0s rest out
    else
      (bif (bsR out x rule_compare).2 then
        (ixO out ((bsR out x rule_compare).1)).bind fun x1 =>
        rule_Sort_l0s rest (out.set (((bsR out x rule_compare).1).toNat) (rule_copied x))
      else
        fitO (out.length + [(rule_copied x)].length) 272 (
        (insO out ((bsR out x rule_compare).1) (rule_copied x)).bind fun rows =>
        rule_Sort_l0s rest rows)))
theorem rule_Sort_l0_walk (list : List Rule) (f_list : Bool) (r : (List Rule)) (c0 : Ctx) (hc0 : c0.m.length = 0) (res : (List Rule)) (J : AR Try.prog tab rule_Sort_F c0 (Rp tab.S c0 (.sl 34 (List.map Rule.av r) true) []) [.code [1, 1, 1]] [(3, .own 0 1000000)] [.row 34 (List.map Rule.av res) 1000000 true]) :
    ∀ (rest : List Rule) (t10 : Nat) (hd : list.drop t10 = rest) (out : List Rule) (H : rule_Sort_l0s rest out = some res), AR Try.prog tab rule_Sort_F c0 (Rp tab.S c0 (.sl 34 (List.map Rule.av r) true) []) [.code [1, 1, 0, 1, 0, 0], .loop [1, 1, 0, 1, 0], .blk 0, .code [1, 1, 1]] [(3, .own 0 1000000), (8, .sl 34 (List.map Rule.av list) f_list), (9, .sc (.int .i64 (((List.map Rule.av list).length : Nat) : Int))), (10, .sc (.int .i64 ((t10 : Nat) : Int)))] [.row 34 (List.map Rule.av out) 1000000 true] := by
  have hG := tab_ok
  have hm := mixed
  intro rest
  induction rest with
  | nil =>
    intro t10 hd out H
    rw [rule_Sort_l0s] at H
    refine AR.facts 8 rfl fun hf => ?_
    have hlen : list.length ≤ 9223372036854775807 := by have hq := len_ok hf.2.1; rw [List.length_map] at hq; exact hq
    have hge : list.length ≤ t10 := List.drop_eq_nil_iff.1 hd
    have hc : (decide (((t10 : Nat) : Int) < (((List.map Rule.av list).length : Nat) : Int))) = false := by rw [List.length_map]; exact decide_eq_false (by omega)
    refine AR.seg hG hm 3 [3, 8, 9, 10, 11] (k' := [.code [1, 1, 0, 1, 0, 0, 1, 0], .code [1, 1, 0, 1, 0, 0, 1, 1], .loop [1, 1, 0, 1, 0], .blk 0, .code [1, 1, 1]]) (t' := [(3, .own 0 1000000), (8, .sl 34 (List.map Rule.av list) f_list), (9, .sc (.int .i64 (((List.map Rule.av list).length : Nat) : Int))), (10, .sc (.int .i64 ((t10 : Nat) : Int))), (11, .sc (.bool (decide (((t10 : Nat) : Int) < (((List.map Rule.av list).length : Nat) : Int)))))]) (h' := [.row 34 (List.map Rule.av out) 1000000 true]) (by kernel_rfl) ?_
    refine AR.cond (.tmp 11) (decide (((t10 : Nat) : Int) < (((List.map Rule.av list).length : Nat) : Int))) (by kernel_rfl) (by kernel_rfl) (fun hb => ?ht13) (fun hb => ?hf13)
    case ht13 => exact absurd (hb.symm.trans hc) (by decide)
    case hf13 =>
      refine AR.seg hG hm 1 [3] (k' := [.code [1, 1, 1]]) (t' := [(3, .own 0 1000000)]) (h' := [.row 34 (List.map Rule.av out) 1000000 true]) (by kernel_rfl) ?_
      refine AR.keep [3] (t' := [(3, .own 0 1000000)]) (by kernel_rfl) ?_
      obtain rfl := Option.some.inj H
      exact J
  | cons x rest ih =>
    intro t10 hd out H
    rw [rule_Sort_l0s] at H
    refine AR.facts 8 rfl fun hf => ?_
    have hlen : list.length ≤ 9223372036854775807 := by have hq := len_ok hf.2.1; rw [List.length_map] at hq; exact hq
    obtain ⟨hlt, hv_t10, hd2⟩ := drop_cons hd
    have hc : (decide (((t10 : Nat) : Int) < (((List.map Rule.av list).length : Nat) : Int))) = true := by rw [List.length_map]; exact decide_eq_true (by omega)
    have hw : IntKind.i64.wrap (((t10 : Nat) : Int) + 1) = ((t10 + 1 : Nat) : Int) := wrapI_succ (by omega)
    refine AR.seg hG hm 3 [3, 8, 9, 10, 11] (k' := [.code [1, 1, 0, 1, 0, 0, 1, 0], .code [1, 1, 0, 1, 0, 0, 1, 1], .loop [1, 1, 0, 1, 0], .blk 0, .code [1, 1, 1]]) (t' := [(3, .own 0 1000000), (8, .sl 34 (List.map Rule.av list) f_list), (9, .sc (.int .i64 (((List.map Rule.av list).length : Nat) : Int))), (10, .sc (.int .i64 ((t10 : Nat) : Int))), (11, .sc (.bool (decide (((t10 : Nat) : Int) < (((List.map Rule.av list).length : Nat) : Int)))))]) (h' := [.row 34 (List.map Rule.av out) 1000000 true]) (by kernel_rfl) ?_
    refine AR.cond (.tmp 11) (decide (((t10 : Nat) : Int) < (((List.map Rule.av list).length : Nat) : Int))) (by kernel_rfl) (by kernel_rfl) (fun hb => ?ht14) (fun hb => ?hf14)
    case ht14 =>
      refine AR.seg hG hm 4 [3, 8, 9, 10] (k' := [.code [1, 1, 0, 1, 0, 0, 1, 1, 0, 0, 0], .code [1, 1, 0, 1, 0, 0, 1, 1, 0, 0, 1], .blk 1, .code [1, 1, 0, 1, 0, 0, 1, 1, 1], .loop [1, 1, 0, 1, 0], .blk 0, .code [1, 1, 1]]) (t' := [(3, .own 0 1000000), (8, .sl 34 (List.map Rule.av list) f_list), (9, .sc (.int .i64 (((List.map Rule.av list).length : Nat) : Int))), (10, .sc (.int .i64 ((t10 : Nat) : Int)))]) (h' := [.row 34 (List.map Rule.av out) 1000000 true]) (by kernel_rfl) ?_
      refine AR.reg hm rule_Sort_k0 (by kernel_rfl) ?_
      refine DK.op' [3, 8, 9, 10, 12] (t' := [(3, .own 0 1000000), (8, .sl 34 (List.map Rule.av list) f_list), (9, .sc (.int .i64 (((List.map Rule.av list).length : Nat) : Int))), (10, .sc (.int .i64 ((t10 : Nat) : Int))), (12, .ep [.arr .u64 12 x.Match.Value, .arr .u64 12 x.Match.Care, .sc (.int .i64 x.Prio), .sl 42 (List.map Act.av x.Acts) false, .sc (.int .i64 x.Idle), .sc (.int .i64 x.Hard), .sc (.int .i64 x.Owner), .sc (.int .i64 x.Hits), .sc (.int .i64 x.Quiet), .sc (.int .i64 x.Age)] 0 none)]) (h' := [.row 34 (List.map Rule.av out) 1000000 true]) (LSpec.index' (r := Rule.av x) (fs := [.arr .u64 12 x.Match.Value, .arr .u64 12 x.Match.Care, .sc (.int .i64 x.Prio), .sl 42 (List.map Act.av x.Acts) false, .sc (.int .i64 x.Idle), .sc (.int .i64 x.Hard), .sc (.int .i64 x.Owner), .sc (.int .i64 x.Hits), .sc (.int .i64 x.Quiet), .sc (.int .i64 x.Age)]) hG (rows := List.map Rule.av list) (j := ((t10 : Nat) : Int)) (by kernel_rfl) (ixO_map hv_t10 _) (by kernel_rfl)) (by kernel_rfl) rfl (by kernel_rfl) rfl ?_
      refine DK.seg hG 3 [3, 5, 8, 9, 10] (t' := [(3, .own 0 1000000), (5, .ptr 1 0 none), (8, .sl 34 (List.map Rule.av list) f_list), (9, .sc (.int .i64 (((List.map Rule.av list).length : Nat) : Int))), (10, .sc (.int .i64 ((t10 : Nat) : Int)))]) (h' := [.row 34 (List.map Rule.av out) 1000000 true, .box 34 (Rule.ch x)]) (by kernel_rfl) rfl ?_
      refine DK.done (by kernel_rfl) (by kernel_rfl) ?_
      refine AR.seg hG hm 2 [3, 5, 8, 9, 10] (k' := [.code [1, 1, 0, 1, 0, 0, 1, 1, 0, 0, 1, 0, 0], .code [1, 1, 0, 1, 0, 0, 1, 1, 0, 0, 1, 0, 1], .code [1, 1, 0, 1, 0, 0, 1, 1, 0, 0, 1, 1], .blk 1, .code [1, 1, 0, 1, 0, 0, 1, 1, 1], .loop [1, 1, 0, 1, 0], .blk 0, .code [1, 1, 1]]) (t' := [(3, .own 0 1000000), (5, .ptr 1 0 none), (8, .sl 34 (List.map Rule.av list) f_list), (9, .sc (.int .i64 (((List.map Rule.av list).length : Nat) : Int))), (10, .sc (.int .i64 ((t10 : Nat) : Int)))]) (h' := [.row 34 (List.map Rule.av out) 1000000 true, .box 34 (Rule.ch x)]) (by kernel_rfl) ?_
      refine AR.reg hm rule_Sort_k1 (by kernel_rfl) ?_
      refine DK.seg hG 1 [3, 5, 8, 9, 10, 14] (t' := [(3, .own 0 1000000), (5, .ptr 1 0 none), (8, .sl 34 (List.map Rule.av list) f_list), (9, .sc (.int .i64 (((List.map Rule.av list).length : Nat) : Int))), (10, .sc (.int .i64 ((t10 : Nat) : Int))), (14, Rule.av x)]) (h' := [.row 34 (List.map Rule.av out) 1000000 true, .box 34 (Rule.ch x)]) (by kernel_rfl) rfl ?_
      refine DK.op' [3, 5, 8, 9, 10, 15] (t' := [(3, .own 0 1000000), (5, .ptr 1 0 none), (8, .sl 34 (List.map Rule.av list) f_list), (9, .sc (.int .i64 (((List.map Rule.av list).length : Nat) : Int))), (10, .sc (.int .i64 ((t10 : Nat) : Int))), (15, .sc (.bool (rule_Sound x)))]) (h' := [.row 34 (List.map Rule.av out) 1000000 true, .box 34 (Rule.ch x)]) (LSpec.callP' (rule_Sound_calls x) (by kernel_rfl)) (by kernel_rfl) rfl (by kernel_rfl) rfl ?_
      refine DK.seg hG 1 [3, 5, 8, 9, 10, 16] (t' := [(3, .own 0 1000000), (5, .ptr 1 0 none), (8, .sl 34 (List.map Rule.av list) f_list), (9, .sc (.int .i64 (((List.map Rule.av list).length : Nat) : Int))), (10, .sc (.int .i64 ((t10 : Nat) : Int))), (16, .sc (.bool (!(rule_Sound x))))]) (h' := [.row 34 (List.map Rule.av out) 1000000 true, .box 34 (Rule.ch x)]) (by kernel_rfl) rfl ?_
      refine DK.done (by kernel_rfl) (by kernel_rfl) ?_
      refine AR.cond (.tmp 16) (!(rule_Sound x)) (by kernel_rfl) (by kernel_rfl) (fun hb => ?ht15) (fun hb => ?hf15)
      case ht15 =>
        replace H := cond_t hb H
        refine AR.seg hG hm 2 [3, 8, 9, 10] (k' := [.loop [1, 1, 0, 1, 0], .blk 0, .code [1, 1, 1]]) (t' := [(3, .own 0 1000000), (8, .sl 34 (List.map Rule.av list) f_list), (9, .sc (.int .i64 (((List.map Rule.av list).length : Nat) : Int))), (10, .sc (.int .i64 (IntKind.i64.wrap (((t10 : Nat) : Int) + 1))))]) (h' := [.row 34 (List.map Rule.av out) 1000000 true, .box 34 (Rule.ch x)]) (by kernel_rfl) ?_
        refine AR.keep [3, 8, 9, 10] (t' := [(3, .own 0 1000000), (8, .sl 34 (List.map Rule.av list) f_list), (9, .sc (.int .i64 (((List.map Rule.av list).length : Nat) : Int))), (10, .sc (.int .i64 (IntKind.i64.wrap (((t10 : Nat) : Int) + 1))))]) (by kernel_rfl) ?_
        refine AR.drop' 1 hc0 (t' := [(3, .own 0 1000000), (8, .sl 34 (List.map Rule.av list) f_list), (9, .sc (.int .i64 (((List.map Rule.av list).length : Nat) : Int))), (10, .sc (.int .i64 (IntKind.i64.wrap (((t10 : Nat) : Int) + 1))))]) (h' := [.row 34 (List.map Rule.av out) 1000000 true]) (by kernel_rfl) ?_
        refine AR.loop_round ?_
        rw [hw]
        exact ih (t10 + 1) hd2 out H
      case hf15 =>
        replace H := cond_f hb H
        refine AR.seg hG hm 2 [3, 5, 8, 9, 10] (k' := [.code [1, 1, 0, 1, 0, 0, 1, 1, 0, 0, 1, 1, 0], .code [1, 1, 0, 1, 0, 0, 1, 1, 0, 0, 1, 1, 1], .blk 1, .code [1, 1, 0, 1, 0, 0, 1, 1, 1], .loop [1, 1, 0, 1, 0], .blk 0, .code [1, 1, 1]]) (t' := [(3, .own 0 1000000), (5, .ptr 1 0 none), (8, .sl 34 (List.map Rule.av list) f_list), (9, .sc (.int .i64 (((List.map Rule.av list).length : Nat) : Int))), (10, .sc (.int .i64 ((t10 : Nat) : Int)))]) (h' := [.row 34 (List.map Rule.av out) 1000000 true, .box 34 (Rule.ch x)]) (by kernel_rfl) ?_
        refine AR.reg hm rule_Sort_k2 (by kernel_rfl) ?_
        refine DK.seg hG 2 [3, 5, 8, 9, 10, 18, 19] (t' := [(3, .own 0 1000000), (5, .ptr 1 0 none), (8, .sl 34 (List.map Rule.av list) f_list), (9, .sc (.int .i64 (((List.map Rule.av list).length : Nat) : Int))), (10, .sc (.int .i64 ((t10 : Nat) : Int))), (18, .own 0 1000000), (19, Rule.av x)]) (h' := [.row 34 (List.map Rule.av out) 1000000 true, .box 34 (Rule.ch x)]) (by kernel_rfl) rfl ?_
        refine DK.op' [3, 5, 8, 9, 10, 20] (t' := [(3, .own 0 1000000), (5, .ptr 1 0 none), (8, .sl 34 (List.map Rule.av list) f_list), (9, .sc (.int .i64 (((List.map Rule.av list).length : Nat) : Int))), (10, .sc (.int .i64 ((t10 : Nat) : Int))), (20, .tup [.sc (.int .i64 ((bsR out x rule_compare).1)), .sc (.bool ((bsR out x rule_compare).2))])]) (h' := [.row 34 (List.map Rule.av out) 1000000 true, .box 34 (Rule.ch x)]) (LSpec.callF' (caps := []) (slices_BinarySearchFunc__api_Rule_ok out x 35 [] rule_compare rfl rfl (fun y0 y1 => rule_compare_calls y0 y1) false) (by kernel_rfl) (.same rfl (.same rfl (.fn (caps := []) (by kernel_rfl) .nil))) (by kernel_rfl) rfl rfl) (by kernel_rfl) rfl (by kernel_rfl) rfl ?_
        refine DK.seg hG 5 [3, 5, 6, 7, 8, 9, 10] (t' := [(3, .own 0 1000000), (5, .ptr 1 0 none), (6, .sc (.int .i64 ((bsR out x rule_compare).1))), (7, .sc (.bool ((bsR out x rule_compare).2))), (8, .sl 34 (List.map Rule.av list) f_list), (9, .sc (.int .i64 (((List.map Rule.av list).length : Nat) : Int))), (10, .sc (.int .i64 ((t10 : Nat) : Int)))]) (h' := [.row 34 (List.map Rule.av out) 1000000 true, .box 34 (Rule.ch x)]) (by kernel_rfl) rfl ?_
        refine DK.done (by kernel_rfl) (by kernel_rfl) ?_
        refine AR.seg hG hm 2 [3, 5, 6, 8, 9, 10, 23] (k' := [.code [1, 1, 0, 1, 0, 0, 1, 1, 0, 0, 1, 1, 1, 1], .blk 1, .code [1, 1, 0, 1, 0, 0, 1, 1, 1], .loop [1, 1, 0, 1, 0], .blk 0, .code [1, 1, 1]]) (t' := [(3, .own 0 1000000), (5, .ptr 1 0 none), (6, .sc (.int .i64 ((bsR out x rule_compare).1))), (8, .sl 34 (List.map Rule.av list) f_list), (9, .sc (.int .i64 (((List.map Rule.av list).length : Nat) : Int))), (10, .sc (.int .i64 ((t10 : Nat) : Int))), (23, .sc (.bool ((bsR out x rule_compare).2)))]) (h' := [.row 34 (List.map Rule.av out) 1000000 true, .box 34 (Rule.ch x)]) (by kernel_rfl) ?_
        refine AR.cond (.tmp 23) ((bsR out x rule_compare).2) (by kernel_rfl) (by kernel_rfl) (fun hb => ?ht16) (fun hb => ?hf16)
        case ht16 =>
          replace H := cond_t hb H
          refine AR.reg hm rule_Sort_k3 (by kernel_rfl) ?_
          refine DK.seg hG 3 [3, 8, 9, 10, 24, 25, 26] (t' := [(3, .own 0 1000000), (8, .sl 34 (List.map Rule.av list) f_list), (9, .sc (.int .i64 (((List.map Rule.av list).length : Nat) : Int))), (10, .sc (.int .i64 ((t10 : Nat) : Int))), (24, .own 0 1000000), (25, .sc (.int .i64 ((bsR out x rule_compare).1))), (26, Rule.av x)]) (h' := [.row 34 (List.map Rule.av out) 1000000 true, .box 34 (Rule.ch x)]) (by kernel_rfl) rfl ?_
          refine DK.op' [3, 8, 9, 10, 24, 25, 27] (t' := [(3, .own 0 1000000), (8, .sl 34 (List.map Rule.av list) f_list), (9, .sc (.int .i64 (((List.map Rule.av list).length : Nat) : Int))), (10, .sc (.int .i64 ((t10 : Nat) : Int))), (24, .own 0 1000000), (25, .sc (.int .i64 ((bsR out x rule_compare).1))), (27, Rule.av (rule_copied x))]) (h' := [.row 34 (List.map Rule.av out) 1000000 true, .box 34 (Rule.ch x)]) (LSpec.callP' (rule_copied_calls x) (by kernel_rfl)) (by kernel_rfl) rfl (by kernel_rfl) rfl ?_
          obtain ⟨x1, hv_x1, H⟩ := Option.bind_eq_some_iff.1 H
          refine DK.op' [3, 8, 9, 10, 27, 28] (t' := [(3, .own 0 1000000), (8, .sl 34 (List.map Rule.av list) f_list), (9, .sc (.int .i64 (((List.map Rule.av list).length : Nat) : Int))), (10, .sc (.int .i64 ((t10 : Nat) : Int))), (27, Rule.av (rule_copied x)), (28, .el 34 0 1000000 (((bsR out x rule_compare).1).toNat) 0)]) (h' := [.row 34 (List.map Rule.av out) 1000000 true, .box 34 (Rule.ch x)]) (LSpec.indexOwn hG (e := 34) (o := 0) (k := 1000000) (rows := List.map Rule.av out) (j := ((bsR out x rule_compare).1)) (ixO_req hv_x1 Rule.av) (by kernel_rfl)) (by kernel_rfl) rfl (by kernel_rfl) rfl ?_
          refine DK.op' [3, 8, 9, 10] (t' := [(3, .own 0 1000000), (8, .sl 34 (List.map Rule.av list) f_list), (9, .sc (.int .i64 (((List.map Rule.av list).length : Nat) : Int))), (10, .sc (.int .i64 ((t10 : Nat) : Int)))]) (h' := [.row 34 (List.map Rule.av (out.set (((bsR out x rule_compare).1).toNat) (rule_copied x))) 1000000 true, .box 34 (Rule.ch x)]) (LSpec.storeEl' hG Rule.av out (rule_copied x) (ty := 34) (e := 34) (o := 0) (k := 1000000) (j := (((bsR out x rule_compare).1).toNat)) (off := 0) (a := Rule.av (rule_copied x)) (fs := (Rule.ch x1)) (fs' := (Rule.ch (rule_copied x))) (by kernel_rfl) (ixO_map hv_x1 Rule.av).2 (by kernel_rfl) (by kernel_rfl) (by kernel_rfl) (by kernel_rfl)) (by kernel_rfl) (by kernel_rfl) (by kernel_rfl) rfl ?_
          refine DK.done (by kernel_rfl) (by kernel_rfl) ?_
          refine AR.seg hG hm 2 [3, 8, 9, 10] (k' := [.loop [1, 1, 0, 1, 0], .blk 0, .code [1, 1, 1]]) (t' := [(3, .own 0 1000000), (8, .sl 34 (List.map Rule.av list) f_list), (9, .sc (.int .i64 (((List.map Rule.av list).length : Nat) : Int))), (10, .sc (.int .i64 (IntKind.i64.wrap (((t10 : Nat) : Int) + 1))))]) (h' := [.row 34 (List.map Rule.av (out.set (((bsR out x rule_compare).1).toNat) (rule_copied x))) 1000000 true, .box 34 (Rule.ch x)]) (by kernel_rfl) ?_
          refine AR.keep [3, 8, 9, 10] (t' := [(3, .own 0 1000000), (8, .sl 34 (List.map Rule.av list) f_list), (9, .sc (.int .i64 (((List.map Rule.av list).length : Nat) : Int))), (10, .sc (.int .i64 (IntKind.i64.wrap (((t10 : Nat) : Int) + 1))))]) (by kernel_rfl) ?_
          refine AR.drop' 1 hc0 (t' := [(3, .own 0 1000000), (8, .sl 34 (List.map Rule.av list) f_list), (9, .sc (.int .i64 (((List.map Rule.av list).length : Nat) : Int))), (10, .sc (.int .i64 (IntKind.i64.wrap (((t10 : Nat) : Int) + 1))))]) (h' := [.row 34 (List.map Rule.av (out.set (((bsR out x rule_compare).1).toNat) (rule_copied x))) 1000000 true]) (by kernel_rfl) ?_
          refine AR.loop_round ?_
          rw [hw]
          exact ih (t10 + 1) hd2 (out.set (((bsR out x rule_compare).1).toNat) (rule_copied x)) H
        case hf16 =>
          replace H := cond_f hb H
          refine AR.reg hm rule_Sort_k4 (by kernel_rfl) ?_
          refine DK.seg hG 3 [8, 9, 10, 29, 30, 31] (t' := [(8, .sl 34 (List.map Rule.av list) f_list), (9, .sc (.int .i64 (((List.map Rule.av list).length : Nat) : Int))), (10, .sc (.int .i64 ((t10 : Nat) : Int))), (29, .own 0 1000000), (30, .sc (.int .i64 ((bsR out x rule_compare).1))), (31, Rule.av x)]) (h' := [.row 34 (List.map Rule.av out) 1000000 true, .box 34 (Rule.ch x)]) (by kernel_rfl) rfl ?_
          refine DK.op' [8, 9, 10, 29, 30, 32] (t' := [(8, .sl 34 (List.map Rule.av list) f_list), (9, .sc (.int .i64 (((List.map Rule.av list).length : Nat) : Int))), (10, .sc (.int .i64 ((t10 : Nat) : Int))), (29, .own 0 1000000), (30, .sc (.int .i64 ((bsR out x rule_compare).1))), (32, Rule.av (rule_copied x))]) (h' := [.row 34 (List.map Rule.av out) 1000000 true, .box 34 (Rule.ch x)]) (LSpec.callP' (rule_copied_calls x) (by kernel_rfl)) (by kernel_rfl) rfl (by kernel_rfl) rfl ?_
          refine DK.seg hG 1 [8, 9, 10, 29, 30, 33] (t' := [(8, .sl 34 (List.map Rule.av list) f_list), (9, .sc (.int .i64 (((List.map Rule.av list).length : Nat) : Int))), (10, .sc (.int .i64 ((t10 : Nat) : Int))), (29, .own 0 1000000), (30, .sc (.int .i64 ((bsR out x rule_compare).1))), (33, .sl 34 (List.map Rule.av [(rule_copied x)]) true)]) (h' := [.row 34 (List.map Rule.av out) 1000000 true, .box 34 (Rule.ch x)]) (by kernel_rfl) rfl ?_
          obtain ⟨hfit, H⟩ := fitO_some H
          obtain ⟨rows, hv, H⟩ := Option.bind_eq_some_iff.1 H
          refine DK.op' [8, 9, 10, 34] (t' := [(8, .sl 34 (List.map Rule.av list) f_list), (9, .sc (.int .i64 (((List.map Rule.av list).length : Nat) : Int))), (10, .sc (.int .i64 ((t10 : Nat) : Int))), (34, .own 0 1000001)]) (h' := [.row 34 (List.map Rule.av rows) 1000001 true, .box 34 (Rule.ch x)]) (LSpec.callO (o := 0) (k := 1000000) 1000001 slices_Insert__api_Rule_ent (slices_Insert__api_Rule_O out (rule_copied x) ((bsR out x rule_compare).1) rows true hv hfit) (by kernel_rfl) (by kernel_rfl) (by decide) (by decide)) (by kernel_rfl) (by kernel_rfl) (by kernel_rfl) rfl ?_
          refine DK.seg hG 1 [3, 8, 9, 10] (t' := [(3, .own 0 1000001), (8, .sl 34 (List.map Rule.av list) f_list), (9, .sc (.int .i64 (((List.map Rule.av list).length : Nat) : Int))), (10, .sc (.int .i64 ((t10 : Nat) : Int)))]) (h' := [.row 34 (List.map Rule.av rows) 1000001 true, .box 34 (Rule.ch x)]) (by kernel_rfl) rfl ?_
          refine DK.done (by kernel_rfl) (by kernel_rfl) ?_
          refine AR.seg hG hm 2 [3, 8, 9, 10] (k' := [.loop [1, 1, 0, 1, 0], .blk 0, .code [1, 1, 1]]) (t' := [(3, .own 0 1000001), (8, .sl 34 (List.map Rule.av list) f_list), (9, .sc (.int .i64 (((List.map Rule.av list).length : Nat) : Int))), (10, .sc (.int .i64 (IntKind.i64.wrap (((t10 : Nat) : Int) + 1))))]) (h' := [.row 34 (List.map Rule.av rows) 1000001 true, .box 34 (Rule.ch x)]) (by kernel_rfl) ?_
          refine AR.keep [3, 8, 9, 10] (t' := [(3, .own 0 1000001), (8, .sl 34 (List.map Rule.av list) f_list), (9, .sc (.int .i64 (((List.map Rule.av list).length : Nat) : Int))), (10, .sc (.int .i64 (IntKind.i64.wrap (((t10 : Nat) : Int) + 1))))]) (by kernel_rfl) ?_
          refine AR.norm' 0 1000000 hc0 (t' := [(3, .own 0 1000000), (8, .sl 34 (List.map Rule.av list) f_list), (9, .sc (.int .i64 (((List.map Rule.av list).length : Nat) : Int))), (10, .sc (.int .i64 (IntKind.i64.wrap (((t10 : Nat) : Int) + 1))))]) (h' := [.row 34 (List.map Rule.av rows) 1000000 true, .box 34 (Rule.ch x)]) (by kernel_rfl) ?_
          refine AR.drop' 1 hc0 (t' := [(3, .own 0 1000000), (8, .sl 34 (List.map Rule.av list) f_list), (9, .sc (.int .i64 (((List.map Rule.av list).length : Nat) : Int))), (10, .sc (.int .i64 (IntKind.i64.wrap (((t10 : Nat) : Int) + 1))))]) (h' := [.row 34 (List.map Rule.av rows) 1000000 true]) (by kernel_rfl) ?_
          refine AR.loop_round ?_
          rw [hw]
          exact ih (t10 + 1) hd2 rows H
    case hf14 => exact absurd (hc.symm.trans hb) (by decide)

def rule_Sort_raw (list : List Rule) : Option ((List Rule)) :=
  (rule_Sort_l0s list ([] : List Rule)).bind fun v =>
  some v
theorem rule_Sort_walk (list : List Rule) (f_list : Bool) (r : (List Rule)) (H : rule_Sort_raw list = some r) :
    ACalls Try.prog tab.S 24 [.sl 34 (List.map Rule.av list) f_list] [] (.sl 34 (List.map Rule.av r) true) [] := by
  have hG := tab_ok
  have hm := mixed
  refine ACalls.of_AR (G := tab) rule_Sort_F (fn := Try.f24) Try.func24 (by kernel_rfl) (by kernel_rfl) (by kernel_rfl) (Nat.le_of_ble_eq_true (by kernel_rfl)) ?_
  intro c0 hc0
  replace hc0 : c0.m.length = 0 := hc0
  rw [rule_Sort_raw] at H
  refine AR.seg hG hm 8 [3, 8, 9, 10] (k' := [.code [1, 1, 0, 1, 0], .blk 0, .code [1, 1, 1]]) (t' := [(3, .sl 0 [] true), (8, .sl 34 (List.map Rule.av list) f_list), (9, .sc (.int .i64 (((List.map Rule.av list).length : Nat) : Int))), (10, .sc (.int .i64 0))]) (h' := []) (by kernel_rfl) ?_
  refine AR.adoptB' 3 34 (t' := [(3, .own 0 1000000), (8, .sl 34 (List.map Rule.av list) f_list), (9, .sc (.int .i64 (((List.map Rule.av list).length : Nat) : Int))), (10, .sc (.int .i64 0))]) (h' := [.row 34 (List.map Rule.av ([] : List Rule)) 1000000 true]) (by kernel_rfl) ?_
  refine AR.keep [3, 8, 9, 10] (t' := [(3, .own 0 1000000), (8, .sl 34 (List.map Rule.av list) f_list), (9, .sc (.int .i64 (((List.map Rule.av list).length : Nat) : Int))), (10, .sc (.int .i64 0))]) (by kernel_rfl) ?_
  obtain ⟨v, hv, H⟩ := Option.bind_eq_some_iff.1 H
  refine AR.into (by kernel_rfl) ?_
  refine rule_Sort_l0_walk list f_list r c0 hc0 v ?_ list 0 rfl ([] : List Rule) hv
  refine AR.seg hG hm 1 [3] (k' := [.code [1, 1, 1, 0], .code [1, 1, 1, 1]]) (t' := [(3, .own 0 1000000)]) (h' := [.row 34 (List.map Rule.av v) 1000000 true]) (by kernel_rfl) ?_
  refine AR.reg hm rule_Sort_k5 (by kernel_rfl) ?_
  refine DK.seg hG 1 [36] (t' := [(36, .own 0 1000000)]) (h' := [.row 34 (List.map Rule.av v) 1000000 true]) (by kernel_rfl) rfl ?_
  refine DK.op' [37] (t' := [(37, .sl 34 (List.map Rule.av v) true)]) (h' := [.row 34 (List.map Rule.av v) 1000000 false]) (LSpec.callC' [0] (slices_Clip__api_Rule_calls v false) (by kernel_rfl) (by kernel_rfl)) (by kernel_rfl) (by kernel_rfl) (by kernel_rfl) rfl ?_
  refine DK.seg hG 1 [2] (t' := [(2, .sl 34 (List.map Rule.av v) true)]) (h' := [.row 34 (List.map Rule.av v) 1000000 false]) (by kernel_rfl) rfl ?_
  refine DK.done (by kernel_rfl) (by kernel_rfl) ?_
  obtain rfl := Option.some.inj H
  exact AR.ret0 (fn := Try.f24) hG Try.func24 (by kernel_rfl) hc0 (r0 := .sl 34 (List.map Rule.av v) true) (by kernel_rfl) (WkV.refl _)

def putR (out : List Rule) (x : Rule) : List Rule :=
  bif !(rule_Sound x) then out else
  bif (bsR out x rule_compare).2 then out.set (bsN out x rule_compare) x else out.take (bsN out x rule_compare) ++ x :: out.drop (bsN out x rule_compare)
def sortR (l : List Rule) : List Rule := l.foldl putR []
theorem copied_eq (x : Rule) : rule_copied x = x := rfl
theorem bsR_lt {x : List Rule} {t : Rule} {cmp : Rule → Rule → Int} (h : (bsR x t cmp).2 = true) : bsN x t cmp < x.length := by
  unfold bsR at h
  by_cases hlt : bsN x t cmp < x.length
  · exact hlt
  · simp only [List.getElem?_eq_none (by omega : x.length ≤ bsN x t cmp)] at h
    cases h
theorem putR_len (out : List Rule) (x : Rule) : (putR out x).length ≤ out.length + 1 := by
  unfold putR
  cases !(rule_Sound x)
  · cases (bsR out x rule_compare).2
    · have := bsN_le out x rule_compare
      simp only [cond_false, List.length_append, List.length_cons, List.length_take, List.length_drop]
      omega
    · simp only [cond_true, cond_false, List.length_set]; omega
  · simp only [cond_true]; omega
theorem rule_Sort_l0s_eq : ∀ (l out : List Rule), (out.length + l.length) * 272 ≤ 140737488355328 → rule_Sort_l0s l out = some (l.foldl putR out)
  | [], out, _ => by rw [rule_Sort_l0s]; rfl
  | x :: l, out, h => by
      rw [List.length_cons] at h
      have hp := putR_len out x
      have ih := rule_Sort_l0s_eq l (putR out x) (by omega)
      rw [rule_Sort_l0s, List.foldl_cons, ← ih]
      unfold putR
      cases hs : !(rule_Sound x)
      · simp only [cond_false]
        cases hb : (bsR out x rule_compare).2
        · simp only [cond_false]
          have e1 : (bsR out x rule_compare).1 = ((bsN out x rule_compare : Nat) : Int) := rfl
          have hle := bsN_le out x rule_compare
          rw [fitO_eq (by rw [List.length_cons, List.length_nil]; omega), e1]
          unfold insO
          rw [if_pos (by omega), Int.toNat_natCast]
          rfl
        · simp only [cond_true]
          have e1 : (bsR out x rule_compare).1 = ((bsN out x rule_compare : Nat) : Int) := rfl
          rw [e1, ixO_lt (bsR_lt hb)]
          rfl
      · rfl
theorem rule_Sort_eq (l : List Rule) (h : l.length * 272 ≤ 140737488355328) : rule_Sort_raw l = some (sortR l) := by
  rw [rule_Sort_raw, rule_Sort_l0s_eq l [] (by rw [List.length_nil, Nat.zero_add]; exact h)]
  rfl
theorem rule_Sort_ok (l : List Rule) (f : Bool) : ACalls Try.prog tab.S 24 [.sl 34 (List.map Rule.av l) f] [] (.sl 34 (List.map Rule.av (sortR l)) true) [] := by
  refine ACalls.facts (ent_of Try.func24 (by kernel_rfl) (by kernel_rfl)) fun hf => ?_
  have l0 : l.length * 272 ≤ 140737488355328 := by have h := hf.1.1; rw [List.length_map] at h; exact h
  exact rule_Sort_walk l f _ (rule_Sort_eq l l0)

end Go.Proofs.Ytadolbhmdimbkaa
