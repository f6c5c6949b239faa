import Derived.Test.YtjicebidjfbkpaaProg
import Derived.Test.YtjicebidjfbkpaaM3RuleOwn
set_option linter.unusedVariables false
set_option linter.unusedSimpArgs false
set_option maxRecDepth 100000
set_option maxHeartbeats 4000000
namespace Go.Proofs.Ytjicebidjfbkpaa
open Go.Sh
def tab : Go.Sh.Tab := [
 (1, ⟨.other, 1, 8, [.sc .nilFunc]⟩),
 (2, ⟨.int .i64, 1, 8, [.sc (.int .i64 0)]⟩),
 (3, ⟨.int .i64, 1, 8, [.sc (.int .i64 0)]⟩),
 (4, ⟨.bool, 1, 1, [.sc (.bool false)]⟩),
 (5, ⟨.int .u8, 1, 1, [.sc (.int .u8 0)]⟩),
 (9, ⟨.str, 1, 16, [.sc (.string ⟨#[]⟩)]⟩),
 (12, ⟨.int .u64, 1, 8, [.sc (.int .u64 0)]⟩),
 (13, ⟨.struct [(0, 9), (1, 12)], 2, 24, [.sc (.string ⟨#[]⟩), .sc (.int .u64 0)]⟩),
 (21, ⟨.int .i32, 1, 4, [.sc (.int .i32 0)]⟩),
 (22, ⟨.slice 31, 1, 24, [.sl 0 [] true]⟩),
 (23, ⟨.other, 1, 8, [.sc .nilFunc]⟩),
 (24, ⟨.int .u64, 1, 8, [.sc (.int .u64 0)]⟩),
 (25, ⟨.arr 12 24, 12, 96, [.arr .u64 12 [0, 0, 0, 0, 0, 0, 0, 0, 0, 0, 0, 0]]⟩),
 (26, ⟨.arr 12 24, 12, 96, [.arr .u64 12 [0, 0, 0, 0, 0, 0, 0, 0, 0, 0, 0, 0]]⟩),
 (27, ⟨.struct [(0, 26), (12, 26)], 24, 192, [.arr .u64 12 [0, 0, 0, 0, 0, 0, 0, 0, 0, 0, 0, 0], .arr .u64 12 [0, 0, 0, 0, 0, 0, 0, 0, 0, 0, 0, 0]]⟩),
 (28, ⟨.struct [(0, 26), (12, 26)], 24, 192, [.arr .u64 12 [0, 0, 0, 0, 0, 0, 0, 0, 0, 0, 0, 0], .arr .u64 12 [0, 0, 0, 0, 0, 0, 0, 0, 0, 0, 0, 0]]⟩),
 (29, ⟨.slice 34, 1, 24, [.sl 0 [] true]⟩),
 (30, ⟨.struct [(0, 28), (24, 3), (25, 29), (26, 3), (27, 3), (28, 3), (29, 3), (30, 3), (31, 3)], 32, 272, [.arr .u64 12 [0, 0, 0, 0, 0, 0, 0, 0, 0, 0, 0, 0], .arr .u64 12 [0, 0, 0, 0, 0, 0, 0, 0, 0, 0, 0, 0], .sc (.int .i64 0), .sl 0 [] true, .sc (.int .i64 0), .sc (.int .i64 0), .sc (.int .i64 0), .sc (.int .i64 0), .sc (.int .i64 0), .sc (.int .i64 0)]⟩),
 (31, ⟨.struct [(0, 28), (24, 3), (25, 29), (26, 3), (27, 3), (28, 3), (29, 3), (30, 3), (31, 3)], 32, 272, [.arr .u64 12 [0, 0, 0, 0, 0, 0, 0, 0, 0, 0, 0, 0], .arr .u64 12 [0, 0, 0, 0, 0, 0, 0, 0, 0, 0, 0, 0], .sc (.int .i64 0), .sl 0 [] true, .sc (.int .i64 0), .sc (.int .i64 0), .sc (.int .i64 0), .sc (.int .i64 0), .sc (.int .i64 0), .sc (.int .i64 0)]⟩),
 (32, ⟨.other, 1, 8, [.sc .nilFunc]⟩),
 (33, ⟨.struct [(0, 3), (1, 3), (2, 3), (3, 24)], 4, 32, [.sc (.int .i64 0), .sc (.int .i64 0), .sc (.int .i64 0), .sc (.int .u64 0)]⟩),
 (34, ⟨.struct [(0, 3), (1, 3), (2, 3), (3, 24)], 4, 32, [.sc (.int .i64 0), .sc (.int .i64 0), .sc (.int .i64 0), .sc (.int .u64 0)]⟩),
 (35, ⟨.other, 1, 8, [.sc .nilFunc]⟩),
 (36, ⟨.other, 1, 8, [.sc .nilFunc]⟩),
 (38, ⟨.other, 1, 8, [.sc .nilFunc]⟩),
 (39, ⟨.other, 1, 8, [.sc .nilFunc]⟩),
 (40, ⟨.other, 1, 8, [.sc .nilFunc]⟩),
 (41, ⟨.struct [(0, 3), (1, 28), (25, 3), (26, 29), (27, 3), (28, 3), (29, 3), (30, 4)], 31, 264, [.sc (.int .i64 0), .arr .u64 12 [0, 0, 0, 0, 0, 0, 0, 0, 0, 0, 0, 0], .arr .u64 12 [0, 0, 0, 0, 0, 0, 0, 0, 0, 0, 0, 0], .sc (.int .i64 0), .sl 0 [] true, .sc (.int .i64 0), .sc (.int .i64 0), .sc (.int .i64 0), .sc (.bool false)]⟩),
 (42, ⟨.struct [(0, 3), (1, 28), (25, 3), (26, 29), (27, 3), (28, 3), (29, 3), (30, 4)], 31, 264, [.sc (.int .i64 0), .arr .u64 12 [0, 0, 0, 0, 0, 0, 0, 0, 0, 0, 0, 0], .arr .u64 12 [0, 0, 0, 0, 0, 0, 0, 0, 0, 0, 0, 0], .sc (.int .i64 0), .sl 0 [] true, .sc (.int .i64 0), .sc (.int .i64 0), .sc (.int .i64 0), .sc (.bool false)]⟩),
 (43, ⟨.int .i64, 1, 8, [.sc (.int .i64 0)]⟩),
 (45, ⟨.other, 1, 8, [.sc .nilFunc]⟩),
 (46, ⟨.other, 1, 8, [.sc .nilFunc]⟩),
 (47, ⟨.other, 1, 8, [.sc .nilFunc]⟩),
 (49, ⟨.other, 1, 8, [.sc .nilFunc]⟩),
 (50, ⟨.other, 1, 8, [.sc .nilFunc]⟩),
 (51, ⟨.other, 1, 8, [.sc .nilFunc]⟩),
 (52, ⟨.other, 1, 8, [.sc .nilFunc]⟩),
 (53, ⟨.other, 1, 8, [.sc .nilFunc]⟩),
 (54, ⟨.other, 1, 8, [.sc .nilFunc]⟩),
 (55, ⟨.other, 1, 8, [.sc .nilFunc]⟩),
 (56, ⟨.other, 1, 8, [.sc .nilFunc]⟩),
 (57, ⟨.other, 1, 8, [.sc .nilFunc]⟩),
 (58, ⟨.ptr 31, 1, 8, [.sc (.pointer none)]⟩),
 (59, ⟨.other, 1, 8, [.sc .nilFunc]⟩),
 (60, ⟨.other, 1, 8, [.sc .nilFunc]⟩),
 (61, ⟨.other, 1, 8, [.sc .nilFunc]⟩),
 (62, ⟨.other, 1, 8, [.sc .nilFunc]⟩),
 (63, ⟨.other, 1, 8, [.sc .nilFunc]⟩),
 (64, ⟨.other, 1, 8, [.sc .nilFunc]⟩),
 (65, ⟨.other, 1, 8, [.sc .nilFunc]⟩),
 (66, ⟨.other, 1, 8, [.sc .nilFunc]⟩),
 (67, ⟨.other, 1, 8, [.sc .nilFunc]⟩),
 (68, ⟨.int .u64, 1, 8, [.sc (.int .u64 0)]⟩),
 (69, ⟨.other, 1, 8, [.sc .nilFunc]⟩),
 (70, ⟨.other, 1, 8, [.sc .nilFunc]⟩),
 (71, ⟨.other, 1, 8, [.sc .nilFunc]⟩),
 (72, ⟨.other, 1, 8, [.sc .nilFunc]⟩),
 (73, ⟨.other, 1, 8, [.sc .nilFunc]⟩),
 (74, ⟨.other, 1, 8, [.sc .nilFunc]⟩),
 (75, ⟨.other, 1, 8, [.sc .nilFunc]⟩),
 (76, ⟨.other, 1, 8, [.sc .nilFunc]⟩),
 (77, ⟨.other, 1, 8, [.sc .nilFunc]⟩),
 (78, ⟨.other, 1, 8, [.sc .nilFunc]⟩),
 (80, ⟨.other, 1, 8, [.sc .nilFunc]⟩),
 (81, ⟨.other, 1, 8, [.sc .nilFunc]⟩),
 (82, ⟨.other, 1, 8, [.sc .nilFunc]⟩),
 (84, ⟨.other, 1, 8, [.sc .nilFunc]⟩),
 (85, ⟨.slice 3, 1, 24, [.sl 0 [] true]⟩),
 (86, ⟨.other, 1, 8, [.sc .nilFunc]⟩),
 (87, ⟨.slice 24, 1, 24, [.sl 0 [] true]⟩),
 (88, ⟨.other, 1, 8, [.sc .nilFunc]⟩),
 (89, ⟨.other, 1, 8, [.sc .nilFunc]⟩),
 (90, ⟨.other, 1, 8, [.sc .nilFunc]⟩),
 (91, ⟨.other, 1, 8, [.sc .nilFunc]⟩),
 (92, ⟨.other, 1, 8, [.sc .nilFunc]⟩),
 (93, ⟨.struct [(0, 9), (1, 3)], 2, 24, [.sc (.string ⟨#[]⟩), .sc (.int .i64 0)]⟩),
 (94, ⟨.struct [(0, 9), (1, 3)], 2, 24, [.sc (.string ⟨#[]⟩), .sc (.int .i64 0)]⟩),
 (95, ⟨.arr 12 94, 24, 288, [.sc (.string ⟨#[]⟩), .sc (.int .i64 0), .sc (.string ⟨#[]⟩), .sc (.int .i64 0), .sc (.string ⟨#[]⟩), .sc (.int .i64 0), .sc (.string ⟨#[]⟩), .sc (.int .i64 0), .sc (.string ⟨#[]⟩), .sc (.int .i64 0), .sc (.string ⟨#[]⟩), .sc (.int .i64 0), .sc (.string ⟨#[]⟩), .sc (.int .i64 0), .sc (.string ⟨#[]⟩), .sc (.int .i64 0), .sc (.string ⟨#[]⟩), .sc (.int .i64 0), .sc (.string ⟨#[]⟩), .sc (.int .i64 0), .sc (.string ⟨#[]⟩), .sc (.int .i64 0), .sc (.string ⟨#[]⟩), .sc (.int .i64 0)]⟩),
 (96, ⟨.other, 1, 8, [.sc .nilFunc]⟩),
 (97, ⟨.other, 1, 8, [.sc .nilFunc]⟩),
 (103, ⟨.other, 1, 8, [.sc .nilFunc]⟩),
 (104, ⟨.int .u32, 1, 4, [.sc (.int .u32 0)]⟩),
 (107, ⟨.other, 1, 8, [.sc .nilFunc]⟩),
 (108, ⟨.ptr 5, 1, 8, [.sc (.pointer none)]⟩)]
theorem tab_ok : tab.ok Try.prog := Tab.ok_of (by kernel_rfl)
theorem mixed : Try.prog.follows .mixedOrders = true := by kernel_rfl
end Go.Proofs.Ytjicebidjfbkpaa
namespace Go.Proofs.Ytjicebidjfbkpaa
open Go.Sh
instance : Ok Try.prog tab := ⟨tab_ok, mixed⟩
theorem wrap_eq {n : Int} (h1 : -9223372036854775808 ≤ n) (h2 : n ≤ 9223372036854775807) : IntKind.i64.wrap n = n := by
 rw [IntKind.wrap_i64]; omega
theorem wrap_succ {i : Nat} (h : i < 9223372036854775807) : IntKind.i64.wrap ((i : Int) + 1) = ((i + 1 : Nat) : Int) := by
 rw [wrap_eq (by omega) (by omega)]; rfl
theorem ixO_lt {α : Type} {xs : List α} {i : Nat} (h : i < xs.length) : ixO xs (i : Int) = some xs[i] := by
 unfold ixO
 rw [if_pos (by omega), Int.toNat_natCast, List.getElem?_eq_getElem h]
theorem fitO_eq {α : Type} {n b : Nat} {r : Option α} (h : n * b ≤ 140737488355328) : fitO n b r = r := by
 unfold fitO; rw [if_pos h]
theorem reqO_eq {α : Type} {b : Bool} {r : Option α} (h : b = true) : reqO b r = r := by
 subst h; rfl
def zipAll {α β : Type} (f : α → β → Bool) : List α → List β → Bool
 | [], [] => true
 | x :: l, y :: r => f x y && zipAll f l r
 | _, _ => false
theorem zipAll_beq {α : Type} [DecidableEq α] : ∀ (l r : List α), zipAll (fun x y => x == y) l r = (l == r)
 | [], [] => rfl
 | x :: l, y :: r => by
   rw [zipAll, zipAll_beq l r]
   rfl
 | [], _ :: _ => rfl
 | _ :: _, [] => rfl
theorem zipAll_len {α β : Type} {f : α → β → Bool} : ∀ {l : List α} {r : List β}, zipAll f l r = true → l.length = r.length
 | [], [], _ => rfl
 | x :: l, y :: r, h => by
   rw [zipAll, Bool.and_eq_true] at h
   rw [List.length_cons, List.length_cons, zipAll_len h.2]
 | [], _ :: _, h => by cases h
 | _ :: _, [], h => by cases h
theorem cmp_loop {α β ε ρ : Type} {e : ε} {v : ρ} (L : List α → Nat → Option (Sum ε ρ)) (s2 : List β) (f : α → β → Bool) (h0 : ∀ i, L [] i = some (.inl e)) (h1 : ∀ x rest i, L (x :: rest) i = (ixO s2 ((i : Nat) : Int)).bind fun x1 => bif (!(f x x1)) then some (.inr v) else L rest (i + 1)) :
  ∀ (l : List α) (i : Nat), l.length + i = s2.length → L l i = some (if zipAll f l (s2.drop i) then .inl e else .inr v)
 | [], i, q => by
   rw [h0, List.drop_eq_nil_of_le (by simp at q; omega)]
   rfl
 | x :: l, i, q => by
   have hlt : i < s2.length := by simp at q; omega
   rw [h1, ixO_lt hlt, Option.bind_some, cmp_loop L s2 f h0 h1 l (i + 1) (by simp at q; omega), List.drop_eq_getElem_cons hlt, zipAll]
   cases f x s2[i]
   ·rfl
   ·simp only [Bool.not_true, cond_false, Bool.true_and]
theorem len_bne {α β : Type} (f : α → AV) (g : β → AV) (a : List α) (b : List β) : ((((List.map f a).length : Nat) : Int) != (((List.map g b).length : Nat) : Int)) = !decide (a.length = b.length) := by
 rw [List.length_map, List.length_map]
 by_cases h : a.length = b.length
 ·rw [h]; simp
 ·simp [h]; omega
def sizes : List Int := [16, 48, 48, 16, 12, 4, 32, 32, 8, 8, 12, 12]
def sizeT (n : Int) : Int := if 0 ≤ n ∧ n < 12 then sizes.getD n.toNat 0 else 0
theorem sizeT_cases (n : Int) : (¬ (0 ≤ n ∧ n < 12) ∧ sizeT n = 0) ∨ (0 ≤ n ∧ n < 12 ∧ ∃ k : Nat, n = k ∧ k < 12 ∧ sizeT n = sizes.getD k 0) := by
 by_cases h : 0 ≤ n ∧ n < 12
 ·refine .inr ⟨h.1, h.2, n.toNat, by omega, by omega, ?_⟩
  unfold sizeT; rw [if_pos h]
 ·refine .inl ⟨h, ?_⟩
  unfold sizeT; rw [if_neg h]
theorem sizes_in : ∀ k : Nat, 0 ≤ sizes.getD k 0 ∧ sizes.getD k 0 ≤ 48
 | 0 | 1 | 2 | 3 | 4 | 5 | 6 | 7 | 8 | 9 | 10 | 11 => by decide
 | n + 12 => by
  have : sizes.getD (n + 12) 0 = 0 := rfl
  rw [this]; decide
theorem sizeT_in (n : Int) : 0 ≤ sizeT n ∧ sizeT n ≤ 48 := by
 unfold sizeT
 split
 ·exact sizes_in _
 ·decide
def fitsT (n v : Int) : Bool := decide (v < 2 ^ (sizeT n).toNat)
theorem pow_pos2 (k : Nat) : (0 : Int) < (2 : Int) ^ k := Int.pow_pos (by decide)
structure Act where
 Kind : Int
 Port : Int
 Field : Int
 Value : Int
 deriving DecidableEq, Inhabited
def Act.ch (r : Act) : List AV := [.sc (.int .i64 r.Kind), .sc (.int .i64 r.Port), .sc (.int .i64 r.Field), .sc (.int .u64 r.Value)]
def Act.av (r : Act) : AV := .agg [.sc (.int .i64 r.Kind), .sc (.int .i64 r.Port), .sc (.int .i64 r.Field), .sc (.int .u64 r.Value)]
structure Cube where
 Value : List Int
 Care : List Int
 deriving DecidableEq, Inhabited
def Cube.ch (r : Cube) : List AV := [.arr .u64 12 r.Value, .arr .u64 12 r.Care]
def Cube.av (r : Cube) : AV := .agg [.arr .u64 12 r.Value, .arr .u64 12 r.Care]
structure Rule where
 Match : Cube
 Prio : Int
 Acts : List Act
 Idle : Int
 Hard : Int
 Owner : Int
 Hits : Int
 Quiet : Int
 Age : Int
 deriving DecidableEq, Inhabited
def Rule.ch (r : Rule) : List AV := [.arr .u64 12 r.Match.Value, .arr .u64 12 r.Match.Care, .sc (.int .i64 r.Prio), .sl 34 (List.map Act.av r.Acts) false, .sc (.int .i64 r.Idle), .sc (.int .i64 r.Hard), .sc (.int .i64 r.Owner), .sc (.int .i64 r.Hits), .sc (.int .i64 r.Quiet), .sc (.int .i64 r.Age)]
def Rule.av (r : Rule) : AV := .agg [.arr .u64 12 r.Match.Value, .arr .u64 12 r.Match.Care, .sc (.int .i64 r.Prio), .sl 34 (List.map Act.av r.Acts) false, .sc (.int .i64 r.Idle), .sc (.int .i64 r.Hard), .sc (.int .i64 r.Owner), .sc (.int .i64 r.Hits), .sc (.int .i64 r.Quiet), .sc (.int .i64 r.Age)]
structure Mod where
 Kind : Int
 Match : Cube
 Prio : Int
 Acts : List Act
 Idle : Int
 Hard : Int
 Owner : Int
 Check : Bool
 deriving DecidableEq, Inhabited
def Mod.ch (r : Mod) : List AV := [.sc (.int .i64 r.Kind), .arr .u64 12 r.Match.Value, .arr .u64 12 r.Match.Care, .sc (.int .i64 r.Prio), .sl 34 (List.map Act.av r.Acts) false, .sc (.int .i64 r.Idle), .sc (.int .i64 r.Hard), .sc (.int .i64 r.Owner), .sc (.bool r.Check)]
def Mod.av (r : Mod) : AV := .agg [.sc (.int .i64 r.Kind), .arr .u64 12 r.Match.Value, .arr .u64 12 r.Match.Care, .sc (.int .i64 r.Prio), .sl 34 (List.map Act.av r.Acts) false, .sc (.int .i64 r.Idle), .sc (.int .i64 r.Hard), .sc (.int .i64 r.Owner), .sc (.bool r.Check)]
structure Field where
 name : ByteArray
 size : Int
 deriving DecidableEq, Inhabited
def Field.ch (r : Field) : List AV := [.sc (.string r.name), .sc (.int .i64 r.size)]
def Field.av (r : Field) : AV := .agg [.sc (.string r.name), .sc (.int .i64 r.size)]
end Go.Proofs.Ytjicebidjfbkpaa
namespace Go.Proofs.Ytjicebidjfbkpaa
open Go.Sh
theorem splice_grow {α : Type} (cur xs za zb : List α) (p q r : Nat) (hp : p + r ≤ cur.length) (hx : xs.length = q) (hz : za.length = q + r) (L0 L1 L2 : List α) (h0 : L0 = cur.take p ++ za ++ zb) (h1 : L1 = L0.take p ++ xs ++ L0.drop (p + q)) (h2 : L2 = L1.take (p + q) ++ (cur.drop p).take r ++ L1.drop (p + q + r)) :
  L2.take (p + q + r) = cur.take p ++ xs ++ (cur.drop p).take r ∧ L2.length = p + (q + r) + zb.length := by
 have e0 : L0.take p = cur.take p := by
  rw [h0, List.append_assoc, List.take_left' (by rw [List.length_take]; omega)]
 have l0 : L0.length = p + (q + r) + zb.length := by
  rw [h0, List.length_append, List.length_append, List.length_take, hz]; omega
 have e1 : L1.take (p + q) = cur.take p ++ xs := by
  rw [h1, e0, List.take_left' (by rw [List.length_append, List.length_take, hx]; omega)]
 have l1 : L1.length = L0.length := by
  rw [h1, List.length_append, List.length_append, List.length_take, List.length_drop, hx]; omega
 refine ⟨?_, ?_⟩
 ·rw [h2, e1, List.take_left' (by simp only [List.length_append, List.length_take, List.length_drop, hx]; omega)]
 ·rw [h2, List.length_append, List.length_append, List.length_take, List.length_take, List.length_drop, List.length_drop]; omega
theorem splice_room {α : Type} (cur xs : List α) (p q r : Nat) (hp : p + q + r ≤ cur.length) (hx : xs.length = q) (L1 L2 : List α) (h1 : L1 = cur.take (p + q) ++ (cur.drop p).take r ++ cur.drop (p + q + r)) (h2 : L2 = L1.take p ++ xs ++ L1.drop (p + q)) :
  L2.take (p + q + r) = cur.take p ++ xs ++ (cur.drop p).take r ∧ L2.length = cur.length := by
 have e0 : L1.take p = cur.take p := by
  rw [h1, List.append_assoc, List.take_append, List.length_take, List.take_take, Nat.min_eq_left (by omega), show p - min (p + q) cur.length = 0 by omega, List.take_zero, List.append_nil]
 have l1 : L1.length = cur.length := by
  rw [h1, List.length_append, List.length_append, List.length_take, List.length_take, List.length_drop, List.length_drop]; omega
 have e1 : L1.drop (p + q) = (cur.drop p).take r ++ cur.drop (p + q + r) := by
  rw [h1, List.append_assoc, List.drop_left' (by rw [List.length_take]; omega)]
 refine ⟨?_, ?_⟩
 ·rw [h2, e0, e1, ← List.append_assoc, List.take_left' (by simp only [List.length_append, List.length_take, List.length_drop, hx]; omega)]
 ·rw [h2, List.length_append, List.length_append, List.length_take, List.length_drop, hx]; omega
noncomputable def z23_F : Go.Sh.Fn := ⟨23, bodyOf Try.f23, 95⟩
theorem z23_over : ∀ (vals : Array Value) (w : World), (callFunc 43 vals).run Try.prog w = ((Extern.SlicesOverlaps.overlaps #[22, 22] #[4] vals).run Try.prog w).andThen fun v w' => .ok (.value v) w' :=
 fun vals w => run_callFunc_extern Try.func43 (by kernel_rfl) (by kernel_rfl) (by kernel_rfl) (by kernel_rfl) vals w
theorem z23_end (A : List Rule) (x : Rule) (f : Bool) (C : Ctx) (H : HRel tab.S C [.row 31 (List.map Rule.av A) 1000000 true]) (hfit : (A.length + [x].length) * 272 ≤ reach) (vals : Array Value)
  (hv : VRels tab.S C [.own 0 1000000, .sc (.int .i64 (A.length : Int)), .sl 31 (List.map Rule.av [x]) f] vals.toList) :
  Calls Try.prog 23 vals C.w (Rp tab.S C (.own 0 1000001) [.row 31 (List.map Rule.av (A ++ [x])) 1000001 true]) := by
 have hG := tab_ok
 have hm := mixed
 have hlen : C.m.length = 1 := H.len
 refine AR.start (G := tab) z23_F (fn := Try.f23) Try.func23 (by kernel_rfl) (by kernel_rfl) (Nat.le_of_ble_eq_true (by kernel_rfl)) H hv ?_
 refine AR.seg hG hm 3 [0, 1, 2] (k' := [.code [1, 0], .code [1, 1]]) (t' := [(0, .own 0 1000000), (1, .sc (.int .i64 (A.length : Int))), (2, .sl 31 (List.map Rule.av [x]) f)]) (h' := [.row 31 (List.map Rule.av A) 1000000 true]) (by kernel_rfl) ?_
 refine AR.regK (by kernel_rfl) ?_
 refine LK.seg hG 2 [0, 1, 2, 10, 11] (t' := [(0, .own 0 1000000), (1, .sc (.int .i64 (A.length : Int))), (2, .sl 31 (List.map Rule.av [x]) f), (10, .own 0 1000000), (11, .sc (.int .i64 (A.length : Int)))]) (h' := [.row 31 (List.map Rule.av A) 1000000 true]) (by kernel_rfl) rfl ?_
 refine LK.op [0, 1, 2] (t' := [(0, .own 0 1000000), (1, .sc (.int .i64 (A.length : Int))), (2, .sl 31 (List.map Rule.av [x]) f)]) (LSpec.sliceOwnU hG (ty := 22) (e := 31) (o := 0) (k := 1000000) (kk := .i64) (app := true) (rows := List.map Rule.av A) (x := .tmp 10) (y := .tmp 11) (j := A.length) (by kernel_rfl) (by kernel_rfl) (by kernel_rfl) (by kernel_rfl) (by kernel_rfl) (by kernel_rfl) (by rw [List.length_map]; exact Nat.le_refl _)) (by kernel_rfl) rfl ?_
 refine LK.done (by kernel_rfl) ?_
 refine AR.seg hG hm 5 [0, 1, 2, 16] (k' := [.code [1, 1, 1, 0, 1], .code [1, 1, 1, 1]]) (t' := [(0, .own 0 1000000), (1, .sc (.int .i64 (A.length : Int))), (2, .sl 31 (List.map Rule.av [x]) f), (16, .sc (.bool false))]) (h' := [.row 31 (List.map Rule.av A) 1000000 true]) (by kernel_rfl) ?_
 refine AR.cond (.tmp 16) false (by kernel_rfl) (by kernel_rfl) (fun hb => by cases hb) (fun _ => ?_)
 refine AR.seg hG hm 6 [0, 1, 2, 22] (k' := [.code [1, 1, 1, 1, 1, 0, 1], .code [1, 1, 1, 1, 1, 1]]) (t' := [(0, .own 0 1000000), (1, .sc (.int .i64 (A.length : Int))), (2, .sl 31 (List.map Rule.av [x]) f), (22, .sc (.bool (((A.length : Nat) : Int) == (((List.map Rule.av A).length : Nat) : Int))))]) (h' := [.row 31 (List.map Rule.av A) 1000000 true]) (by kernel_rfl) ?_
 refine AR.cond (.tmp 22) (((A.length : Nat) : Int) == (((List.map Rule.av A).length : Nat) : Int)) (by kernel_rfl) (by kernel_rfl) (fun _ => ?_) (fun hb => absurd hb (by rw [List.length_map]; simp))
 refine AR.seg hG hm 1 [0, 2] (k' := [.code [1, 1, 1, 1, 1, 0, 1, 0, 0], .code [1, 1, 1, 1, 1, 0, 1, 0, 1], .code [1, 1, 1, 1, 1, 1]]) (t' := [(0, .own 0 1000000), (2, .sl 31 (List.map Rule.av [x]) f)]) (h' := [.row 31 (List.map Rule.av A) 1000000 true]) (by kernel_rfl) ?_
 refine AR.regK (by kernel_rfl) ?_
 refine LK.seg hG 2 [23, 24] (t' := [(23, .own 0 1000000), (24, .sl 31 (List.map Rule.av [x]) f)]) (h' := [.row 31 (List.map Rule.av A) 1000000 true]) (by kernel_rfl) rfl ?_
 obtain ⟨ei, hei⟩ := Option.isSome_iff_exists.1 (by kernel_rfl : (tab.get 31).isSome = true)
 have hS := S_get hei
 have hS2 : tab.S 31 = (32, 272) := by kernel_rfl
 rw [hS2] at hS
 injection hS with hS3 hS4
 have L := fun t h hop hx ho hy hnb => LSpec.append (n := z23_F.n) (ops := opsOf (codeAt z23_F.B [1, 1, 1, 1, 1, 0, 1, 0, 0])) (i := 0 + 2) (t := t) (h := h) (ty := 22) (e := 31) (x := .tmp 23) (y := .tmp 24) (o := 0) (k := 1000000) (rows := List.map Rule.av A) (rows2 := List.map Rule.av [x]) (f := f) (k' := 1000001) hG hop (by kernel_rfl) hei (by omega) (by omega) hx ho (e' := 31) (by simp [okMark]) hy hnb (by rw [List.length_map, List.length_map, ← hS4]; exact hfit) (by omega) (fun hq => .inl (by omega))
 rw [← List.map_append] at L
 refine LK.op [25] (t' := [(25, .own 0 1000001)]) (L _ _ (by kernel_rfl) (by kernel_rfl) (by kernel_rfl) (by kernel_rfl) (by kernel_rfl)) (by kernel_rfl) rfl ?_
 refine LK.seg hG 1 [6] (t' := [(6, .own 0 1000001)]) (h' := [.row 31 (List.map Rule.av (A ++ [x])) 1000001 true]) (by kernel_rfl) rfl ?_
 refine LK.done (by kernel_rfl) ?_
 exact AR.ret hG Try.func23 (by kernel_rfl) 1 (by omega) (aas := [.own 0 1000001]) (bs := [.own 0 1000001]) (by kernel_rfl) (by kernel_rfl) (by kernel_rfl) (by kernel_rfl) (by kernel_rfl)
end Go.Proofs.Ytjicebidjfbkpaa
namespace Go.Proofs.Ytjicebidjfbkpaa
open Go.Sh
def z23_good (n i : Nat) (cur xs : List Value) (c' : Nat) (L : List Value) : Prop :=
 n + 1 ≤ c' ∧ c' ≤ maxLen ∧ L.length = c' * 32 ∧ L.take ((n + 1) * 32) = cur.take (i * 32) ++ xs ++ (cur.drop (i * 32)).take ((n - i) * 32)
def z23_R (n i c : Nat) (cur xs : List Value) (ex : AO) (c0 : Ctx) (e : Ending) (w : World) : Prop :=
 (∃ L, z23_good n i cur xs c L ∧ Rp tab.S c0 (rs 0 0 (n + 1) c) [rawO 31 L, ex] e w) ∨
 ∃ nc L, z23_good n i cur xs nc L ∧ Rp tab.S c0 (rs 2 0 (n + 1) nc) [rawO 31 cur, ex, rawO 31 L] e w
theorem z23_mid (n i c ov cv : Nat) (cur cur2 : List Value) (te2 : TypeId) (fr2 : Nat × Nat) (c0 : Ctx) (hc0 : c0.m.length = 2) (hi : i < n) (hnc : n ≤ c) (hcm : c ≤ maxLen) (hcl : cur.length = c * 32) (hc2 : ov + 32 ≤ cur2.length)
  (hone : ∀ v ∈ (cur.drop (i * 32)).take ((n - i) * 32), v.oneCell' = true) (hone2 : ∀ v ∈ (cur2.drop ov).take 32, v.oneCell' = true) (hfit : (n + 1) * 272 ≤ reach) :
  AR Try.prog tab z23_F c0 (z23_R n i c cur ((cur2.drop ov).take 32) (exO (.cells cur2.toArray te2 fr2)) c0) [.code []] [(0, rs 0 0 n c), (1, .sc (.int .i64 (i : Int))), (2, rs 1 ov 1 cv)] [rawO 31 cur, exO (.cells cur2.toArray te2 fr2)] := by
 have hG := tab_ok
 have hm := mixed
 have hreach : (n + 1) * 272 ≤ 140737488355328 := hfit
 have hw1 : IntKind.i64.wrap ((n : Int) + 1) = ((n + 1 : Nat) : Int) := by rw [wrap_eq (by omega) (by omega)]; rfl
 have hw2 : IntKind.i64.wrap ((i : Int) + 1) = ((i + 1 : Nat) : Int) := by rw [wrap_eq (by omega) (by omega)]; rfl
 have hw3 : IntKind.i64.wrap (((n + 1 : Nat) : Int) - (i : Int)) = ((n + 1 - i : Nat) : Int) := by rw [wrap_eq (by omega) (by omega)]; omega
 have hx : ((cur2.drop ov).take 32).length = 32 := by rw [List.length_take, List.length_drop]; omega
 have hx1 : (cur2.drop ov).take (1 * 32) = (cur2.drop ov).take 32 := by rw [Nat.one_mul]
 have en1 : (n + 1) * 32 = i * 32 + 32 + (n - i) * 32 := by omega
 have ei1 : (i + 1) * 32 = i * 32 + 32 := by omega
 refine AR.seg hG hm 3 [0, 1, 2] (k' := [.code [1, 0], .code [1, 1]]) (t' := [(0, rs 0 0 n c), (1, .sc (.int .i64 (i : Int))), (2, rs 1 ov 1 cv)]) (h' := [rawO 31 cur, exO (.cells cur2.toArray te2 fr2)]) (by kernel_rfl) ?_
 refine AR.regK (by kernel_rfl) ?_
 refine LK.seg hG 2 [0, 1, 2, 10, 11] (t' := [(0, rs 0 0 n c), (1, .sc (.int .i64 (i : Int))), (2, rs 1 ov 1 cv), (10, rs 0 0 n c), (11, .sc (.int .i64 (i : Int)))]) (h' := [rawO 31 cur, exO (.cells cur2.toArray te2 fr2)]) (by kernel_rfl) rfl ?_
 refine LK.op [0, 1, 2] (t' := [(0, rs 0 0 n c), (1, .sc (.int .i64 (i : Int))), (2, rs 1 ov 1 cv)]) (h' := [rawO 31 cur, exO (.cells cur2.toArray te2 fr2)]) (LSpec.sliceRaw hG (ty := 22) (e := 31) (x := .tmp 10) (lo := some (.tmp 11)) (hi := none) (o := 0) (off := 0) (len := n) (c := c) (i) (n) 32 (by kernel_rfl) (by kernel_rfl) (by kernel_rfl) (by kernel_rfl) (by kernel_rfl) (⟨.i64, by kernel_rfl⟩) (rfl) (by omega) (by omega) (by omega)) (by kernel_rfl) rfl ?_
 refine LK.done (by kernel_rfl) ?_
 refine AR.seg hG hm 1 [0, 1, 2] (k' := [.code [1, 1, 0], .code [1, 1, 1]]) (t' := [(0, rs 0 0 n c), (1, .sc (.int .i64 (i : Int))), (2, rs 1 ov 1 cv)]) (h' := [rawO 31 cur, exO (.cells cur2.toArray te2 fr2)]) (by kernel_rfl) ?_
 refine AR.regK (by kernel_rfl) ?_
 refine LK.seg hG 1 [0, 1, 2, 13] (t' := [(0, rs 0 0 n c), (1, .sc (.int .i64 (i : Int))), (2, rs 1 ov 1 cv), (13, rs 1 ov 1 cv)]) (h' := [rawO 31 cur, exO (.cells cur2.toArray te2 fr2)]) (by kernel_rfl) rfl ?_
 refine LK.op [0, 1, 2, 14] (t' := [(0, rs 0 0 n c), (1, .sc (.int .i64 (i : Int))), (2, rs 1 ov 1 cv), (14, .sc (.int .i64 ((1 : Nat) : Int)))]) (h' := [rawO 31 cur, exO (.cells cur2.toArray te2 fr2)]) (LSpec.lenRaw hG (ty := 22) (e := 31) (x := .tmp 13) (o := 1) (off := ov) (len := 1) (c := cv) (by kernel_rfl) (by kernel_rfl) (by kernel_rfl)) (by kernel_rfl) rfl ?_
 refine LK.seg hG 1 [0, 1, 2, 7] (t' := [(0, rs 0 0 n c), (1, .sc (.int .i64 (i : Int))), (2, rs 1 ov 1 cv), (7, .sc (.int .i64 1))]) (h' := [rawO 31 cur, exO (.cells cur2.toArray te2 fr2)]) (by kernel_rfl) rfl ?_
 refine LK.done (by kernel_rfl) ?_
 refine AR.seg hG hm 3 [0, 1, 2, 7, 16] (k' := [.code [1, 1, 1, 0, 1], .code [1, 1, 1, 1]]) (t' := [(0, rs 0 0 n c), (1, .sc (.int .i64 (i : Int))), (2, rs 1 ov 1 cv), (7, .sc (.int .i64 1)), (16, .sc (.bool false))]) (h' := [rawO 31 cur, exO (.cells cur2.toArray te2 fr2)]) (by kernel_rfl) ?_
 refine AR.cond (.tmp 16) false (by kernel_rfl) (by kernel_rfl) (fun hb => by cases hb) (fun _ => ?_)
 refine AR.seg hG hm 2 [0, 1, 2, 7] (k' := [.code [1, 1, 1, 1, 0], .code [1, 1, 1, 1, 1]]) (t' := [(0, rs 0 0 n c), (1, .sc (.int .i64 (i : Int))), (2, rs 1 ov 1 cv), (7, .sc (.int .i64 1))]) (h' := [rawO 31 cur, exO (.cells cur2.toArray te2 fr2)]) (by kernel_rfl) ?_
 refine AR.regK (by kernel_rfl) ?_
 refine LK.seg hG 1 [0, 1, 2, 7, 18] (t' := [(0, rs 0 0 n c), (1, .sc (.int .i64 (i : Int))), (2, rs 1 ov 1 cv), (7, .sc (.int .i64 1)), (18, rs 0 0 n c)]) (h' := [rawO 31 cur, exO (.cells cur2.toArray te2 fr2)]) (by kernel_rfl) rfl ?_
 refine LK.op [0, 1, 2, 7, 19] (t' := [(0, rs 0 0 n c), (1, .sc (.int .i64 (i : Int))), (2, rs 1 ov 1 cv), (7, .sc (.int .i64 1)), (19, .sc (.int .i64 (n : Int)))]) (h' := [rawO 31 cur, exO (.cells cur2.toArray te2 fr2)]) (LSpec.lenRaw hG (ty := 22) (e := 31) (x := .tmp 18) (o := 0) (off := 0) (len := n) (c := c) (by kernel_rfl) (by kernel_rfl) (by kernel_rfl)) (by kernel_rfl) rfl ?_
 refine LK.seg hG 1 [0, 1, 2, 7, 8] (t' := [(0, rs 0 0 n c), (1, .sc (.int .i64 (i : Int))), (2, rs 1 ov 1 cv), (7, .sc (.int .i64 1)), (8, .sc (.int .i64 (n : Int)))]) (h' := [rawO 31 cur, exO (.cells cur2.toArray te2 fr2)]) (by kernel_rfl) rfl ?_
 refine LK.done (by kernel_rfl) ?_
 refine AR.seg hG hm 3 [0, 1, 2, 7, 8, 22] (k' := [.code [1, 1, 1, 1, 1, 0, 1], .code [1, 1, 1, 1, 1, 1]]) (t' := [(0, rs 0 0 n c), (1, .sc (.int .i64 (i : Int))), (2, rs 1 ov 1 cv), (7, .sc (.int .i64 1)), (8, .sc (.int .i64 (n : Int))), (22, .sc (.bool ((i : Int) == (n : Int))))]) (h' := [rawO 31 cur, exO (.cells cur2.toArray te2 fr2)]) (by kernel_rfl) ?_
 refine AR.cond (.tmp 22) ((i : Int) == (n : Int)) (by kernel_rfl) (by kernel_rfl) (fun hb => absurd hb (by simp; omega)) (fun _ => ?_)
 refine AR.seg hG hm 3 [0, 1, 2, 7, 8] (k' := [.code [1, 1, 1, 1, 1, 1, 0, 0], .code [1, 1, 1, 1, 1, 1, 0, 1], .code [1, 1, 1, 1, 1, 1, 1]]) (t' := [(0, rs 0 0 n c), (1, .sc (.int .i64 (i : Int))), (2, rs 1 ov 1 cv), (7, .sc (.int .i64 1)), (8, .sc (.int .i64 (n : Int)))]) (h' := [rawO 31 cur, exO (.cells cur2.toArray te2 fr2)]) (by kernel_rfl) ?_
 refine AR.regK (by kernel_rfl) ?_
 refine LK.seg hG 4 [0, 1, 2, 7, 8, 28, 29] (t' := [(0, rs 0 0 n c), (1, .sc (.int .i64 (i : Int))), (2, rs 1 ov 1 cv), (7, .sc (.int .i64 1)), (8, .sc (.int .i64 (n : Int))), (28, .sc (.int .i64 (IntKind.i64.wrap ((n : Int) + 1)))), (29, rs 0 0 n c)]) (h' := [rawO 31 cur, exO (.cells cur2.toArray te2 fr2)]) (by kernel_rfl) rfl ?_
 refine LK.op [0, 1, 2, 7, 8, 28, 30] (t' := [(0, rs 0 0 n c), (1, .sc (.int .i64 (i : Int))), (2, rs 1 ov 1 cv), (7, .sc (.int .i64 1)), (8, .sc (.int .i64 (n : Int))), (28, .sc (.int .i64 (IntKind.i64.wrap ((n : Int) + 1)))), (30, .sc (.int .i64 (c : Int)))]) (h' := [rawO 31 cur, exO (.cells cur2.toArray te2 fr2)]) (LSpec.capRaw hG (ty := 22) (e := 31) (x := .tmp 29) (o := 0) (off := 0) (len := n) (c := c) (by kernel_rfl) (by kernel_rfl) (by kernel_rfl)) (by kernel_rfl) rfl ?_
 refine LK.seg hG 1 [0, 1, 2, 7, 8, 31] (t' := [(0, rs 0 0 n c), (1, .sc (.int .i64 (i : Int))), (2, rs 1 ov 1 cv), (7, .sc (.int .i64 1)), (8, .sc (.int .i64 (n : Int))), (31, .sc (.bool (decide (IntKind.i64.wrap ((n : Int) + 1) > (c : Int)))))]) (h' := [rawO 31 cur, exO (.cells cur2.toArray te2 fr2)]) (by kernel_rfl) rfl ?_
 refine LK.done (by kernel_rfl) ?_
 refine AR.cond (.tmp 31) (decide (IntKind.i64.wrap ((n : Int) + 1) > (c : Int))) (by kernel_rfl) (by kernel_rfl) (fun hb => ?B) (fun hb => ?C)
 case B =>
  have hgt : c < n + 1 := by have := of_decide_eq_true hb; rw [hw1] at this; omega
  refine AR.post (fun e w hq => .inr hq) ?_
  refine AR.seg hG hm 1 [0, 1, 2, 7, 8] (k' := [.code [1, 1, 1, 1, 1, 1, 0, 1, 0, 0], .code [1, 1, 1, 1, 1, 1, 0, 1, 0, 1], .code [1, 1, 1, 1, 1, 1, 1]]) (t' := [(0, rs 0 0 n c), (1, .sc (.int .i64 (i : Int))), (2, rs 1 ov 1 cv), (7, .sc (.int .i64 1)), (8, .sc (.int .i64 (n : Int)))]) (h' := [rawO 31 cur, exO (.cells cur2.toArray te2 fr2)]) (by kernel_rfl) ?_
  refine AR.regK (by kernel_rfl) ?_
  refine LK.seg hG 2 [0, 1, 2, 7, 8, 32, 33] (t' := [(0, rs 0 0 n c), (1, .sc (.int .i64 (i : Int))), (2, rs 1 ov 1 cv), (7, .sc (.int .i64 1)), (8, .sc (.int .i64 (n : Int))), (32, rs 0 0 n c), (33, .sc (.int .i64 (i : Int)))]) (h' := [rawO 31 cur, exO (.cells cur2.toArray te2 fr2)]) (by kernel_rfl) rfl ?_
  refine LK.op [0, 1, 2, 7, 8, 34] (t' := [(0, rs 0 0 n c), (1, .sc (.int .i64 (i : Int))), (2, rs 1 ov 1 cv), (7, .sc (.int .i64 1)), (8, .sc (.int .i64 (n : Int))), (34, rs 0 0 i c)]) (h' := [rawO 31 cur, exO (.cells cur2.toArray te2 fr2)]) (LSpec.sliceRaw hG (ty := 22) (e := 31) (x := .tmp 32) (lo := none) (hi := some (.tmp 33)) (o := 0) (off := 0) (len := n) (c := c) (0) (i) 32 (by kernel_rfl) (by kernel_rfl) (by kernel_rfl) (by kernel_rfl) (by kernel_rfl) (rfl) (⟨.i64, by kernel_rfl⟩) (by omega) (by omega) (.inr rfl)) (by kernel_rfl) rfl ?_
  refine LK.seg hG 3 [0, 1, 2, 7, 8, 34, 37] (t' := [(0, rs 0 0 n c), (1, .sc (.int .i64 (i : Int))), (2, rs 1 ov 1 cv), (7, .sc (.int .i64 1)), (8, .sc (.int .i64 (n : Int))), (34, rs 0 0 i c), (37, .sc (.int .i64 (IntKind.i64.wrap ((n : Int) + 1))))]) (h' := [rawO 31 cur, exO (.cells cur2.toArray te2 fr2)]) (by kernel_rfl) rfl ?_
  rw [hw1]
  refine LK.seg hG 2 [0, 1, 2, 7, 8, 34, 39] (t' := [(0, rs 0 0 n c), (1, .sc (.int .i64 (i : Int))), (2, rs 1 ov 1 cv), (7, .sc (.int .i64 1)), (8, .sc (.int .i64 (n : Int))), (34, rs 0 0 i c), (39, .sc (.int .i64 (IntKind.i64.wrap (((n + 1 : Nat) : Int) - (i : Int)))))]) (h' := [rawO 31 cur, exO (.cells cur2.toArray te2 fr2)]) (by kernel_rfl) rfl ?_
  rw [hw3]
  refine LK.appendMake hG (cur := cur) (te := 31) (ty := 22) (tn := 3) (e := 31) (x := .tmp 34) (y := .tmp 39) (o := 0) (off := 0) (len := i) (c := c) (sz := 32) (by_ := 272) (kk := .i64) (kn := .i64) (n + 1 - i) (by kernel_rfl) (by kernel_rfl) (by kernel_rfl) (by kernel_rfl) (by kernel_rfl) (by kernel_rfl) (by kernel_rfl) (by kernel_rfl) (by omega) (by omega) (by omega) (by omega) (by rw [show i + (n + 1 - i) = n + 1 by omega]; exact hfit) (by omega) ?_
  intro nc za zb hn1 hn2 hza hzb
  rw [show i + (n + 1 - i) = n + 1 by omega] at hn1 hzb ⊢
  obtain ⟨L0, hL0⟩ : ∃ L0, (cur.drop 0).take (i * 32) ++ za ++ zb = L0 := ⟨_, rfl⟩
  rw [hL0]
  refine LK.seg hG 1 [0, 1, 2, 7, 9] (t' := [(0, rs 0 0 n c), (1, .sc (.int .i64 (i : Int))), (2, rs 1 ov 1 cv), (7, .sc (.int .i64 1)), (9, rs 2 0 (n + 1) nc)]) (h' := [rawO 31 cur, exO (.cells cur2.toArray te2 fr2), rawO 31 L0]) (by kernel_rfl) rfl ?_
  refine LK.done (by kernel_rfl) ?_
  refine AR.seg hG hm 1 [0, 1, 2, 7, 9] (k' := [.code [1, 1, 1, 1, 1, 1, 0, 1, 0, 1, 0], .code [1, 1, 1, 1, 1, 1, 0, 1, 0, 1, 1], .code [1, 1, 1, 1, 1, 1, 1]]) (t' := [(0, rs 0 0 n c), (1, .sc (.int .i64 (i : Int))), (2, rs 1 ov 1 cv), (7, .sc (.int .i64 1)), (9, rs 2 0 (n + 1) nc)]) (h' := [rawO 31 cur, exO (.cells cur2.toArray te2 fr2), rawO 31 L0]) (by kernel_rfl) ?_
  refine AR.regK (by kernel_rfl) ?_
  refine LK.seg hG 2 [0, 1, 2, 7, 9, 41, 42] (t' := [(0, rs 0 0 n c), (1, .sc (.int .i64 (i : Int))), (2, rs 1 ov 1 cv), (7, .sc (.int .i64 1)), (9, rs 2 0 (n + 1) nc), (41, rs 2 0 (n + 1) nc), (42, .sc (.int .i64 (i : Int)))]) (h' := [rawO 31 cur, exO (.cells cur2.toArray te2 fr2), rawO 31 L0]) (by kernel_rfl) rfl ?_
  refine LK.op [0, 1, 2, 7, 9, 43] (t' := [(0, rs 0 0 n c), (1, .sc (.int .i64 (i : Int))), (2, rs 1 ov 1 cv), (7, .sc (.int .i64 1)), (9, rs 2 0 (n + 1) nc), (43, rs 2 (0 + i * 32) (n + 1 - i) (nc - i))]) (h' := [rawO 31 cur, exO (.cells cur2.toArray te2 fr2), rawO 31 L0]) (LSpec.sliceRaw hG (ty := 22) (e := 31) (x := .tmp 41) (lo := some (.tmp 42)) (hi := none) (o := 2) (off := 0) (len := n + 1) (c := nc) (i) (n + 1) 32 (by kernel_rfl) (by kernel_rfl) (by kernel_rfl) (by kernel_rfl) (by kernel_rfl) (⟨.i64, by kernel_rfl⟩) (rfl) (by omega) (by omega) (by omega)) (by kernel_rfl) rfl ?_
  refine LK.seg hG 1 [0, 1, 2, 7, 9, 43, 44] (t' := [(0, rs 0 0 n c), (1, .sc (.int .i64 (i : Int))), (2, rs 1 ov 1 cv), (7, .sc (.int .i64 1)), (9, rs 2 0 (n + 1) nc), (43, rs 2 (0 + i * 32) (n + 1 - i) (nc - i)), (44, rs 1 ov 1 cv)]) (h' := [rawO 31 cur, exO (.cells cur2.toArray te2 fr2), rawO 31 L0]) (by kernel_rfl) rfl ?_
  have l0 : L0.length = nc * 32 := by rw [← hL0, List.length_append, List.length_append, List.length_take, List.length_drop, hza, hzb]; omega
  refine LK.op [0, 1, 2, 7, 9] (t' := [(0, rs 0 0 n c), (1, .sc (.int .i64 (i : Int))), (2, rs 1 ov 1 cv), (7, .sc (.int .i64 1)), (9, rs 2 0 (n + 1) nc)]) (h' := [rawO 31 cur, exO (.cells cur2.toArray te2 fr2), rawO 31 (L0.take (0 + i * 32) ++ (cur2.drop ov).take (1 * 32) ++ L0.drop (0 + i * 32 + 1 * 32))]) (LSpec.copyRaw hG (ty := 22) (ty2 := 22) (e := 31) (te := 31) (te2 := te2) (x := .tmp 43) (y := .tmp 44) (o := 2) (off := 0 + i * 32) (dn := n + 1 - i) (dc := nc - i) (o2 := 1) (off2 := ov) (sn := 1) (sc := cv) (k := 1) (sz := 32) (cur := L0) (cur2 := cur2) (fr2 := fr2) (by kernel_rfl) (by kernel_rfl) (by kernel_rfl) (by kernel_rfl) (by kernel_rfl) (by kernel_rfl) (by kernel_rfl) (by kernel_rfl) (by omega) (by omega) (by omega) (by rw [hx1]; exact hone2)) (by kernel_rfl) rfl ?_
  refine LK.done (by kernel_rfl) ?_
  obtain ⟨L1, hL1⟩ : ∃ L1, L0.take (0 + i * 32) ++ (cur2.drop ov).take (1 * 32) ++ L0.drop (0 + i * 32 + 1 * 32) = L1 := ⟨_, rfl⟩
  rw [hL1]
  have l1 : L1.length = nc * 32 := by rw [← hL1, List.length_append, List.length_append, List.length_take, List.length_drop, hx1, hx]; omega
  refine AR.seg hG hm 1 [0, 1, 7, 9] (k' := [.code [1, 1, 1, 1, 1, 1, 0, 1, 0, 1, 1, 0], .code [1, 1, 1, 1, 1, 1, 0, 1, 0, 1, 1, 1], .code [1, 1, 1, 1, 1, 1, 1]]) (t' := [(0, rs 0 0 n c), (1, .sc (.int .i64 (i : Int))), (7, .sc (.int .i64 1)), (9, rs 2 0 (n + 1) nc)]) (h' := [rawO 31 cur, exO (.cells cur2.toArray te2 fr2), rawO 31 L1]) (by kernel_rfl) ?_
  refine AR.reg hm [.pure, .pure, .pure, .pure, .pure, .pure, .pure, .pure, .loud] (by kernel_rfl) ?_
  refine DK.seg hG 4 [0, 1, 7, 9, 46, 49] (t' := [(0, rs 0 0 n c), (1, .sc (.int .i64 (i : Int))), (7, .sc (.int .i64 1)), (9, rs 2 0 (n + 1) nc), (46, rs 2 0 (n + 1) nc), (49, .sc (.int .i64 (IntKind.i64.wrap ((i : Int) + 1))))]) (h' := [rawO 31 cur, exO (.cells cur2.toArray te2 fr2), rawO 31 L1]) (by kernel_rfl) rfl ?_
  rw [hw2]
  refine DK.op' [0, 1, 7, 9, 50] (t' := [(0, rs 0 0 n c), (1, .sc (.int .i64 (i : Int))), (7, .sc (.int .i64 1)), (9, rs 2 0 (n + 1) nc), (50, rs 2 (0 + (i + 1) * 32) (n + 1 - (i + 1)) (nc - (i + 1)))]) (h' := [rawO 31 cur, exO (.cells cur2.toArray te2 fr2), rawO 31 L1]) (LSpec.sliceRaw hG (ty := 22) (e := 31) (x := .tmp 46) (lo := some (.tmp 49)) (hi := none) (o := 2) (off := 0) (len := n + 1) (c := nc) (i + 1) (n + 1) 32 (by kernel_rfl) (by kernel_rfl) (by kernel_rfl) (by kernel_rfl) (by kernel_rfl) (⟨.i64, by kernel_rfl⟩) (rfl) (by omega) (by omega) (by omega)) (by kernel_rfl) rfl (by kernel_rfl) rfl ?_
  refine DK.seg hG 2 [0, 1, 7, 9, 50, 51, 52] (t' := [(0, rs 0 0 n c), (1, .sc (.int .i64 (i : Int))), (7, .sc (.int .i64 1)), (9, rs 2 0 (n + 1) nc), (50, rs 2 (0 + (i + 1) * 32) (n + 1 - (i + 1)) (nc - (i + 1))), (51, rs 0 0 n c), (52, .sc (.int .i64 (i : Int)))]) (h' := [rawO 31 cur, exO (.cells cur2.toArray te2 fr2), rawO 31 L1]) (by kernel_rfl) rfl ?_
  refine DK.op' [0, 1, 7, 9, 50, 53] (t' := [(0, rs 0 0 n c), (1, .sc (.int .i64 (i : Int))), (7, .sc (.int .i64 1)), (9, rs 2 0 (n + 1) nc), (50, rs 2 (0 + (i + 1) * 32) (n + 1 - (i + 1)) (nc - (i + 1))), (53, rs 0 (0 + i * 32) (n - i) (c - i))]) (h' := [rawO 31 cur, exO (.cells cur2.toArray te2 fr2), rawO 31 L1]) (LSpec.sliceRaw hG (ty := 22) (e := 31) (x := .tmp 51) (lo := some (.tmp 52)) (hi := none) (o := 0) (off := 0) (len := n) (c := c) (i) (n) 32 (by kernel_rfl) (by kernel_rfl) (by kernel_rfl) (by kernel_rfl) (by kernel_rfl) (⟨.i64, by kernel_rfl⟩) (rfl) (by omega) (by omega) (by omega)) (by kernel_rfl) rfl (by kernel_rfl) rfl ?_
  refine DK.op' [9] (t' := [(9, rs 2 0 (n + 1) nc)]) (h' := [rawO 31 cur, exO (.cells cur2.toArray te2 fr2), rawO 31 (L1.take (0 + (i + 1) * 32) ++ (cur.drop (0 + i * 32)).take ((n - i) * 32) ++ L1.drop (0 + (i + 1) * 32 + (n - i) * 32))]) (LSpec.copyRaw hG (ty := 22) (ty2 := 22) (e := 31) (te := 31) (te2 := 31) (x := .tmp 50) (y := .tmp 53) (o := 2) (off := 0 + (i + 1) * 32) (dn := n + 1 - (i + 1)) (dc := nc - (i + 1)) (o2 := 0) (off2 := 0 + i * 32) (sn := n - i) (sc := c - i) (k := n - i) (sz := 32) (cur := L1) (cur2 := cur) (fr2 := (0, 0)) (by kernel_rfl) (by kernel_rfl) (by kernel_rfl) (by kernel_rfl) (by kernel_rfl) (by kernel_rfl) (by kernel_rfl) (by kernel_rfl) (by omega) (by omega) (by omega) (by rw [Nat.zero_add]; exact hone)) (by kernel_rfl) (by kernel_rfl) (by kernel_rfl) rfl ?_
  refine DK.done (by kernel_rfl) (by kernel_rfl) ?_
  refine AR.seg hG hm 2 [6] (k' := [.code [1, 1, 1, 1, 1, 1, 0, 1, 0, 1, 1, 1, 1], .code [1, 1, 1, 1, 1, 1, 1]]) (t' := [(6, rs 2 0 (n + 1) nc)]) (h' := [rawO 31 cur, exO (.cells cur2.toArray te2 fr2), rawO 31 (L1.take (0 + (i + 1) * 32) ++ (cur.drop (0 + i * 32)).take ((n - i) * 32) ++ L1.drop (0 + (i + 1) * 32 + (n - i) * 32))]) (by kernel_rfl) ?_
  refine AR.post (fun e w hq => ⟨nc, L1.take (0 + (i + 1) * 32) ++ (cur.drop (0 + i * 32)).take ((n - i) * 32) ++ L1.drop (0 + (i + 1) * 32 + (n - i) * 32), ?_, hq⟩) (AR.ret hG Try.func23 (by kernel_rfl) 3 (by omega) (aas := [rs 2 0 (n + 1) nc]) (bs := [rs 2 0 (n + 1) nc]) (by kernel_rfl) (by kernel_rfl) (by kernel_rfl) (by kernel_rfl) (by kernel_rfl))
  have hs := splice_grow cur ((cur2.drop ov).take 32) za zb (i * 32) 32 ((n - i) * 32) (by omega) hx (by omega) L0 L1 (L1.take (0 + (i + 1) * 32) ++ (cur.drop (0 + i * 32)).take ((n - i) * 32) ++ L1.drop (0 + (i + 1) * 32 + (n - i) * 32)) (by rw [← hL0, List.drop_zero]) (by rw [← hL1, hx1, Nat.zero_add, Nat.one_mul]) (by rw [Nat.zero_add, Nat.zero_add, ei1])
  refine ⟨hn1, hn2, ?_, ?_⟩
  ·rw [hs.2, hzb]; omega
  ·rw [en1]; exact hs.1
 case C =>
  have hle : n + 1 ≤ c := by have := of_decide_eq_false hb; rw [hw1] at this; omega
  refine AR.post (fun e w hq => .inl hq) ?_
  refine AR.seg hG hm 2 [0, 1, 2, 7, 8] (k' := [.code [1, 1, 1, 1, 1, 1, 1, 0], .code [1, 1, 1, 1, 1, 1, 1, 1]]) (t' := [(0, rs 0 0 n c), (1, .sc (.int .i64 (i : Int))), (2, rs 1 ov 1 cv), (7, .sc (.int .i64 1)), (8, .sc (.int .i64 (n : Int)))]) (h' := [rawO 31 cur, exO (.cells cur2.toArray te2 fr2)]) (by kernel_rfl) ?_
  refine AR.regK (by kernel_rfl) ?_
  refine LK.seg hG 4 [1, 2, 7, 56, 59] (t' := [(1, .sc (.int .i64 (i : Int))), (2, rs 1 ov 1 cv), (7, .sc (.int .i64 1)), (56, rs 0 0 n c), (59, .sc (.int .i64 (IntKind.i64.wrap ((n : Int) + 1))))]) (h' := [rawO 31 cur, exO (.cells cur2.toArray te2 fr2)]) (by kernel_rfl) rfl ?_
  rw [hw1]
  refine LK.op [1, 2, 7, 60] (t' := [(1, .sc (.int .i64 (i : Int))), (2, rs 1 ov 1 cv), (7, .sc (.int .i64 1)), (60, rs 0 0 (n + 1) c)]) (h' := [rawO 31 cur, exO (.cells cur2.toArray te2 fr2)]) (LSpec.sliceRaw hG (ty := 22) (e := 31) (x := .tmp 56) (lo := none) (hi := some (.tmp 59)) (o := 0) (off := 0) (len := n) (c := c) (0) (n + 1) 32 (by kernel_rfl) (by kernel_rfl) (by kernel_rfl) (by kernel_rfl) (by kernel_rfl) (rfl) (⟨.i64, by kernel_rfl⟩) (by omega) (by omega) (.inr rfl)) (by kernel_rfl) rfl ?_
  refine LK.seg hG 1 [0, 1, 2, 7] (t' := [(0, rs 0 0 (n + 1) c), (1, .sc (.int .i64 (i : Int))), (2, rs 1 ov 1 cv), (7, .sc (.int .i64 1))]) (h' := [rawO 31 cur, exO (.cells cur2.toArray te2 fr2)]) (by kernel_rfl) rfl ?_
  refine LK.done (by kernel_rfl) ?_
  refine AR.seg hG hm 2 [0, 1, 2, 7] (k' := [.code [1, 1, 1, 1, 1, 1, 1, 1, 0, 0], .code [1, 1, 1, 1, 1, 1, 1, 1, 0, 1], .code [1, 1, 1, 1, 1, 1, 1, 1, 1]]) (t' := [(0, rs 0 0 (n + 1) c), (1, .sc (.int .i64 (i : Int))), (2, rs 1 ov 1 cv), (7, .sc (.int .i64 1))]) (h' := [rawO 31 cur, exO (.cells cur2.toArray te2 fr2)]) (by kernel_rfl) ?_
  refine AR.regK (by kernel_rfl) ?_
  refine LK.seg hG 5 [0, 1, 2, 7, 61, 62, 65] (t' := [(0, rs 0 0 (n + 1) c), (1, .sc (.int .i64 (i : Int))), (2, rs 1 ov 1 cv), (7, .sc (.int .i64 1)), (61, rs 1 ov 1 cv), (62, rs 0 0 (n + 1) c), (65, .sc (.int .i64 (IntKind.i64.wrap ((i : Int) + 1))))]) (h' := [rawO 31 cur, exO (.cells cur2.toArray te2 fr2)]) (by kernel_rfl) rfl ?_
  rw [hw2]
  refine LK.op [0, 1, 2, 7, 61, 66] (t' := [(0, rs 0 0 (n + 1) c), (1, .sc (.int .i64 (i : Int))), (2, rs 1 ov 1 cv), (7, .sc (.int .i64 1)), (61, rs 1 ov 1 cv), (66, rs 0 (0 + (i + 1) * 32) (n + 1 - (i + 1)) (c - (i + 1)))]) (h' := [rawO 31 cur, exO (.cells cur2.toArray te2 fr2)]) (LSpec.sliceRaw hG (ty := 22) (e := 31) (x := .tmp 62) (lo := some (.tmp 65)) (hi := none) (o := 0) (off := 0) (len := n + 1) (c := c) (i + 1) (n + 1) 32 (by kernel_rfl) (by kernel_rfl) (by kernel_rfl) (by kernel_rfl) (by kernel_rfl) (⟨.i64, by kernel_rfl⟩) (rfl) (by omega) (by omega) (by omega)) (by kernel_rfl) rfl ?_
  refine LK.op [0, 1, 2, 7, 67] (t' := [(0, rs 0 0 (n + 1) c), (1, .sc (.int .i64 (i : Int))), (2, rs 1 ov 1 cv), (7, .sc (.int .i64 1)), (67, .sc (.bool false))]) (h' := [rawO 31 cur, exO (.cells cur2.toArray te2 fr2)]) (LSpec.overlapsRaw hG (ts := #[22, 22]) (tR := 4) (tS := 22) (e := 31) (te := 31) (te2 := te2) (fc := .func 43) (x := .tmp 61) (y := .tmp 66) (o := 0) (off := 0 + (i + 1) * 32) (ln := n + 1 - (i + 1)) (cp := c - (i + 1)) (o2 := 1) (off2 := ov) (ln2 := 1) (cp2 := cv) (cur := cur) (cur2 := cur2) (fr2 := fr2) (by kernel_rfl) (by kernel_rfl) z23_over (by kernel_rfl) (by kernel_rfl) (by kernel_rfl) (by kernel_rfl) (by kernel_rfl) (by kernel_rfl) (by omega) (by omega)) (by kernel_rfl) rfl ?_
  refine LK.seg hG 1 [0, 1, 2, 7, 68] (t' := [(0, rs 0 0 (n + 1) c), (1, .sc (.int .i64 (i : Int))), (2, rs 1 ov 1 cv), (7, .sc (.int .i64 1)), (68, .sc (.bool true))]) (h' := [rawO 31 cur, exO (.cells cur2.toArray te2 fr2)]) (by kernel_rfl) rfl ?_
  refine LK.done (by kernel_rfl) ?_
  refine AR.cond (.tmp 68) true (by kernel_rfl) (by kernel_rfl) (fun _ => ?_) (fun hb => by cases hb)
  refine AR.seg hG hm 1 [0, 1, 2, 7] (k' := [.code [1, 1, 1, 1, 1, 1, 1, 1, 0, 1, 0, 0], .code [1, 1, 1, 1, 1, 1, 1, 1, 0, 1, 0, 1], .code [1, 1, 1, 1, 1, 1, 1, 1, 1]]) (t' := [(0, rs 0 0 (n + 1) c), (1, .sc (.int .i64 (i : Int))), (2, rs 1 ov 1 cv), (7, .sc (.int .i64 1))]) (h' := [rawO 31 cur, exO (.cells cur2.toArray te2 fr2)]) (by kernel_rfl) ?_
  refine AR.reg hm [.pure, .pure, .pure, .pure, .pure, .pure, .pure, .pure, .loud] (by kernel_rfl) ?_
  refine DK.seg hG 4 [0, 1, 2, 7, 69, 72] (t' := [(0, rs 0 0 (n + 1) c), (1, .sc (.int .i64 (i : Int))), (2, rs 1 ov 1 cv), (7, .sc (.int .i64 1)), (69, rs 0 0 (n + 1) c), (72, .sc (.int .i64 (IntKind.i64.wrap ((i : Int) + 1))))]) (h' := [rawO 31 cur, exO (.cells cur2.toArray te2 fr2)]) (by kernel_rfl) rfl ?_
  rw [hw2]
  refine DK.op' [0, 1, 2, 7, 73] (t' := [(0, rs 0 0 (n + 1) c), (1, .sc (.int .i64 (i : Int))), (2, rs 1 ov 1 cv), (7, .sc (.int .i64 1)), (73, rs 0 (0 + (i + 1) * 32) (n + 1 - (i + 1)) (c - (i + 1)))]) (h' := [rawO 31 cur, exO (.cells cur2.toArray te2 fr2)]) (LSpec.sliceRaw hG (ty := 22) (e := 31) (x := .tmp 69) (lo := some (.tmp 72)) (hi := none) (o := 0) (off := 0) (len := n + 1) (c := c) (i + 1) (n + 1) 32 (by kernel_rfl) (by kernel_rfl) (by kernel_rfl) (by kernel_rfl) (by kernel_rfl) (⟨.i64, by kernel_rfl⟩) (rfl) (by omega) (by omega) (by omega)) (by kernel_rfl) rfl (by kernel_rfl) rfl ?_
  refine DK.seg hG 2 [0, 1, 2, 7, 73, 74, 75] (t' := [(0, rs 0 0 (n + 1) c), (1, .sc (.int .i64 (i : Int))), (2, rs 1 ov 1 cv), (7, .sc (.int .i64 1)), (73, rs 0 (0 + (i + 1) * 32) (n + 1 - (i + 1)) (c - (i + 1))), (74, rs 0 0 (n + 1) c), (75, .sc (.int .i64 (i : Int)))]) (h' := [rawO 31 cur, exO (.cells cur2.toArray te2 fr2)]) (by kernel_rfl) rfl ?_
  refine DK.op' [0, 1, 2, 7, 73, 76] (t' := [(0, rs 0 0 (n + 1) c), (1, .sc (.int .i64 (i : Int))), (2, rs 1 ov 1 cv), (7, .sc (.int .i64 1)), (73, rs 0 (0 + (i + 1) * 32) (n + 1 - (i + 1)) (c - (i + 1))), (76, rs 0 (0 + i * 32) (n + 1 - i) (c - i))]) (h' := [rawO 31 cur, exO (.cells cur2.toArray te2 fr2)]) (LSpec.sliceRaw hG (ty := 22) (e := 31) (x := .tmp 74) (lo := some (.tmp 75)) (hi := none) (o := 0) (off := 0) (len := n + 1) (c := c) (i) (n + 1) 32 (by kernel_rfl) (by kernel_rfl) (by kernel_rfl) (by kernel_rfl) (by kernel_rfl) (⟨.i64, by kernel_rfl⟩) (rfl) (by omega) (by omega) (by omega)) (by kernel_rfl) rfl (by kernel_rfl) rfl ?_
  refine DK.op' [0, 1, 2] (t' := [(0, rs 0 0 (n + 1) c), (1, .sc (.int .i64 (i : Int))), (2, rs 1 ov 1 cv)]) (h' := [rawO 31 (cur.take (0 + (i + 1) * 32) ++ (cur.drop (0 + i * 32)).take ((n - i) * 32) ++ cur.drop (0 + (i + 1) * 32 + (n - i) * 32)), exO (.cells cur2.toArray te2 fr2)]) (LSpec.copyRaw hG (ty := 22) (ty2 := 22) (e := 31) (te := 31) (te2 := 31) (x := .tmp 73) (y := .tmp 76) (o := 0) (off := 0 + (i + 1) * 32) (dn := n + 1 - (i + 1)) (dc := c - (i + 1)) (o2 := 0) (off2 := 0 + i * 32) (sn := n + 1 - i) (sc := c - i) (k := n - i) (sz := 32) (cur := cur) (cur2 := cur) (fr2 := (0, 0)) (by kernel_rfl) (by kernel_rfl) (by kernel_rfl) (by kernel_rfl) (by kernel_rfl) (by kernel_rfl) (by kernel_rfl) (by kernel_rfl) (by omega) (by omega) (by omega) (by rw [Nat.zero_add]; exact hone)) (by kernel_rfl) (by kernel_rfl) (by kernel_rfl) rfl ?_
  refine DK.done (by kernel_rfl) (by kernel_rfl) ?_
  obtain ⟨L1, hL1⟩ : ∃ L1, cur.take (0 + (i + 1) * 32) ++ (cur.drop (0 + i * 32)).take ((n - i) * 32) ++ cur.drop (0 + (i + 1) * 32 + (n - i) * 32) = L1 := ⟨_, rfl⟩
  rw [hL1]
  have l1 : L1.length = c * 32 := by rw [← hL1, List.length_append, List.length_append, List.length_take, List.length_take, List.length_drop, List.length_drop]; omega
  refine AR.seg hG hm 1 [0, 1, 2] (k' := [.code [1, 1, 1, 1, 1, 1, 1, 1, 0, 1, 0, 1, 0], .code [1, 1, 1, 1, 1, 1, 1, 1, 0, 1, 0, 1, 1], .code [1, 1, 1, 1, 1, 1, 1, 1, 1]]) (t' := [(0, rs 0 0 (n + 1) c), (1, .sc (.int .i64 (i : Int))), (2, rs 1 ov 1 cv)]) (h' := [rawO 31 L1, exO (.cells cur2.toArray te2 fr2)]) (by kernel_rfl) ?_
  refine AR.regK (by kernel_rfl) ?_
  refine LK.seg hG 2 [0, 1, 2, 78, 79] (t' := [(0, rs 0 0 (n + 1) c), (1, .sc (.int .i64 (i : Int))), (2, rs 1 ov 1 cv), (78, rs 0 0 (n + 1) c), (79, .sc (.int .i64 (i : Int)))]) (h' := [rawO 31 L1, exO (.cells cur2.toArray te2 fr2)]) (by kernel_rfl) rfl ?_
  refine LK.op [0, 1, 2, 80] (t' := [(0, rs 0 0 (n + 1) c), (1, .sc (.int .i64 (i : Int))), (2, rs 1 ov 1 cv), (80, rs 0 (0 + i * 32) (n + 1 - i) (c - i))]) (h' := [rawO 31 L1, exO (.cells cur2.toArray te2 fr2)]) (LSpec.sliceRaw hG (ty := 22) (e := 31) (x := .tmp 78) (lo := some (.tmp 79)) (hi := none) (o := 0) (off := 0) (len := n + 1) (c := c) (i) (n + 1) 32 (by kernel_rfl) (by kernel_rfl) (by kernel_rfl) (by kernel_rfl) (by kernel_rfl) (⟨.i64, by kernel_rfl⟩) (rfl) (by omega) (by omega) (by omega)) (by kernel_rfl) rfl ?_
  refine LK.seg hG 1 [0, 1, 2, 80, 81] (t' := [(0, rs 0 0 (n + 1) c), (1, .sc (.int .i64 (i : Int))), (2, rs 1 ov 1 cv), (80, rs 0 (0 + i * 32) (n + 1 - i) (c - i)), (81, rs 1 ov 1 cv)]) (h' := [rawO 31 L1, exO (.cells cur2.toArray te2 fr2)]) (by kernel_rfl) rfl ?_
  refine LK.op [0] (t' := [(0, rs 0 0 (n + 1) c)]) (h' := [rawO 31 (L1.take (0 + i * 32) ++ (cur2.drop ov).take (1 * 32) ++ L1.drop (0 + i * 32 + 1 * 32)), exO (.cells cur2.toArray te2 fr2)]) (LSpec.copyRaw hG (ty := 22) (ty2 := 22) (e := 31) (te := 31) (te2 := te2) (x := .tmp 80) (y := .tmp 81) (o := 0) (off := 0 + i * 32) (dn := n + 1 - i) (dc := c - i) (o2 := 1) (off2 := ov) (sn := 1) (sc := cv) (k := 1) (sz := 32) (cur := L1) (cur2 := cur2) (fr2 := fr2) (by kernel_rfl) (by kernel_rfl) (by kernel_rfl) (by kernel_rfl) (by kernel_rfl) (by kernel_rfl) (by kernel_rfl) (by kernel_rfl) (by omega) (by omega) (by omega) (by rw [hx1]; exact hone2)) (by kernel_rfl) rfl ?_
  refine LK.done (by kernel_rfl) ?_
  refine AR.seg hG hm 2 [6] (k' := [.code [1, 1, 1, 1, 1, 1, 1, 1, 0, 1, 0, 1, 1, 1], .code [1, 1, 1, 1, 1, 1, 1, 1, 1]]) (t' := [(6, rs 0 0 (n + 1) c)]) (h' := [rawO 31 (L1.take (0 + i * 32) ++ (cur2.drop ov).take (1 * 32) ++ L1.drop (0 + i * 32 + 1 * 32)), exO (.cells cur2.toArray te2 fr2)]) (by kernel_rfl) ?_
  refine AR.post (fun e w hq => ⟨L1.take (0 + i * 32) ++ (cur2.drop ov).take (1 * 32) ++ L1.drop (0 + i * 32 + 1 * 32), ?_, hq⟩) (AR.ret hG Try.func23 (by kernel_rfl) 2 (by omega) (aas := [rs 0 0 (n + 1) c]) (bs := [rs 0 0 (n + 1) c]) (by kernel_rfl) (by kernel_rfl) (by kernel_rfl) (by kernel_rfl) (by kernel_rfl))
  have hs := splice_room cur ((cur2.drop ov).take 32) (i * 32) 32 ((n - i) * 32) (by omega) hx L1 (L1.take (0 + i * 32) ++ (cur2.drop ov).take (1 * 32) ++ L1.drop (0 + i * 32 + 1 * 32)) (by rw [← hL1, Nat.zero_add, Nat.zero_add, ei1]) (by rw [hx1, Nat.zero_add, Nat.one_mul])
  refine ⟨hle, hcm, ?_, ?_⟩
  ·rw [hs.2, hcl]
  ·rw [en1]; exact hs.1
end Go.Proofs.Ytjicebidjfbkpaa
namespace Go.Proofs.Ytjicebidjfbkpaa
open Go.Sh
theorem z23_contract (A : List Rule) (x : Rule) (i : Nat) (hi : i ≤ A.length) (f : Bool) (C : Ctx) (H : HRel tab.S C [.row 31 (List.map Rule.av A) 1000000 true]) (hfit : (A.length + 1) * 272 ≤ reach) (vals : Array Value)
  (hv : VRels tab.S C [.own 0 1000000, .sc (.int .i64 (i : Int)), .sl 31 [Rule.av x] f] vals.toList) :
  Calls Try.prog 23 vals C.w (Rp tab.S C (.own 0 1000001) [.row 31 (List.map Rule.av (A.take i ++ x :: A.drop i)) 1000001 true]) := by
 have hS2 : tab.S 31 = (32, 272) := by kernel_rfl
 by_cases hie : i = A.length
 ·subst hie
  rw [List.take_length, List.drop_length]
  exact z23_end A x f C H hfit vals hv
 ·have hlt : i < (List.map Rule.av A).length := by rw [List.length_map]; omega
  obtain ⟨g, n, cap, cur, b, off, cv, cur2, te, fr, v, q1, q2, q3, q4, q5, q6, q7, q8, q9, q10, q11, q12, q13, q14, q15, q16⟩ := insert_open (Nat.le_refl 1000000) H hv hlt
  rw [hS2] at q6 q8 q9 q10 q11
  rw [List.length_map] at q1
  have hmap : List.map Rule.av (A.take i ++ x :: A.drop i) = (List.map Rule.av A).take i ++ Rule.av x :: (List.map Rule.av A).drop i := by
   rw [List.map_append, List.map_cons, List.map_take, List.map_drop]
  rw [hmap]
  have hone := RelF.one _ _ q8
  have hncl : n * 32 ≤ cur.length := by rw [q6]; exact Nat.mul_le_mul_right _ q4
  have hmid := z23_mid n i cap off cv cur cur2 te fr ⟨C.w, [.blk g, .blk b], C.X⟩ rfl (by omega) q4 q5 q6 q10
   (fun u hu => hone u (by
    rw [Nat.sub_mul, ← List.drop_take] at hu
    exact List.mem_of_mem_drop hu))
   (fun u hu => RelV.one _ _ q11 u hu) (by rw [← q1]; exact hfit)
  refine (AR.start (G := tab) z23_F (fn := Try.f23) Try.func23 (by kernel_rfl) (by kernel_rfl) (Nat.le_of_ble_eq_true (by kernel_rfl)) (C := ⟨C.w, [.blk g, .blk b], C.X⟩) q15 q16 hmid).mono ?_
  intro en w hq
  exact insert_close q2 q3 H hS2 (by rw [List.length_map]; exact q1) (by omega) q8 hncl (by omega) q11 (by rw [List.length_take, List.length_drop]; omega) q12 (by rw [← q1]; exact hfit) hq
theorem z23_ent : Ent Try.prog 23 := ent_of Try.func23 (by kernel_rfl) (by kernel_rfl)
theorem z23_O (A : List Rule) (x : Rule) (j : Int) (A' : List Rule) (f : Bool) (hv : insO A j x = some A') (hfit : (A.length + [x].length) * 272 ≤ reach) (C : Ctx) (vals : Array Value) (H : HRel tab.S C [.row 31 (List.map Rule.av A) 1000000 true])
  (hq : VRels tab.S C (.own 0 1000000 :: [.sc (.int .i64 j), .sl 31 (List.map Rule.av [x]) f]) vals.toList) :
  Calls Try.prog 23 vals C.w (Rp tab.S C (.own 0 1000001) [.row 31 (List.map Rule.av A') 1000001 true]) := by
 obtain ⟨i, rfl, hi, rfl⟩ := insO_some hv
 exact z23_contract A x i hi f C H hfit vals hq
end Go.Proofs.Ytjicebidjfbkpaa
namespace Go.Proofs.Ytjicebidjfbkpaa
open Go.Sh
noncomputable def z74_F : Go.Sh.Fn := ⟨74, bodyOf Try.f74, 9⟩
def z74 (n : Int) : Bool :=
 ((decide (n ≥ 0)) && (decide (n < 12)))
theorem z74_calls (n : Int) : ACalls Try.prog tab.S 74 [.sc (.int .i64 n)] [] (.sc (.bool (z74 n))) [] := by
 generalize H : z74 n = r
 refine .of_AX z74_F Try.func74 fun c0 hc0 => ?_
 rw [z74] at H
 refine .sg 3 [0] (.rg (.sg 3 [0,5] (.mx 0 [8] (.sg 1 [2] (.dn ?_)))))
 subst H
 exact .ret Try.func74 hc0
noncomputable def z76_F : Go.Sh.Fn := ⟨76, bodyOf Try.f76, 14⟩
def z76 : (List Field) :=
 [({ name := (ByteArray.mk #[105, 110]), size := 16 } : Field), ({ name := (ByteArray.mk #[101, 115, 114, 99]), size := 48 } : Field), ({ name := (ByteArray.mk #[101, 100, 115, 116]), size := 48 } : Field), ({ name := (ByteArray.mk #[101, 116, 121, 112, 101]), size := 16 } : Field), ({ name := (ByteArray.mk #[118, 108, 97, 110]), size := 12 } : Field), ({ name := (ByteArray.mk #[112, 99, 112]), size := 4 } : Field), ({ name := (ByteArray.mk #[115, 114, 99]), size := 32 } : Field), ({ name := (ByteArray.mk #[100, 115, 116]), size := 32 } : Field), ({ name := (ByteArray.mk #[112, 114, 111, 116, 111]), size := 8 } : Field), ({ name := (ByteArray.mk #[116, 111, 115]), size := 8 } : Field), ({ name := (ByteArray.mk #[115, 112, 111, 114, 116]), size := 12 } : Field), ({ name := (ByteArray.mk #[100, 112, 111, 114, 116]), size := 12 } : Field)]
theorem z76_calls : ACalls Try.prog tab.S 76 [] [] (.agg (List.flatMap Field.ch (z76))) [] := by
 generalize H : z76 = r
 refine .of_AX z76_F Try.func76 fun c0 hc0 => ?_
 rw [z76] at H
 refine .sg 4 [0] ?_
 subst H
 exact .ret Try.func76 hc0
noncomputable def z73_F : Go.Sh.Fn := ⟨73, bodyOf Try.f73, 10⟩
def z73_raw (n : Int) : Option (Int) :=
 (bif (!(z74 n)) then
  some 0
 else
  (ixO z76 n).bind fun x =>
  some x.size)
theorem z73_walk (n : Int) (r : Int) (H : z73_raw n = some r) : ACalls Try.prog tab.S 73 [.sc (.int .i64 n)] [] (.sc (.int .i64 r)) [] := by
 refine .of_AX z73_F Try.func73 fun c0 hc0 => ?_
 rw [z73_raw] at H
 refine .sg 4 [0] (.rg (.sg 1 [0,3] (.cp [0,4] (z74_calls n) (.sg 1 [0,5] (.dn (.cd (!(z74 n)) H (fun hb H => ?_) (fun hb H => ?_)))))))
 ·
  refine .sg 2 [2] ?_
  obtain rfl := Option.some.inj H
  exact .ret Try.func73 hc0
 ·
  refine .sg 2 [0] (.rg (.cp [0,6] (z76_calls) (.sg 1 [6,7] (bndO H fun x hv H => (.xr [8] z76 Field.ch 2 hv (.fd [9] (.sg 1 [2] (.dn ?_))))))))
  obtain rfl := Option.some.inj H
  exact .ret Try.func73 hc0
theorem z73_ok (n : Int) : ACalls Try.prog tab.S 73 [.sc (.int .i64 n)] [] (.sc (.int .i64 (sizeT n))) [] := by
 refine z73_walk n (sizeT n) ?_
 rw [z73_raw, z74]
 rcases sizeT_cases n with ⟨h, e⟩ | ⟨h1, h2, k, rfl, hk, e⟩
 ·rw [e]
  have : (decide (n ≥ 0) && decide (n < 12)) = false := by
   rw [Bool.and_eq_false_iff, decide_eq_false_iff_not, decide_eq_false_iff_not]; omega
  rw [this]
  rfl
 ·rw [e, decide_eq_true h1, decide_eq_true h2]
  match k, hk with
  | 0, _ | 1, _ | 2, _ | 3, _ | 4, _ | 5, _ | 6, _ | 7, _ | 8, _ | 9, _ | 10, _ | 11, _ => rfl
noncomputable def z66_F : Go.Sh.Fn := ⟨66, bodyOf Try.f66, 10⟩
def z66_raw (n : Int) (v : Int) : Option (Bool) :=
 reqO (decide (0 ≤ (sizeT n))) (
 some ((Int.fdiv v (2 ^ (min ((sizeT n) : Int).toNat (IntKind.u64).bits))) == 0))
theorem z66_walk (n : Int) (v : Int) (r : Bool) (H : z66_raw n v = some r) : ACalls Try.prog tab.S 66 [.sc (.int .i64 n), .sc (.int .u64 v)] [] (.sc (.bool r)) [] := by
 refine .of_AX z66_F Try.func66 fun c0 hc0 => ?_
 rw [z66_raw] at H
 refine .sg 3 [0,1] (.rg (.sg 2 [5,6] (.cp [5,7] (z73_ok n) (reqH H fun hreq H => (.sr_ [8] (b := (sizeT n)) hreq (.sg 2 [4] (.dn ?_)))))))
 obtain rfl := Option.some.inj H
 exact .ret Try.func66 hc0
theorem fits_fdiv {n v : Int} : (Int.fdiv v (2 ^ (min (sizeT n).toNat (IntKind.u64).bits)) == 0) = (decide (0 ≤ v) && fitsT n v) := by
 have hs := sizeT_in n
 have hm : min (sizeT n).toNat (IntKind.u64).bits = (sizeT n).toNat := Nat.min_eq_left (by show _ ≤ 64; omega)
 rw [hm]
 have hp := pow_pos2 (sizeT n).toNat
 unfold fitsT
 rw [Bool.eq_iff_iff, Bool.and_eq_true, decide_eq_true_eq, decide_eq_true_eq, beq_iff_eq]
 rw [Int.fdiv_eq_ediv_of_nonneg _ (Int.le_of_lt hp)]
 constructor
 ·intro h
  have h1 := Int.mul_ediv_add_emod v ((2 : Int) ^ (sizeT n).toNat)
  have h2 := Int.emod_nonneg v (Int.ne_of_gt hp)
  have h3 := Int.emod_lt_of_pos v hp
  rw [h, Int.mul_zero, Int.zero_add] at h1
  rw [h1] at h2 h3
  exact ⟨h2, h3⟩
 ·intro h
  exact Int.ediv_eq_zero_of_lt h.1 h.2
def fitsH (n v : Int) : Bool := decide (0 ≤ v) && fitsT n v
theorem z66_ok (n v : Int) : ACalls Try.prog tab.S 66 [.sc (.int .i64 n), .sc (.int .u64 v)] [] (.sc (.bool (fitsH n v))) [] := by
 refine z66_walk n v _ ?_
 rw [z66_raw, reqO_eq (decide_eq_true (sizeT_in n).1), fits_fdiv]
 rfl
noncomputable def head_Set_F : Go.Sh.Fn := ⟨68, bodyOf Try.f68, 23⟩
def head_Set_raw (h1 : List Int) (n : Int) (v : Int) : Option ((List Int) × Int) :=
 (bif (!(z74 n)) then
  some ([0, 0, 0, 0, 0, 0, 0, 0, 0, 0, 0, 0], 1)
 else
  (bif (!(fitsH n v)) then
   some ([0, 0, 0, 0, 0, 0, 0, 0, 0, 0, 0, 0], 13)
  else
   reqO (decide (0 ≤ n) && decide (n < ((12 : Nat) : Int))) (
   some ((h1.set (n.toNat) v), 0))))
theorem head_Set_walk (h1 : List Int) (n : Int) (v : Int) (r : (List Int) × Int) (H : head_Set_raw h1 n v = some r) : ACalls Try.prog tab.S 68 [.arr .u64 12 h1, .sc (.int .i64 n), .sc (.int .u64 v)] [] (.tup [.arr .u64 12 r.1, .sc (.int .i64 r.2)]) [] := by
 refine .of_AX head_Set_F Try.func68 fun c0 hc0 => ?_
 rw [head_Set_raw] at H
 refine .sg 5 [1,2,3,6] (.rg (.sg 1 [1,2,3,6,9] (.cp [1,2,3,6,10] (z74_calls n) (.sg 2 [1,2,3,6,8] (.dn (.cd (!(z74 n)) H (fun hb H => ?_) (fun hb H => ?_)))))))
 ·
  refine .sg 2 [6,7] ?_
  obtain rfl := Option.some.inj H
  exact .ret Try.func68 hc0
 ·
  refine .sg 1 [1,2,3,6] (.rg (.sg 2 [1,2,3,6,14,15] (.cp [1,2,3,6,16] (z66_ok n v) (.sg 2 [1,2,3,6,13] (.dn (.cd (!(fitsH n v)) H (fun hb H => ?_) (fun hb H => ?_)))))))
  ·
   refine .sg 2 [6,7] ?_
   obtain rfl := Option.some.inj H
   exact .ret Try.func68 hc0
  ·
   refine .sg 3 [1,2,3,6] (.rg (.sg 2 [3,6,19,20] (reqH H fun hreq H => (.xa [3,6,20,21] hreq (.sg 1 [3,6] (.dn (.sg 2 [6,7] ?_)))))))
   obtain rfl := Option.some.inj H
   exact .ret Try.func68 hc0
def setT_ (h : List Int) (n v : Int) : List Int × Int :=
 if z74 n then (if fitsH n v then (h.set n.toNat v, 0) else ([0, 0, 0, 0, 0, 0, 0, 0, 0, 0, 0, 0], 13)) else ([0, 0, 0, 0, 0, 0, 0, 0, 0, 0, 0, 0], 1)
theorem head_Set_ok (h : List Int) (n v : Int) : ACalls Try.prog tab.S 68 [.arr .u64 12 h, .sc (.int .i64 n), .sc (.int .u64 v)] [] (.tup [.arr .u64 12 (setT_ h n v).1, .sc (.int .i64 (setT_ h n v).2)]) [] := by
 refine head_Set_walk h n v (setT_ h n v) ?_
 rw [head_Set_raw]
 unfold setT_
 cases ht : z74 n
 ·rfl
 ·cases hf : fitsH n v
  ·rfl
  ·have hn : (decide (0 ≤ n) && decide (n < ((12 : Nat) : Int))) = true := ht
   simp only [Bool.not_true, cond_false, if_true]
   rw [reqO_eq hn]
noncomputable def z57_F : Go.Sh.Fn := ⟨57, bodyOf Try.f57, 15⟩
def z57_l0s (h1 : List Int) : Nat → Nat → Sum (Unit) (Bool)
 | 0, t6 =>
  (.inl ())
 | rest + 1, t6 =>
  (bif (!(fitsH ((t6 : Nat) : Int) (h1.getD t6 0))) then
   (.inr false)
  else
   z57_l0s h1 rest (t6 + 1) )
theorem z57_l0_walk (h1 : List Int) (r : Bool) (c0 : Ctx) (hc0 : c0.m.length = 0) (res : Sum (Unit) (Bool)) (J : ∀ w : Unit, res = .inl w → AX Try.prog tab z57_F c0 (Rp tab.S c0 (.sc (.bool r)) []) (some ⟨[.code [1, 1]], [], [.box 26 [.arr .u64 12 h1]]⟩)) (Jr : ∀ w, res = .inr w → w = r) :
  ∀ (rest : Nat) (t6 : Nat) (z : Int) (hI : z = ((t6 : Nat) : Int)) (hd : t6 + rest = 12) (H : z57_l0s h1 rest t6 = res), AX Try.prog tab z57_F c0 (Rp tab.S c0 (.sc (.bool r)) []) (some ⟨[.code [1, 0, 1, 0, 0], .loop [1, 0, 1, 0], .blk 0, .code [1, 1]], [(5, .arr .u64 12 h1), (6, .sc (.int .i64 z))], [.box 26 [.arr .u64 12 h1]]⟩) := by
 intro rest
 induction rest with
 | zero =>
  intro t6 z hI hd  H
  subst hI
  rw [z57_l0s] at H
  have hc : (decide (((t6 : Nat) : Int) < 12)) = false := decide_eq_false (by omega)
  exact .sg 3 [5,6,7] (.cdF hc (.sg 1 [] (.kp [] (.to (J () H.symm)))))
 | succ rest ih =>
  intro t6 z hI hd  H
  subst hI
  rw [z57_l0s] at H
  have hlt_t6 : t6 < 12 := by omega
  have hc : (decide (((t6 : Nat) : Int) < 12)) = true := decide_eq_true (by omega)
  have hw : IntKind.i64.wrap (((t6 : Nat) : Int) + 1) = ((t6 + 1 : Nat) : Int) := wrapI_succ (by omega)
  refine .sg 3 [5,6,7] (.cdT hc (.sg 4 [5,6] (.rg (.sg 1 [5,6,8] ?_))))
  have hreq := idx_in 12 hlt_t6 (by decide)
  refine .xv [5,6,8,9] hreq (.sg 2 [3,4,5,6] (.dn (.sg 1 [3,4,5,6] (.rg (.sg 2 [5,6,10,11] (.cp [5,6,12] (z66_ok ((t6 : Nat) : Int) (h1.getD t6 0)) (.sg 1 [5,6,13] (.dn (.cd (!(fitsH ((t6 : Nat) : Int) (h1.getD t6 0))) H (fun hb H => ?_) (fun hb H => ?_))))))))))
  ·
   refine .sg 2 [2] ?_
   subst H
   obtain rfl := Jr _ rfl
   exact .ret Try.func57 hc0
  ·
   exact .sg 3 [5,6] (.kp [5,6] (.into (.cl (ih (t6 + 1) _ hw (by omega) H))))
def z57 (h1 : List Int) : Bool :=
 sumG (fun q => q) (z57_l0s h1 12 0) fun v =>
 true
theorem z57_calls (h1 : List Int) : ACalls Try.prog tab.S 57 [.arr .u64 12 h1] [] (.sc (.bool (z57 h1))) [] := by
 generalize H : z57 h1 = r
 refine .of_AX z57_F Try.func57 fun c0 hc0 => ?_
 rw [z57] at H
 refine .sg 6 [5,6] ?_
 rcases sumG_eq H with ⟨v, hv, H⟩ | ⟨r1, hv, hr1⟩
 case inr =>
  refine .into ?_
  replace hr1 : r1 = r := hr1
  subst hr1
  exact .to (z57_l0_walk h1 _ c0 hc0 (.inr _) (fun _ e => by cases e) (fun _ e => (Sum.inr.inj e).symm) 12 0 _ rfl rfl hv)
 refine .into (.to (z57_l0_walk h1 r c0 hc0 (.inl v) (fun w e => ?_) (fun _ e => by cases e) 12 0 _ rfl rfl hv))
 have e := Sum.inl.inj e
 subst e
 refine .sg 2 [2] ?_
 subst H
 exact .ret Try.func57 hc0
noncomputable def z39_F : Go.Sh.Fn := ⟨39, bodyOf Try.f39, 23⟩
def z39_l0s (c : Cube) : Nat → Nat → Sum (Unit) (Bool)
 | 0, t11 =>
  (.inl ())
 | rest + 1, t11 =>
  (bif ((IntKind.u64.wrap ((BitVec.ofInt 64 (c.Value.getD t11 0) &&& ~~~ (BitVec.ofInt 64 (c.Care.getD (t11) 0))).toNat)) != 0) then
   (.inr false)
  else
   z39_l0s c rest (t11 + 1) )
theorem z39_l0_walk (c : Cube) (r : Bool) (c0 : Ctx) (hc0 : c0.m.length = 0) (res : Sum (Unit) (Bool)) (J : ∀ w : Unit, res = .inl w → AX Try.prog tab z39_F c0 (Rp tab.S c0 (.sc (.bool r)) []) (some ⟨[.code [1, 1, 1]], [], [.box 28 (Cube.ch c)]⟩)) (Jr : ∀ w, res = .inr w → w = r) :
  ∀ (rest : Nat) (t11 : Nat) (z : Int) (hI : z = ((t11 : Nat) : Int)) (hd : t11 + rest = 12) (H : z39_l0s c rest t11 = res), AX Try.prog tab z39_F c0 (Rp tab.S c0 (.sc (.bool r)) []) (some ⟨[.code [1, 1, 0, 1, 0, 0], .loop [1, 1, 0, 1, 0], .blk 0, .code [1, 1, 1]], [(1, .ptr 0 0 none), (10, .arr .u64 12 c.Value), (11, .sc (.int .i64 z))], [.box 28 (Cube.ch c)]⟩) := by
 intro rest
 induction rest with
 | zero =>
  intro t11 z hI hd  H
  subst hI
  rw [z39_l0s] at H
  have hc : (decide (((t11 : Nat) : Int) < 12)) = false := decide_eq_false (by omega)
  exact .sg 3 [1,10,11,12] (.cdF hc (.sg 1 [] (.kp [] (.to (J () H.symm)))))
 | succ rest ih =>
  intro t11 z hI hd  H
  subst hI
  rw [z39_l0s] at H
  have hlt_t11 : t11 < 12 := by omega
  have hc : (decide (((t11 : Nat) : Int) < 12)) = true := decide_eq_true (by omega)
  have hw : IntKind.i64.wrap (((t11 : Nat) : Int) + 1) = ((t11 + 1 : Nat) : Int) := wrapI_succ (by omega)
  refine .sg 3 [1,10,11,12] (.cdT hc (.sg 4 [1,10,11] (.rg (.sg 1 [1,10,11,13] ?_))))
  have hreq := idx_in 12 hlt_t11 (by decide)
  refine .xv [1,10,11,13,14] hreq (.sg 2 [1,3,4,10,11] (.dn (.sg 1 [1,3,4,10,11] (.rg (.sg 3 [1,10,11,15,16,17] ?_)))))
  have hreq := idx_in 12 hlt_t11 (by decide)
  refine .xa [1,10,11,15,18] hreq (.sg 3 [1,10,11,21] (.dn (.cd ((IntKind.u64.wrap ((BitVec.ofInt 64 (c.Value.getD t11 0) &&& ~~~ (BitVec.ofInt 64 (c.Care.getD (t11) 0))).toNat)) != 0) H (fun hb H => ?_) (fun hb H => ?_))))
  ·
   refine .sg 2 [2] ?_
   subst H
   obtain rfl := Jr _ rfl
   exact .ret Try.func39 hc0
  ·
   exact .sg 3 [1,10,11] (.kp [1,10,11] (.into (.cl (ih (t11 + 1) _ hw (by omega) H))))
def z39 (c : Cube) : Bool :=
 (bif (!(z57 c.Care)) then
  false
 else
  sumG (fun q => q) (z39_l0s c 12 0) fun v =>
  true)
theorem z39_calls (c : Cube) : ACalls Try.prog tab.S 39 [Cube.av c] [] (.sc (.bool (z39 c))) [] := by
 generalize H : z39 c = r
 refine .of_AX z39_F Try.func39 fun c0 hc0 => ?_
 rw [z39] at H
 refine .sg 4 [1] (.rg (.sg 2 [1,6] (.cp [1,7] (z57_calls c.Care) (.sg 1 [1,8] (.dn (.cd (!(z57 c.Care)) H (fun hb H => ?_) (fun hb H => ?_)))))))
 ·
  refine .sg 2 [2] ?_
  subst H
  exact .ret Try.func39 hc0
 ·
  refine .sg 5 [1,10,11] ?_
  rcases sumG_eq H with ⟨v, hv, H⟩ | ⟨r1, hv, hr1⟩
  case inr =>
   refine .into ?_
   replace hr1 : r1 = r := hr1
   subst hr1
   exact .to (z39_l0_walk c _ c0 hc0 (.inr _) (fun _ e => by cases e) (fun _ e => (Sum.inr.inj e).symm) 12 0 _ rfl rfl hv)
  refine .into (.to (z39_l0_walk c r c0 hc0 (.inl v) (fun w e => ?_) (fun _ e => by cases e) 12 0 _ rfl rfl hv))
  have e := Sum.inl.inj e
  subst e
  refine .sg 2 [2] ?_
  subst H
  exact .ret Try.func39 hc0
noncomputable def z60_F : Go.Sh.Fn := ⟨60, bodyOf Try.f60, 48⟩
def z60 (a : Act) : Bool :=
 (bif (a.Kind == 1) then
  ((((decide (a.Port ≥ 1)) && (decide (a.Port ≤ 16))) && (a.Field == 0)) && (a.Value == 0))
 else
  (bif (a.Kind == 2) then
   (((setT_ [0, 0, 0, 0, 0, 0, 0, 0, 0, 0, 0, 0] a.Field a.Value).2 == 0) && (a.Port == 0))
  else
   ((a.Kind == 3) && ((a.Port == 0) && ((a.Field == 0) && (a.Value == 0))))))
theorem z60_calls (a : Act) : ACalls Try.prog tab.S 60 [Act.av a] [] (.sc (.bool (z60 a))) [] := by
 generalize H : z60 a = r
 refine .of_AX z60_F Try.func60 fun c0 hc0 => ?_
 rw [z60] at H
 refine .sg 8 [1,6,7] (.cd (a.Kind == 1) H (fun hb H => ?_) (fun hb H => ?_))
 ·
  refine .sg 1 [1] (.rg (.sg 4 [1,12] (.mx 0 [1,16] (.sg 1 [1,17] (.mx 0 [1,21] (.sg 1 [1,22] (.mx 0 [26] (.sg 1 [2] (.dn ?_)))))))))
  subst H
  exact .ret Try.func60 hc0
 ·
  refine .sg 2 [1,27] (.cd (a.Kind == 2) H (fun hb H => ?_) (fun hb H => ?_))
  ·
   refine .sg 1 [1] (.rg (.sg 5 [1,30,32,34] (.cp [1,35] (head_Set_ok [0, 0, 0, 0, 0, 0, 0, 0, 0, 0, 0, 0] a.Field a.Value) (.sg 6 [1,4] (.dn (.sg 1 [1,4] (.rg (.sg 3 [1,40] (.mx 0 [44] (.sg 1 [2] (.dn ?_)))))))))))
   subst H
   exact .ret Try.func60 hc0
  ·
   refine .sg 3 [1] (.rg (.sg 2 [45,46] (.eq_ [47] 9 (.sg 1 [2] (.dn ?_)))))
   subst H
   exact .ret Try.func60 hc0
noncomputable def z67_F : Go.Sh.Fn := ⟨67, bodyOf Try.f67, 19⟩
def z67_l0s (f : Act → Bool) : List Act → Nat → Sum (Unit) (Int)
 | [], t8 =>
  (.inl ())
 | x :: rest, t8 =>
  (bif (f x) then
   (.inr ((t8 : Nat) : Int))
  else
   z67_l0s f rest (t8 + 1) )
theorem z67_l0_walk (s : List Act) (F_f : FuncId) (C_f : List AV) (f : Act → Bool) (P_f : plainL C_f = true) (O_f : C_f.all oneA = true) (H_f : ∀ (y0 : Act), ACalls Try.prog tab.S F_f ([Act.av y0] ++ C_f) [] (.sc (.bool (f y0))) []) (f_s : Bool) (r : Int) (c0 : Ctx) (hc0 : c0.m.length = 0) (res : Sum (Unit) (Int)) (J : ∀ w : Unit, res = .inl w → AX Try.prog tab z67_F c0 (Rp tab.S c0 (.sc (.int .i64 r)) []) (some ⟨[.code [1, 1]], [], []⟩)) (Jr : ∀ w, res = .inr w → w = r) :
  ∀ (rest : List Act) (t8 : Nat) (z : Int) (hI : z = ((t8 : Nat) : Int)) (hd : s.drop t8 = rest) (H : z67_l0s f rest t8 = res), AX Try.prog tab z67_F c0 (Rp tab.S c0 (.sc (.int .i64 r)) []) (some ⟨[.code [1, 0, 1, 0, 0], .loop [1, 0, 1, 0], .blk 0, .code [1, 1]], [(0, .sl 34 (List.map Act.av s) f_s), (1, .fn F_f C_f), (7, .sc (.int .i64 (((List.map Act.av s).length : Nat) : Int))), (8, .sc (.int .i64 z))], []⟩) := by
 intro rest
 induction rest with
 | nil =>
  intro t8 z hI hd  H
  subst hI
  rw [z67_l0s] at H
  refine .facts 0 fun hf => ?_
  have hlen : s.length ≤ 9223372036854775807 := by have hq := len_ok hf.2.1; rw [List.length_map] at hq; exact hq
  have hge : s.length ≤ t8 := List.drop_eq_nil_iff.1 hd
  have hc : (decide (((t8 : Nat) : Int) < (((List.map Act.av s).length : Nat) : Int))) = false := by rw [List.length_map]; exact decide_eq_false (by omega)
  exact .sg 3 [0,1,7,8,9] (.cdF hc (.sg 1 [] (.kp [] (.to (J () H.symm)))))
 | cons x rest ih =>
  intro t8 z hI hd  H
  subst hI
  rw [z67_l0s] at H
  refine .facts 0 fun hf => ?_
  have hlen : s.length ≤ 9223372036854775807 := by have hq := len_ok hf.2.1; rw [List.length_map] at hq; exact hq
  obtain ⟨hlt, hv_t8, hd2⟩ := drop_cons hd
  have hc : (decide (((t8 : Nat) : Int) < (((List.map Act.av s).length : Nat) : Int))) = true := by rw [List.length_map]; exact decide_eq_true (by omega)
  have hw : IntKind.i64.wrap (((t8 : Nat) : Int) + 1) = ((t8 + 1 : Nat) : Int) := wrapI_succ (by omega)
  refine .sg 3 [0,1,7,8,9] (.cdT hc (.sg 6 [0,1,5,7,8] (.rg (.sg 3 [0,1,5,7,8,11,12,13] (.xi [0,1,5,7,8,11,14] Act.av hv_t8 (.sg 1 [0,1,5,7,8,11,15] (.cf [0,1,5,7,8,16] (H_f x) P_f O_f (.dn (.cd (f x) H (fun hb H => ?_) (fun hb H => ?_))))))))))
  ·
   refine .sg 2 [4] ?_
   subst H
   obtain rfl := Jr _ rfl
   exact .ret Try.func67 hc0
  ·
   exact .sg 3 [0,1,7,8] (.kp [0,1,7,8] (.into (.cl (ih (t8 + 1) _ hw hd2 H))))
def z67 (s : List Act) (f : Act → Bool) : Int :=
 sumG (fun q => q) (z67_l0s f s 0) fun v =>
 (-1)
theorem z67_calls (s : List Act) (F_f : FuncId) (C_f : List AV) (f : Act → Bool) (P_f : plainL C_f = true) (O_f : C_f.all oneA = true) (H_f : ∀ (y0 : Act), ACalls Try.prog tab.S F_f ([Act.av y0] ++ C_f) [] (.sc (.bool (f y0))) []) (f_s : Bool) : ACalls Try.prog tab.S 67 [.sl 34 (List.map Act.av s) f_s, .fn F_f C_f] [] (.sc (.int .i64 (z67 s f))) [] := by
 generalize H : z67 s f = r
 refine .of_AX z67_F Try.func67 fun c0 hc0 => ?_
 rw [z67] at H
 refine .sg 6 [0,1,7,8] ?_
 rcases sumG_eq H with ⟨v, hv, H⟩ | ⟨r1, hv, hr1⟩
 case inr =>
  refine .into ?_
  replace hr1 : r1 = r := hr1
  subst hr1
  exact .to (z67_l0_walk s F_f C_f f P_f O_f H_f f_s _ c0 hc0 (.inr _) (fun _ e => by cases e) (fun _ e => (Sum.inr.inj e).symm) s 0 _ rfl rfl hv)
 refine .into (.to (z67_l0_walk s F_f C_f f P_f O_f H_f f_s r c0 hc0 (.inl v) (fun w e => ?_) (fun _ e => by cases e) s 0 _ rfl rfl hv))
 have e := Sum.inl.inj e
 subst e
 refine .sg 2 [4] ?_
 subst H
 exact .ret Try.func67 hc0
noncomputable def z58_F : Go.Sh.Fn := ⟨58, bodyOf Try.f58, 9⟩
def z58 (s : List Act) (f : Act → Bool) : Bool :=
 (decide ((z67 s f) ≥ 0))
theorem z58_calls (s : List Act) (F_f : FuncId) (C_f : List AV) (f : Act → Bool) (P_f : plainL C_f = true) (O_f : C_f.all oneA = true) (H_f : ∀ (y0 : Act), ACalls Try.prog tab.S F_f ([Act.av y0] ++ C_f) [] (.sc (.bool (f y0))) []) (f_s : Bool) : ACalls Try.prog tab.S 58 [.sl 34 (List.map Act.av s) f_s, .fn F_f C_f] [] (.sc (.bool (z58 s f))) [] := by
 generalize H : z58 s f = r
 refine .of_AX z58_F Try.func58 fun c0 hc0 => ?_
 rw [z58] at H
 refine .sg 3 [0,1] (.rg (.sg 2 [5,6] (.cl_ [7] (caps := []) (z67_calls s F_f C_f f P_f O_f H_f f_s) (.same rfl (.fn (caps := C_f) (lendC_plain C_f P_f) .nil)) (by kernel_rfl) rfl rfl (.sg 2 [4] (.dn ?_)))))
 subst H
 exact .ret Try.func58 hc0
noncomputable def z59_F : Go.Sh.Fn := ⟨59, bodyOf Try.f59, 6⟩
def z59 (a : Act) : Bool :=
 (!(z60 a))
theorem z59_calls (a : Act) : ACalls Try.prog tab.S 59 [Act.av a] [] (.sc (.bool (z59 a))) [] := by
 generalize H : z59 a = r
 refine .of_AX z59_F Try.func59 fun c0 hc0 => ?_
 rw [z59] at H
 refine .sg 3 [1] (.rg (.sg 1 [3] (.cp [4] (z60_calls a) (.sg 2 [2] (.dn ?_)))))
 subst H
 exact .ret Try.func59 hc0
noncomputable def z40_F : Go.Sh.Fn := ⟨40, bodyOf Try.f40, 11⟩
def z40 (list : List Act) : Bool :=
 ((decide ((((List.map Act.av list).length : Nat) : Int) ≤ 8)) && (!(z58 list z59)))
theorem z40_calls (list : List Act) (f_list : Bool) : ACalls Try.prog tab.S 40 [.sl 34 (List.map Act.av list) f_list] [] (.sc (.bool (z40 list))) [] := by
 generalize H : z40 list = r
 refine .of_AX z40_F Try.func40 fun c0 hc0 => ?_
 rw [z40] at H
 refine .sg 3 [0] (.rg (.sg 4 [0,6] (.mm 6 (decide ((((List.map Act.av list).length : Nat) : Int) ≤ 8)) 4 [.pure, .pure, .read, .pure] [10] 10 (fun z => .sc (.bool (z && (!(z58 list z59))))) ?J1 (fun hb J => ?ht1) (fun hb J => ?hf1))))
 case ht1 =>
  exact .sg 1 [6,7] (.cl_ [6,8] (caps := []) (z58_calls list 59 [] z59 rfl rfl (fun y0 => z59_calls y0) f_list) (.same rfl (.fn (caps := []) (by kernel_rfl) .nil)) (by kernel_rfl) rfl rfl (.sg 2 [10] (.cl J)))
 case hf1 =>
  exact .sg 4 [10] (.cl J)
 refine .sg 1 [2] (.dn ?_)
 subst H
 exact .ret Try.func40 hc0
noncomputable def z41_F : Go.Sh.Fn := ⟨41, bodyOf Try.f41, 12⟩
def z41 (n : Int) (most : Int) : Bool :=
 ((decide (n ≥ 0)) && (decide (n ≤ most)))
theorem z41_calls (n : Int) (most : Int) : ACalls Try.prog tab.S 41 [.sc (.int .i64 n), .sc (.int .i64 most)] [] (.sc (.bool (z41 n most))) [] := by
 generalize H : z41 n most = r
 refine .of_AX z41_F Try.func41 fun c0 hc0 => ?_
 rw [z41] at H
 refine .sg 3 [0,1] (.rg (.sg 3 [0,1,7] (.mx 0 [11] (.sg 1 [4] (.dn ?_)))))
 subst H
 exact .ret Try.func41 hc0
noncomputable def z18_F : Go.Sh.Fn := ⟨18, bodyOf Try.f18, 41⟩
def z18 (r2 : Rule) : Bool :=
 (((((((z39 r2.Match) && (z40 r2.Acts)) && (z41 r2.Prio 65535)) && (z41 r2.Idle 1048576)) && (z41 r2.Hard 1048576)) && (z41 r2.Owner 255)) && (decide ((if r2.Age < (if r2.Quiet < r2.Hits then r2.Quiet else r2.Hits) then r2.Age else (if r2.Quiet < r2.Hits then r2.Quiet else r2.Hits)) ≥ 0)))
theorem z18_calls (r2 : Rule) : ACalls Try.prog tab.S 18 [Rule.av r2] [] (.sc (.bool (z18 r2))) [] := by
 generalize H : z18 r2 = r
 refine .of_AX z18_F Try.func18 fun c0 hc0 => ?_
 rw [z18] at H
 refine .sg 3 [1] (.rg (.sg 2 [1,4] (.cp [1,5] (z39_calls r2.Match) (.sg 1 [1,6] (.mm 6 (z39 r2.Match) 4 [.pure, .pure, .read, .pure] [1, 10] 10 (fun z => .sc (.bool (z && (z40 r2.Acts)))) ?J1 (fun hb J => ?ht1) (fun hb J => ?hf1))))))
 case ht1 =>
  exact .sg 2 [1,6,8] (.cp [1,6,9] (z40_calls r2.Acts false) (.sg 1 [1,10] (.cl J)))
 case hf1 =>
  exact .sg 4 [1,10] (.cl J)
 refine .sg 1 [1,11] (.mm 11 ((z39 r2.Match) && (z40 r2.Acts)) 4 [.pure, .pure, .read, .pure] [1, 15] 15 (fun z => .sc (.bool (z && (z41 r2.Prio 65535)))) ?J2 (fun hb J => ?ht2) (fun hb J => ?hf2))
 case ht2 =>
  exact .sg 2 [1,11,13] (.cp [1,11,14] (z41_calls r2.Prio 65535) (.sg 1 [1,15] (.cl J)))
 case hf2 =>
  exact .sg 4 [1,15] (.cl J)
 refine .sg 1 [1,16] (.mm 16 (((z39 r2.Match) && (z40 r2.Acts)) && (z41 r2.Prio 65535)) 4 [.pure, .pure, .read, .pure] [1, 20] 20 (fun z => .sc (.bool (z && (z41 r2.Idle 1048576)))) ?J3 (fun hb J => ?ht3) (fun hb J => ?hf3))
 case ht3 =>
  exact .sg 2 [1,16,18] (.cp [1,16,19] (z41_calls r2.Idle 1048576) (.sg 1 [1,20] (.cl J)))
 case hf3 =>
  exact .sg 4 [1,20] (.cl J)
 refine .sg 1 [1,21] (.mm 21 ((((z39 r2.Match) && (z40 r2.Acts)) && (z41 r2.Prio 65535)) && (z41 r2.Idle 1048576)) 4 [.pure, .pure, .read, .pure] [1, 25] 25 (fun z => .sc (.bool (z && (z41 r2.Hard 1048576)))) ?J4 (fun hb J => ?ht4) (fun hb J => ?hf4))
 case ht4 =>
  exact .sg 2 [1,21,23] (.cp [1,21,24] (z41_calls r2.Hard 1048576) (.sg 1 [1,25] (.cl J)))
 case hf4 =>
  exact .sg 4 [1,25] (.cl J)
 refine .sg 1 [1,26] (.mm 26 (((((z39 r2.Match) && (z40 r2.Acts)) && (z41 r2.Prio 65535)) && (z41 r2.Idle 1048576)) && (z41 r2.Hard 1048576)) 4 [.pure, .pure, .read, .pure] [1, 30] 30 (fun z => .sc (.bool (z && (z41 r2.Owner 255)))) ?J5 (fun hb J => ?ht5) (fun hb J => ?hf5))
 case ht5 =>
  exact .sg 2 [1,26,28] (.cp [1,26,29] (z41_calls r2.Owner 255) (.sg 1 [1,30] (.cl J)))
 case hf5 =>
  exact .sg 4 [1,30] (.cl J)
 refine .sg 1 [1,31] (.mm 31 ((((((z39 r2.Match) && (z40 r2.Acts)) && (z41 r2.Prio 65535)) && (z41 r2.Idle 1048576)) && (z41 r2.Hard 1048576)) && (z41 r2.Owner 255)) 9 [.pure, .pure, .pure, .read, .pure, .read, .pure, .read, .pure] [40] 40 (fun z => .sc (.bool (z && (decide ((if r2.Age < (if r2.Quiet < r2.Hits then r2.Quiet else r2.Hits) then r2.Age else (if r2.Quiet < r2.Hits then r2.Quiet else r2.Hits)) ≥ 0))))) ?J6 (fun hb J => ?ht6) (fun hb J => ?hf6))
 case ht6 =>
  exact .sg 6 [31,33,35,37] (.m3 [31,38] (.sg 2 [40] (.cl J)))
 case hf6 =>
  exact .sg 9 [40] (.cl J)
 refine .sg 1 [2] (.dn ?_)
 subst H
 exact .ret Try.func18 hc0
end Go.Proofs.Ytjicebidjfbkpaa
namespace Go.Proofs.Ytjicebidjfbkpaa
open Go.Sh
noncomputable def z75_F : Go.Sh.Fn := ⟨75, bodyOf Try.f75, 6⟩
def z75 (x : Int) : Bool :=
 (x != x)
theorem z75_calls (x : Int) : ACalls Try.prog tab.S 75 [.sc (.int .u64 x)] [] (.sc (.bool (z75 x))) [] := by
 generalize H : z75 x = r
 refine .of_AX z75_F Try.func75 fun c0 hc0 => ?_
 rw [z75] at H
 refine .sg 4 [2] ?_
 subst H
 exact .ret Try.func75 hc0
noncomputable def z70_F : Go.Sh.Fn := ⟨70, bodyOf Try.f70, 20⟩
def z70 (x : Int) (y : Int) : Int :=
 (bif (z75 x) then
  (bif (z75 y) then
   0
  else
   (-1))
 else
  (bif (z75 y) then
   1
  else
   (bif (decide (x < y)) then
    (-1)
   else
    (bif (decide (x > y)) then
     1
    else
     0))))
theorem z70_calls (x : Int) (y : Int) : ACalls Try.prog tab.S 70 [.sc (.int .u64 x), .sc (.int .u64 y)] [] (.sc (.int .i64 (z70 x y))) [] := by
 generalize H : z70 x y = r
 refine .of_AX z70_F Try.func70 fun c0 hc0 => ?_
 rw [z70] at H
 refine .sg 3 [0,1] (.rg (.sg 1 [0,1,7] (.cp [0,1,8] (z75_calls x) (.sg 1 [0,1,5] (.dn (.sg 1 [0,1,5] (.rg (.sg 1 [0,1,5,9] (.cp [0,1,5,10] (z75_calls y) (.sg 1 [0,1,5,6] (.dn (.sg 3 [0,1,6,11] (.cd (z75 x) H (fun hb H => ?_) (fun hb H => ?_))))))))))))))
 ·
  refine .sg 3 [12] (.cd (z75 y) H (fun hb H => ?_) (fun hb H => ?_))
  ·
   refine .sg 2 [4] ?_
   subst H
   exact .ret Try.func70 hc0
  ·
   refine .sg 3 [4] ?_
   subst H
   exact .ret Try.func70 hc0
 ·
  refine .sg 4 [0,1,13] (.cd (z75 y) H (fun hb H => ?_) (fun hb H => ?_))
  ·
   refine .sg 2 [4] ?_
   subst H
   exact .ret Try.func70 hc0
  ·
   refine .sg 4 [0,1,16] (.cd (decide (x < y)) H (fun hb H => ?_) (fun hb H => ?_))
   ·
    refine .sg 2 [4] ?_
    subst H
    exact .ret Try.func70 hc0
   ·
    refine .sg 4 [19] (.cd (decide (x > y)) H (fun hb H => ?_) (fun hb H => ?_))
    ·
     refine .sg 2 [4] ?_
     subst H
     exact .ret Try.func70 hc0
    ·
     refine .sg 3 [4] ?_
     subst H
     exact .ret Try.func70 hc0
noncomputable def z69_F : Go.Sh.Fn := ⟨69, bodyOf Try.f69, 39⟩
def z69_l0s (s2 : List Int) (cmp : Int → Int → Int) : List Int → Nat → Option (Sum (Unit) (Int))
 | [], t13 =>
  some (.inl ())
 | x :: rest, t13 =>
  (bif (decide (((t13 : Nat) : Int) ≥ (((List.map (intA .u64) s2).length : Nat) : Int))) then
   some (.inr 1)
  else
   (ixO s2 ((t13 : Nat) : Int)).bind fun x1 =>
   (bif ((cmp x x1) != 0) then
    some (.inr (cmp x x1))
   else
    z69_l0s s2 cmp rest (t13 + 1) ))
theorem z69_l0_walk (s1 : List Int) (s2 : List Int) (F_cmp : FuncId) (C_cmp : List AV) (cmp : Int → Int → Int) (P_cmp : plainL C_cmp = true) (O_cmp : C_cmp.all oneA = true) (H_cmp : ∀ (y0 : Int) (y1 : Int), ACalls Try.prog tab.S F_cmp ([.sc (.int .u64 y0), .sc (.int .u64 y1)] ++ C_cmp) [] (.sc (.int .i64 (cmp y0 y1))) []) (f_s1 : Bool) (f_s2 : Bool) (r : Int) (c0 : Ctx) (hc0 : c0.m.length = 0) (res : Sum (Unit) (Int)) (J : ∀ w : Unit, res = .inl w → AX Try.prog tab z69_F c0 (Rp tab.S c0 (.sc (.int .i64 r)) []) (some ⟨[.code [1, 1]], [(0, .sl 24 (List.map (intA .u64) s1) f_s1), (1, .sl 24 (List.map (intA .u64) s2) f_s2)], []⟩)) (Jr : ∀ w, res = .inr w → w = r) :
  ∀ (rest : List Int) (t13 : Nat) (z : Int) (hI : z = ((t13 : Nat) : Int)) (hd : s1.drop t13 = rest) (H : z69_l0s s2 cmp rest t13 = some res), AX Try.prog tab z69_F c0 (Rp tab.S c0 (.sc (.int .i64 r)) []) (some ⟨[.code [1, 0, 1, 0, 0], .loop [1, 0, 1, 0], .blk 0, .code [1, 1]], [(0, .sl 24 (List.map (intA .u64) s1) f_s1), (1, .sl 24 (List.map (intA .u64) s2) f_s2), (2, .fn F_cmp C_cmp), (11, .sl 24 (List.map (intA .u64) s1) f_s1), (12, .sc (.int .i64 (((List.map (intA .u64) s1).length : Nat) : Int))), (13, .sc (.int .i64 z))], []⟩) := by
 intro rest
 induction rest with
 | nil =>
  intro t13 z hI hd  H
  subst hI
  rw [z69_l0s] at H
  refine .facts 0 fun hf => ?_
  have hlen : s1.length ≤ 9223372036854775807 := by have hq := len_ok hf.2.1; rw [List.length_map] at hq; exact hq
  have hge : s1.length ≤ t13 := List.drop_eq_nil_iff.1 hd
  have hc : (decide (((t13 : Nat) : Int) < (((List.map (intA .u64) s1).length : Nat) : Int))) = false := by rw [List.length_map]; exact decide_eq_false (by omega)
  exact .sg 3 [0,1,2,11,12,13,14] (.cdF hc (.sg 1 [0,1] (.kp [0,1] (.to (J () (Option.some.inj H).symm)))))
 | cons x rest ih =>
  intro t13 z hI hd  H
  subst hI
  rw [z69_l0s] at H
  refine .facts 0 fun hf => ?_
  have hlen : s1.length ≤ 9223372036854775807 := by have hq := len_ok hf.2.1; rw [List.length_map] at hq; exact hq
  obtain ⟨hlt, hv_t13, hd2⟩ := drop_cons hd
  have hc : (decide (((t13 : Nat) : Int) < (((List.map (intA .u64) s1).length : Nat) : Int))) = true := by rw [List.length_map]; exact decide_eq_true (by omega)
  have hw : IntKind.i64.wrap (((t13 : Nat) : Int) + 1) = ((t13 + 1 : Nat) : Int) := wrapI_succ (by omega)
  refine .sg 3 [0,1,2,11,12,13,14] (.cdT hc (.sg 4 [0,1,2,11,12,13] (.rg (.sg 1 [0,1,2,11,12,13,15] (.xi [0,1,2,11,12,13,15,16] (intA .u64) hv_t13 (.sg 3 [0,1,2,7,8,11,12,13] (.dn (.sg 3 [0,1,2,7,8,11,12,13,21] (.cd (decide (((t13 : Nat) : Int) ≥ (((List.map (intA .u64) s2).length : Nat) : Int))) H (fun hb H => ?_) (fun hb H => ?_))))))))))
  ·
   refine .sg 2 [6] ?_
   obtain rfl := Option.some.inj H
   obtain rfl := Jr _ rfl
   exact .ret Try.func69 hc0
  ·
   refine .sg 2 [0,1,2,7,8,11,12,13] (.rg (.sg 2 [0,1,2,8,11,12,13,22,23] (bndO H fun x1 hv H => (.xi [0,1,2,8,11,12,13,24] (intA .u64) hv (.sg 2 [0,1,2,8,9,11,12,13] (.dn (.sg 1 [0,1,2,8,9,11,12,13] (.rg (.sg 3 [0,1,2,11,12,13,26,27,28] (.cf [0,1,2,11,12,13,29] (H_cmp x x1) P_cmp O_cmp (.sg 1 [0,1,2,10,11,12,13] (.dn (.sg 2 [0,1,2,10,11,12,13,31] (.cd ((cmp x x1) != 0) H (fun hb H => ?_) (fun hb H => ?_)))))))))))))))
   ·
    refine .sg 2 [6] ?_
    obtain rfl := Option.some.inj H
    obtain rfl := Jr _ rfl
    exact .ret Try.func69 hc0
   ·
    exact .sg 3 [0,1,2,11,12,13] (.kp [0,1,2,11,12,13] (.into (.cl (ih (t13 + 1) _ hw hd2 H))))
def z69_raw (s1 : List Int) (s2 : List Int) (cmp : Int → Int → Int) : Option (Int) :=
 loopO (z69_l0s s2 cmp s1 0) fun v =>
 (bif (decide ((((List.map (intA .u64) s1).length : Nat) : Int) < (((List.map (intA .u64) s2).length : Nat) : Int))) then
  some (-1)
 else
  some 0)
theorem z69_walk (s1 : List Int) (s2 : List Int) (F_cmp : FuncId) (C_cmp : List AV) (cmp : Int → Int → Int) (P_cmp : plainL C_cmp = true) (O_cmp : C_cmp.all oneA = true) (H_cmp : ∀ (y0 : Int) (y1 : Int), ACalls Try.prog tab.S F_cmp ([.sc (.int .u64 y0), .sc (.int .u64 y1)] ++ C_cmp) [] (.sc (.int .i64 (cmp y0 y1))) []) (f_s1 : Bool) (f_s2 : Bool) (r : Int) (H : z69_raw s1 s2 cmp = some r) : ACalls Try.prog tab.S 69 [.sl 24 (List.map (intA .u64) s1) f_s1, .sl 24 (List.map (intA .u64) s2) f_s2, .fn F_cmp C_cmp] [] (.sc (.int .i64 r)) [] := by
 refine .of_AX z69_F Try.func69 fun c0 hc0 => ?_
 rw [z69_raw] at H
 refine .sg 6 [0,1,2,11,12,13] ?_
 rcases loopO_some H with ⟨v, hv, H⟩ | hv
 case inr =>
  exact .into (.to (z69_l0_walk s1 s2 F_cmp C_cmp cmp P_cmp O_cmp H_cmp f_s1 f_s2 _ c0 hc0 (.inr _) (fun _ e => by cases e) (fun _ e => (Sum.inr.inj e).symm) s1 0 _ rfl rfl hv))
 refine .into (.to (z69_l0_walk s1 s2 F_cmp C_cmp cmp P_cmp O_cmp H_cmp f_s1 f_s2 r c0 hc0 (.inl v) (fun w e => ?_) (fun _ e => by cases e) s1 0 _ rfl rfl hv))
 have e := Sum.inl.inj e
 subst e
 refine .sg 3 [38] (.cd (decide ((((List.map (intA .u64) s1).length : Nat) : Int) < (((List.map (intA .u64) s2).length : Nat) : Int))) H (fun hb H => ?_) (fun hb H => ?_))
 ·
  refine .sg 2 [6] ?_
  obtain rfl := Option.some.inj H
  exact .ret Try.func69 hc0
 ·
  refine .sg 3 [6] ?_
  obtain rfl := Option.some.inj H
  exact .ret Try.func69 hc0
def cmpL {α : Type} (cmp : α → α → Int) : List α → List α → Int
 | [], [] => 0
 | [], _ :: _ => -1
 | _ :: _, [] => 1
 | x :: l, y :: r => bif cmp x y != 0 then cmp x y else cmpL cmp l r
def cmpS {α : Type} (cmp : α → α → Int) : List α → List α → Sum Unit Int
 | [], _ => .inl ()
 | _ :: _, [] => .inr 1
 | x :: l, y :: r => bif cmp x y != 0 then .inr (cmp x y) else cmpS cmp l r
theorem cmpS_L {α : Type} (cmp : α → α → Int) : ∀ (l r : List α), (match cmpS cmp l r with | .inl _ => if l.length < r.length then -1 else 0 | .inr v => v) = cmpL cmp l r
 | [], [] => rfl
 | [], _ :: _ => by simp [cmpS, cmpL]
 | _ :: _, [] => rfl
 | x :: l, y :: r => by
   rw [cmpS, cmpL, ← cmpS_L cmp l r]
   cases cmp x y != 0
   ·simp only [cond_false, List.length_cons, Nat.add_lt_add_iff_right]
   ·rfl
theorem z69_l0s_eq (s2 : List Int) (cmp : Int → Int → Int) : ∀ (l : List Int) (i : Nat), z69_l0s s2 cmp l i = some (cmpS cmp l (s2.drop i))
 | [], i => by rw [z69_l0s]; rfl
 | x :: l, i => by
   rw [z69_l0s, List.length_map]
   by_cases h : i < s2.length
   ·have hc : decide (((i : Nat) : Int) ≥ ((s2.length : Nat) : Int)) = false := decide_eq_false (by omega)
    rw [hc, cond_false, ixO_lt h, Option.bind_some, List.drop_eq_getElem_cons h, cmpS, z69_l0s_eq s2 cmp l (i + 1)]
    cases cmp x s2[i] != 0 <;> rfl
   ·have hc : decide (((i : Nat) : Int) ≥ ((s2.length : Nat) : Int)) = true := decide_eq_true (by omega)
    rw [hc, cond_true, List.drop_eq_nil_of_le (by omega)]
    rfl
theorem z69_eq (s1 s2 : List Int) (cmp : Int → Int → Int) : z69_raw s1 s2 cmp = some (cmpL cmp s1 s2) := by
 rw [z69_raw, z69_l0s_eq, List.drop_zero, ← cmpS_L]
 cases cmpS cmp s1 s2 with
 | inr v => rfl
 | inl u =>
  show (bif _ then _ else _) = _
  rw [List.length_map, List.length_map]
  by_cases h : s1.length < s2.length
  ·rw [decide_eq_true (by omega), if_pos h]; rfl
  ·rw [decide_eq_false (by omega), if_neg h]; rfl
theorem z69_ok (s1 s2 : List Int) (F_cmp : FuncId) (C_cmp : List AV) (cmp : Int → Int → Int) (P_cmp : plainL C_cmp = true) (O_cmp : C_cmp.all oneA = true) (H_cmp : ∀ (y0 : Int) (y1 : Int), ACalls Try.prog tab.S F_cmp ([.sc (.int .u64 y0), .sc (.int .u64 y1)] ++ C_cmp) [] (.sc (.int .i64 (cmp y0 y1))) []) (f_s1 f_s2 : Bool) :
  ACalls Try.prog tab.S 69 [.sl 24 (List.map (intA .u64) s1) f_s1, .sl 24 (List.map (intA .u64) s2) f_s2, .fn F_cmp C_cmp] [] (.sc (.int .i64 (cmpL cmp s1 s2))) [] :=
 z69_walk s1 s2 F_cmp C_cmp cmp P_cmp O_cmp H_cmp f_s1 f_s2 _ (z69_eq s1 s2 cmp)
noncomputable def z62_F : Go.Sh.Fn := ⟨62, bodyOf Try.f62, 8⟩
def z62 (a : List Int) (b : List Int) : Int :=
 (cmpL z70 a b)
theorem z62_calls (a : List Int) (b : List Int) : ACalls Try.prog tab.S 62 [.arr .u64 12 a, .arr .u64 12 b] [] (.sc (.int .i64 (z62 a b))) [] := by
 generalize H : z62 a b = r
 refine .of_AX z62_F Try.func62 fun c0 hc0 => ?_
 rw [z62] at H
 refine .sg 1 [0,1] (.rg (.bx [1,2] (.bx [2,3] (.sg 1 [2,3] (.dn (.sg 1 [2,3] (.rg (.se [3,5] (.se [5,6] (.cl_ [7] (caps := []) (z69_ok a b 70 [] z70 rfl rfl (fun y0 y1 => z70_calls y0 y1) true true) (.same rfl (.same rfl (.fn (caps := []) (by kernel_rfl) .nil))) (by kernel_rfl) rfl rfl (.sg 1 [4] (.dn ?_))))))))))))
 subst H
 exact .ret Try.func62 hc0
noncomputable def z61_F : Go.Sh.Fn := ⟨61, bodyOf Try.f61, 18⟩
def z61_l0s : List Int → Sum (Unit) (Int)
 | [] =>
  (.inl ())
 | x :: rest =>
  (bif (x != 0) then
   (.inr x)
  else
   z61_l0s rest )
theorem z61_l0_walk (vals : List Int) (f_vals : Bool) (r : Int) (c0 : Ctx) (hc0 : c0.m.length = 0) (res : Sum (Unit) (Int)) (J : ∀ w : Unit, res = .inl w → AX Try.prog tab z61_F c0 (Rp tab.S c0 (.sc (.int .i64 r)) []) (some ⟨[.code [1, 1, 1]], [(3, .sc (.int .i64 0))], []⟩)) (Jr : ∀ w, res = .inr w → w = r) :
  ∀ (rest : List Int) (t8 : Nat) (z : Int) (hI : z = ((t8 : Nat) : Int)) (hd : vals.drop t8 = rest) (H : z61_l0s rest = res), AX Try.prog tab z61_F c0 (Rp tab.S c0 (.sc (.int .i64 r)) []) (some ⟨[.code [1, 1, 0, 1, 0, 0], .loop [1, 1, 0, 1, 0], .blk 0, .code [1, 1, 1]], [(3, .sc (.int .i64 0)), (6, .sl 3 (List.map (intA .i64) vals) f_vals), (7, .sc (.int .i64 (((List.map (intA .i64) vals).length : Nat) : Int))), (8, .sc (.int .i64 z))], []⟩) := by
 intro rest
 induction rest with
 | nil =>
  intro t8 z hI hd  H
  subst hI
  rw [z61_l0s] at H
  refine .facts 6 fun hf => ?_
  have hlen : vals.length ≤ 9223372036854775807 := by have hq := len_ok hf.2.1; rw [List.length_map] at hq; exact hq
  have hge : vals.length ≤ t8 := List.drop_eq_nil_iff.1 hd
  have hc : (decide (((t8 : Nat) : Int) < (((List.map (intA .i64) vals).length : Nat) : Int))) = false := by rw [List.length_map]; exact decide_eq_false (by omega)
  exact .sg 3 [3,6,7,8,9] (.cdF hc (.sg 1 [3] (.kp [3] (.to (J () H.symm)))))
 | cons x rest ih =>
  intro t8 z hI hd  H
  subst hI
  rw [z61_l0s] at H
  refine .facts 6 fun hf => ?_
  have hlen : vals.length ≤ 9223372036854775807 := by have hq := len_ok hf.2.1; rw [List.length_map] at hq; exact hq
  obtain ⟨hlt, hv_t8, hd2⟩ := drop_cons hd
  have hc : (decide (((t8 : Nat) : Int) < (((List.map (intA .i64) vals).length : Nat) : Int))) = true := by rw [List.length_map]; exact decide_eq_true (by omega)
  have hw : IntKind.i64.wrap (((t8 : Nat) : Int) + 1) = ((t8 + 1 : Nat) : Int) := wrapI_succ (by omega)
  refine .sg 3 [3,6,7,8,9] (.cdT hc (.sg 4 [3,6,7,8] (.rg (.xi [3,6,7,8,10] (intA .i64) hv_t8 (.sg 2 [3,5,6,7,8] (.dn (.sg 2 [3,5,6,7,8,14] (.cd (x != 0) H (fun hb H => ?_) (fun hb H => ?_)))))))))
  ·
   refine .sg 2 [2] ?_
   subst H
   obtain rfl := Jr _ rfl
   exact .ret Try.func61 hc0
  ·
   exact .sg 3 [3,6,7,8] (.kp [3,6,7,8] (.into (.cl (ih (t8 + 1) _ hw hd2 H))))
def z61 (vals : List Int) : Int :=
 sumG (fun q => q) (z61_l0s vals) fun v =>
 0
theorem z61_calls (vals : List Int) (f_vals : Bool) : ACalls Try.prog tab.S 61 [.sl 3 (List.map (intA .i64) vals) f_vals] [] (.sc (.int .i64 (z61 vals))) [] := by
 generalize H : z61 vals = r
 refine .of_AX z61_F Try.func61 fun c0 hc0 => ?_
 rw [z61] at H
 refine .sg 8 [3,6,7,8] ?_
 rcases sumG_eq H with ⟨v, hv, H⟩ | ⟨r1, hv, hr1⟩
 case inr =>
  refine .into ?_
  replace hr1 : r1 = r := hr1
  subst hr1
  exact .to (z61_l0_walk vals f_vals _ c0 hc0 (.inr _) (fun _ e => by cases e) (fun _ e => (Sum.inr.inj e).symm) vals 0 _ rfl rfl hv)
 refine .into (.to (z61_l0_walk vals f_vals r c0 hc0 (.inl v) (fun w e => ?_) (fun _ e => by cases e) vals 0 _ rfl rfl hv))
 have e := Sum.inl.inj e
 subst e
 refine .sg 2 [2] ?_
 subst H
 exact .ret Try.func61 hc0
noncomputable def z42_F : Go.Sh.Fn := ⟨42, bodyOf Try.f42, 17⟩
def z42 (a : Cube) (b : Cube) : Int :=
 (z61 [(z62 a.Care b.Care), (z62 a.Value b.Value)])
theorem z42_calls (a : Cube) (b : Cube) : ACalls Try.prog tab.S 42 [Cube.av a, Cube.av b] [] (.sc (.int .i64 (z42 a b))) [] := by
 generalize H : z42 a b = r
 refine .of_AX z42_F Try.func42 fun c0 hc0 => ?_
 rw [z42] at H
 refine .sg 3 [2,3] (.rg (.sg 4 [2,3,6,8] (.cp [2,3,9] (z62_calls a.Care b.Care) (.sg 4 [9,11,13] (.cp [9,14] (z62_calls a.Value b.Value) (.sg 1 [15] (.cp [16] (z61_calls [(z62 a.Care b.Care), (z62 a.Value b.Value)] true) (.sg 1 [4] (.dn ?_)))))))))
 subst H
 exact .ret Try.func42 hc0
noncomputable def z22_F : Go.Sh.Fn := ⟨22, bodyOf Try.f22, 20⟩
def z22 (a : Rule) (b : Rule) : Int :=
 (bif (a.Prio != b.Prio) then
  (bif (decide (a.Prio > b.Prio)) then
   (-1)
  else
   1)
 else
  (z42 a.Match b.Match))
theorem z22_calls (a : Rule) (b : Rule) : ACalls Try.prog tab.S 22 [Rule.av a, Rule.av b] [] (.sc (.int .i64 (z22 a b))) [] := by
 generalize H : z22 a b = r
 refine .of_AX z22_F Try.func22 fun c0 hc0 => ?_
 rw [z22] at H
 refine .sg 5 [2,3,9] (.cd (a.Prio != b.Prio) H (fun hb H => ?_) (fun hb H => ?_))
 ·
  refine .sg 3 [14] (.cd (decide (a.Prio > b.Prio)) H (fun hb H => ?_) (fun hb H => ?_))
  ·
   refine .sg 2 [4] ?_
   subst H
   exact .ret Try.func22 hc0
  ·
   refine .sg 3 [4] ?_
   subst H
   exact .ret Try.func22 hc0
 ·
  refine .sg 2 [2,3] (.rg (.sg 4 [16,18] (.cp [19] (z42_calls a.Match b.Match) (.sg 1 [4] (.dn ?_)))))
  subst H
  exact .ret Try.func22 hc0
noncomputable def rule_Key_F : Go.Sh.Fn := ⟨46, bodyOf Try.f46, 17⟩
def rule_Key (a : Rule) (b : Rule) : Bool :=
 (((a.Match.Value == b.Match.Value) && (a.Match.Care == b.Match.Care)) && (a.Prio == b.Prio))
theorem rule_Key_calls (a : Rule) (b : Rule) : ACalls Try.prog tab.S 46 [Rule.av a, Rule.av b] [] (.sc (.bool (rule_Key a b))) [] := by
 generalize H : rule_Key a b = r
 refine .of_AX rule_Key_F Try.func46 fun c0 hc0 => ?_
 rw [rule_Key] at H
 refine .sg 3 [2,3] (.rg (.sg 4 [2,3,6,8] (.eq_ [2,3,9] 9 (.sg 1 [2,3,10] (.mx 0 [16] (.sg 1 [4] (.dn ?_)))))))
 subst H
 exact .ret Try.func46 hc0
end Go.Proofs.Ytjicebidjfbkpaa
namespace Go.Proofs.Ytjicebidjfbkpaa
open Go.Sh
noncomputable def z34_F : Go.Sh.Fn := ⟨34, bodyOf Try.f34, 8⟩
theorem z34_calls (s : List Act) (f_s : Bool) : ACalls Try.prog tab.S 34 [.sl 34 (List.map Act.av s) f_s] [] (.sl 34 (List.map Act.av s) false) [] := by
 have hG := tab_ok
 have hm := mixed
 have hE : Ent Try.prog 34 := ent_of Try.func34 (by kernel_rfl) (by kernel_rfl)
 cases s with
 | nil =>
  refine ACalls.empty hE fun p c => ?_
  refine ACalls.of_AR (G := tab) z34_F (fn := Try.f34) Try.func34 (by kernel_rfl) (by kernel_rfl) (by kernel_rfl) (Nat.le_of_ble_eq_true (by kernel_rfl)) ?_
  intro c0 hc0
  replace hc0 : c0.m.length = 0 := hc0
  refine AR.seg hG hm 4 [0] (k' := [.code [1, 0, 0], .code [1, 0, 1], .code [1, 1]]) (t' := [(0, .sc (.slice p 0 c))]) (h' := []) (by kernel_rfl) ?_
  refine AR.reg hm [.pure, .pure] (by kernel_rfl) ?_
  refine DK.seg hG 1 [0, 3] (t' := [(0, .sc (.slice p 0 c)), (3, .sc (.slice p 0 c))]) (h' := []) (by kernel_rfl) rfl ?_
  refine DK.op' [0, 4] (t' := [(0, .sc (.slice p 0 c)), (4, .sc (.bool p.isNone))]) (h' := []) (LSpec.nilEq hG (p := p) (l := 0) (c := c) (by kernel_rfl)) (by kernel_rfl) rfl (by kernel_rfl) rfl ?_
  refine DK.done (by kernel_rfl) (by kernel_rfl) ?_
  refine AR.cond (.tmp 4) p.isNone (by kernel_rfl) (by kernel_rfl) (fun hb => ?ht) (fun hb => ?hf)
  case ht =>
   refine AR.seg hG hm 2 [2] (k' := [.code [1, 0, 1, 0, 1], .code [1, 1]]) (t' := [(2, .sl 0 [] true)]) (h' := []) (by kernel_rfl) ?_
   exact AR.ret0 (fn := Try.f34) hG Try.func34 (by kernel_rfl) hc0 (r0 := .sl 0 [] true) (by kernel_rfl) (WkV.sl (Wk1.nil 34 false))
  case hf =>
   refine AR.seg hG hm 2 [0] (k' := [.code [1, 1, 0], .code [1, 1, 1]]) (t' := [(0, .sc (.slice p 0 c))]) (h' := []) (by kernel_rfl) ?_
   refine AR.reg hm [.pure, .pure, .pure, .pure] (by kernel_rfl) ?_
   refine DK.seg hG 2 [5, 6] (t' := [(5, .sl 34 [] true), (6, .sc (.slice p 0 c))]) (h' := []) (by kernel_rfl) rfl ?_
   refine DK.op' [7] (t' := [(7, .sl 34 [] true)]) (h' := []) (LSpec.app0 hG (e0 := 34) (rows := []) (f := true) (by kernel_rfl)) (by kernel_rfl) rfl (by kernel_rfl) rfl ?_
   refine DK.seg hG 1 [2] (t' := [(2, .sl 34 [] true)]) (h' := []) (by kernel_rfl) rfl ?_
   refine DK.done (by kernel_rfl) (by kernel_rfl) ?_
   exact AR.ret0 (fn := Try.f34) hG Try.func34 (by kernel_rfl) hc0 (r0 := .sl 34 [] true) (by kernel_rfl) (WkV.sl (Wk1.nil 34 false))
 | cons x xs =>
  refine ACalls.facts hE fun hf => ?_
  have hfit : (([] : List Act).length + (x :: xs).length) * 32 ≤ reach := by
   have h1 : (List.map Act.av (x :: xs)).length * 32 ≤ reach := hf.1.1
   simpa using h1
  refine ACalls.of_AR (G := tab) z34_F (fn := Try.f34) Try.func34 (by kernel_rfl) (by kernel_rfl) (by kernel_rfl) (Nat.le_of_ble_eq_true (by kernel_rfl)) ?_
  intro c0 hc0
  replace hc0 : c0.m.length = 0 := hc0
  refine AR.seg hG hm 4 [0] (k' := [.code [1, 0, 0], .code [1, 0, 1], .code [1, 1]]) (t' := [(0, .sl 34 (List.map Act.av (x :: xs)) f_s)]) (h' := []) (by kernel_rfl) ?_
  refine AR.reg hm [.pure, .pure] (by kernel_rfl) ?_
  refine DK.seg hG 1 [0, 3] (t' := [(0, .sl 34 (List.map Act.av (x :: xs)) f_s), (3, .sl 34 (List.map Act.av (x :: xs)) f_s)]) (h' := []) (by kernel_rfl) rfl ?_
  refine DK.op' [0, 4] (t' := [(0, .sl 34 (List.map Act.av (x :: xs)) f_s), (4, .sc (.bool false))]) (h' := []) (LSpec.neNil hG (by kernel_rfl)) (by kernel_rfl) rfl (by kernel_rfl) rfl ?_
  refine DK.done (by kernel_rfl) (by kernel_rfl) ?_
  refine AR.seg hG hm 3 [0] (k' := [.code [1, 1, 0], .code [1, 1, 1]]) (t' := [(0, .sl 34 (List.map Act.av (x :: xs)) f_s)]) (h' := []) (by kernel_rfl) ?_
  refine AR.reg hm [.pure, .pure, .loud, .pure] (by kernel_rfl) ?_
  refine DK.seg hG 2 [5, 6] (t' := [(5, .sl 34 [] true), (6, .sl 34 (List.map Act.av (x :: xs)) f_s)]) (h' := []) (by kernel_rfl) rfl ?_
  refine DK.op' [7] (t' := [(7, .own 0 1)]) (h' := [.row 34 (List.map Act.av ([] ++ (x :: xs))) 1 true]) (LSpec.appendN hG Act.av [] (x :: xs) 34 32 hfit (by kernel_rfl)) (by kernel_rfl) (by kernel_rfl) (by kernel_rfl) rfl ?_
  refine DK.seg hG 1 [2] (t' := [(2, .own 0 1)]) (h' := [.row 34 (List.map Act.av ([] ++ (x :: xs))) 1 true]) (by kernel_rfl) rfl ?_
  refine DK.done (by kernel_rfl) (by kernel_rfl) ?_
  exact AR.ret0 (fn := Try.f34) hG Try.func34 (by kernel_rfl) hc0 (r0 := .sl 34 (List.map Act.av (x :: xs)) false) (by kernel_rfl) (WkV.refl _)
noncomputable def z33_F : Go.Sh.Fn := ⟨33, bodyOf Try.f33, 9⟩
def z33_raw (s : List Act) : Option ((List Act)) :=
 (sliceO s none (some (((List.map Act.av s).length : Nat) : Int)) (some (((List.map Act.av s).length : Nat) : Int))).bind fun x =>
 some x
theorem z33_walk (s : List Act) (f_s : Bool) (r : (List Act)) (H : z33_raw s = some r) : ACalls Try.prog tab.S 33 [.sl 34 (List.map Act.av s) f_s] [] (.sl 34 (List.map Act.av r) true) [] := by
 refine .of_AX z33_F Try.func33 fun c0 hc0 => ?_
 rw [z33_raw] at H
 refine .sg 3 [0] (.rg (.sg 5 [3,5,7] (bndO H fun x hv H => (.so [8] Act.av hv (.sg 1 [2] (.dn ?_))))))
 obtain rfl := Option.some.inj H
 exact .ret Try.func33 hc0
theorem z33_calls (s : List Act) (f_s : Bool) : ACalls Try.prog tab.S 33 [.sl 34 (List.map Act.av s) f_s] [] (.sl 34 (List.map Act.av s) true) [] :=
 z33_walk s f_s s (by simp [z33_raw, sliceO])
noncomputable def z20_F : Go.Sh.Fn := ⟨20, bodyOf Try.f20, 9⟩
def z20_raw (s : List Rule) : Option ((List Rule)) :=
 (sliceO s none (some (((List.map Rule.av s).length : Nat) : Int)) (some (((List.map Rule.av s).length : Nat) : Int))).bind fun x =>
 some x
theorem z20_walk (s : List Rule) (f_s : Bool) (r : (List Rule)) (H : z20_raw s = some r) : ACalls Try.prog tab.S 20 [.sl 31 (List.map Rule.av s) f_s] [] (.sl 31 (List.map Rule.av r) true) [] := by
 refine .of_AX z20_F Try.func20 fun c0 hc0 => ?_
 rw [z20_raw] at H
 refine .sg 3 [0] (.rg (.sg 5 [3,5,7] (bndO H fun x hv H => (.so [8] Rule.av hv (.sg 1 [2] (.dn ?_))))))
 obtain rfl := Option.some.inj H
 exact .ret Try.func20 hc0
theorem z20_calls (s : List Rule) (f_s : Bool) : ACalls Try.prog tab.S 20 [.sl 31 (List.map Rule.av s) f_s] [] (.sl 31 (List.map Rule.av s) true) [] :=
 z20_walk s f_s s (by simp [z20_raw, sliceO])
noncomputable def z19_F : Go.Sh.Fn := ⟨19, bodyOf Try.f19, 9⟩
def z19 (r2 : Rule) : Rule :=
 r2
theorem z19_calls (r2 : Rule) : ACalls Try.prog tab.S 19 [Rule.av r2] [] (Rule.av (z19 r2)) [] := by
 generalize H : z19 r2 = r
 refine .of_AX z19_F Try.func19 fun c0 hc0 => ?_
 rw [z19] at H
 refine .sg 3 [1,2] (.rg (.sg 2 [1,2,4] (.cp [1,2,5] (z34_calls r2.Acts false) (.cp [1,2,6] (z33_calls r2.Acts false) (.sg 2 [1,2] (.dn (.sg 2 [2] ?_)))))))
 subst H
 exact .ret Try.func19 hc0 [] [(0, false)]
end Go.Proofs.Ytjicebidjfbkpaa
namespace Go.Proofs.Ytjicebidjfbkpaa
open Go.Sh
noncomputable def z21_F : Go.Sh.Fn := ⟨21, bodyOf Try.f21, 49⟩
def z21_l0 (x : List Rule) (target : Rule) (cmp : Rule → Rule → Int) : Nat → Int → Int → Option (Int)
 | 0, _, _ => none
 | m + 1, i, j =>
  (bif (decide (i < j)) then
  (ixO x (IntKind.i64.wrap (Int.fdiv (IntKind.u64.wrap (IntKind.i64.wrap (i + j))) (2 ^ (min (1 : Int).toNat (IntKind.u64).bits))))).bind fun x1 =>
  z21_l0 x target cmp m (bif (decide ((cmp x1 target) < 0)) then (IntKind.i64.wrap ((IntKind.i64.wrap (Int.fdiv (IntKind.u64.wrap (IntKind.i64.wrap (i + j))) (2 ^ (min (1 : Int).toNat (IntKind.u64).bits)))) + 1)) else i) (bif (decide ((cmp x1 target) < 0)) then j else (IntKind.i64.wrap (Int.fdiv (IntKind.u64.wrap (IntKind.i64.wrap (i + j))) (2 ^ (min (1 : Int).toNat (IntKind.u64).bits)))))
 else
  some i)
theorem z21_l0_walk (q0 : Nat) (x : List Rule) (target : Rule) (F_cmp : FuncId) (C_cmp : List AV) (cmp : Rule → Rule → Int) (P_cmp : plainL C_cmp = true) (O_cmp : C_cmp.all oneA = true) (H_cmp : ∀ (y0 : Rule) (y1 : Rule), ACalls Try.prog tab.S F_cmp ([Rule.av y0, Rule.av y1] ++ C_cmp) [] (.sc (.int .i64 (cmp y0 y1))) []) (f_x : Bool) (r : Int × Bool) (c0 : Ctx) (hc0 : c0.m.length = 0) (res : Int) (J : AX Try.prog tab z21_F c0 (Rp tab.S c0 (.tup [.sc (.int .i64 r.1), .sc (.bool r.2)]) []) (some ⟨[.code [1, 1, 1, 1]], [(0, .sl 31 (List.map Rule.av x) f_x), (2, .fn F_cmp C_cmp), (4, .ptr 0 0 none), (8, .sc (.int .i64 (((List.map Rule.av x).length : Nat) : Int))), (9, .sc (.int .i64 res))], [.box 31 (Rule.ch target)]⟩)) :
  ∀ (m : Nat) (i : Int) (j : Int) (H : z21_l0 x target cmp m i j = some res), AX Try.prog tab z21_F c0 (Rp tab.S c0 (.tup [.sc (.int .i64 r.1), .sc (.bool r.2)]) []) (some ⟨[.code [1, 1, 1, 0, 0, 0], .loop [1, 1, 1, 0, 0], .blk 0, .code [1, 1, 1, 1]], [(0, .sl 31 (List.map Rule.av x) f_x), (2, .fn F_cmp C_cmp), (4, .ptr 0 0 none), (8, .sc (.int .i64 (((List.map Rule.av x).length : Nat) : Int))), (9, .sc (.int .i64 i)), (10, .sc (.int .i64 j))], [.box 31 (Rule.ch target)]⟩) := by
 intro m
 induction m with
 | zero => intro i j H; cases H
 | succ m ih =>
  intro i j H
  rw [z21_l0] at H
  refine .sg 3 [0,2,4,8,9,10,17] (.cd (decide (i < j)) H (fun hb H => ?_) (fun hb H => ?_))
  ·
   refine .sg 3 [0,2,4,8,9,10] (.rg (.sg 4 [0,2,4,8,9,10,21] (.sr_ [0,2,4,8,9,10,22] (b := 1) (by decide) (.sg 2 [0,2,4,8,9,10,11] (.dn (.sg 1 [0,2,4,8,9,10,11] (.rg (.sg 3 [0,2,4,8,9,10,11,24,25,26] (bndO H fun x1 hv H => (.xi [0,2,4,8,9,10,11,24,27] Rule.av hv (.sg 2 [0,2,4,8,9,10,11,24,28,29] (.cf [0,2,4,8,9,10,11,30] (H_cmp x1 target) P_cmp O_cmp (.sg 1 [0,2,4,8,9,10,11,31] (.dn (.jn (decide ((cmp x1 target) < 0)) [0, 2, 4, 8, 9, 10] (fun z => [(9, .sc (.int .i64 (bif z then (IntKind.i64.wrap ((IntKind.i64.wrap (Int.fdiv (IntKind.u64.wrap (IntKind.i64.wrap (i + j))) (2 ^ (min (1 : Int).toNat (IntKind.u64).bits)))) + 1)) else i))), (10, .sc (.int .i64 (bif z then j else (IntKind.i64.wrap (Int.fdiv (IntKind.u64.wrap (IntKind.i64.wrap (i + j))) (2 ^ (min (1 : Int).toNat (IntKind.u64).bits)))))))]) ?J3 (fun hb J => ?ht3) (fun hb J => ?hf3))))))))))))))))
   case ht3 =>
    exact .sg 1 [0,2,4,8,9,10] (.cl J)
   case hf3 =>
    exact .sg 1 [0,2,4,8,9,10] (.cl J)
   exact .sg 1 [0,2,4,8,9,10] (.kp [0,2,4,8,9,10] (.into (.to (ih (bif (decide ((cmp x1 target) < 0)) then (IntKind.i64.wrap ((IntKind.i64.wrap (Int.fdiv (IntKind.u64.wrap (IntKind.i64.wrap (i + j))) (2 ^ (min (1 : Int).toNat (IntKind.u64).bits)))) + 1)) else i) (bif (decide ((cmp x1 target) < 0)) then j else (IntKind.i64.wrap (Int.fdiv (IntKind.u64.wrap (IntKind.i64.wrap (i + j))) (2 ^ (min (1 : Int).toNat (IntKind.u64).bits))))) H))))
  ·
   refine .sg 1 [0,2,4,8,9] (.kp [0,2,4,8,9] ?_)
   obtain rfl := Option.some.inj H
   exact .to J
def z21_raw (q0 : Nat) (x : List Rule) (target : Rule) (cmp : Rule → Rule → Int) : Option (Int × Bool) :=
 (z21_l0 x target cmp q0 0 (((List.map Rule.av x).length : Nat) : Int)).bind fun v =>
 (bif (decide (v < (((List.map Rule.av x).length : Nat) : Int))) then
  (ixO x v).bind fun x1 =>
  some (v, ((cmp x1 target) == 0))
 else
  some (v, false))
theorem z21_walk (q0 : Nat) (x : List Rule) (target : Rule) (F_cmp : FuncId) (C_cmp : List AV) (cmp : Rule → Rule → Int) (P_cmp : plainL C_cmp = true) (O_cmp : C_cmp.all oneA = true) (H_cmp : ∀ (y0 : Rule) (y1 : Rule), ACalls Try.prog tab.S F_cmp ([Rule.av y0, Rule.av y1] ++ C_cmp) [] (.sc (.int .i64 (cmp y0 y1))) []) (f_x : Bool) (r : Int × Bool) (H : z21_raw q0 x target cmp = some r) : ACalls Try.prog tab.S 21 [.sl 31 (List.map Rule.av x) f_x, Rule.av target, .fn F_cmp C_cmp] [] (.tup [.sc (.int .i64 r.1), .sc (.bool r.2)]) [] := by
 refine .of_AX z21_F Try.func21 fun c0 hc0 => ?_
 rw [z21_raw] at H
 refine .sg 8 [0,2,4,8,9,10] ?_
 refine bndO H fun v hv H => (.into (.to (z21_l0_walk q0 x target F_cmp C_cmp cmp P_cmp O_cmp H_cmp f_x r c0 hc0 v ?_ q0 0 (((List.map Rule.av x).length : Nat) : Int) hv)))
 refine .sg 1 [0,2,4,8,9] (.rg (.sg 5 [0,2,4,9,35,39] (.sp 39 (decide (v < (((List.map Rule.av x).length : Nat) : Int))) H (fun hb H => ?_) (fun hb H => ?_))))
 ·
  refine .sg 3 [4,35,39,40,41,42] (bndO H fun x1 hv H => (.xi [4,35,39,40,43] Rule.av hv (.sg 2 [35,39,40,44,45] (.cf [35,39,46] (H_cmp x1 target) P_cmp O_cmp (.sg 4 [6,7] (.dn ?_))))))
  obtain rfl := Option.some.inj H
  exact .ret Try.func21 hc0
 ·
  refine .sg 11 [6,7] (.dn ?_)
  obtain rfl := Option.some.inj H
  exact .ret Try.func21 hc0
def bsF (c : Nat → Bool) : Nat → Nat → Nat → Nat
 | 0, i, _ => i
 | m + 1, i, j => if i < j then (if c ((i + j) / 2) then bsF c m ((i + j) / 2 + 1) j else bsF c m i ((i + j) / 2)) else i
theorem bsF_le (c : Nat → Bool) : ∀ (m i j : Nat), i ≤ j → bsF c m i j ≤ j
 | 0, i, j, h => h
 | m + 1, i, j, h => by
   rw [bsF]
   by_cases hij : i < j
   ·rw [if_pos hij]
    cases c ((i + j) / 2)
    ·have := bsF_le c m i ((i + j) / 2) (by omega)
     simp only [Bool.false_eq_true, if_false]
     omega
    ·have := bsF_le c m ((i + j) / 2 + 1) j (by omega)
     simpa using this
   ·rw [if_neg hij]; exact h
def lowAt {α : Type} (x : List α) (t : α) (cmp : α → α → Int) (h : Nat) : Bool := match x[h]? with | some y => decide (cmp y t < 0) | none => false
def bsN {α : Type} (x : List α) (t : α) (cmp : α → α → Int) : Nat := bsF (lowAt x t cmp) (x.length + 1) 0 x.length
def bsR {α : Type} (x : List α) (t : α) (cmp : α → α → Int) : Int × Bool := (((bsN x t cmp : Nat) : Int), match x[bsN x t cmp]? with | some y => cmp y t == 0 | none => false)
theorem bsN_le {α : Type} (x : List α) (t : α) (cmp : α → α → Int) : bsN x t cmp ≤ x.length := bsF_le _ _ _ _ (Nat.zero_le _)
theorem half {i j : Nat} (h : i + j ≤ 9223372036854775807) : IntKind.i64.wrap (Int.fdiv (IntKind.u64.wrap (IntKind.i64.wrap ((i : Int) + (j : Int)))) (2 ^ (min (1 : Int).toNat (IntKind.u64).bits))) = (((i + j) / 2 : Nat) : Int) := by
 have e1 : IntKind.i64.wrap ((i : Int) + (j : Int)) = ((i + j : Nat) : Int) := by rw [wrap_eq (by omega) (by omega)]; omega
 have e2 : IntKind.u64.wrap ((i + j : Nat) : Int) = ((i + j : Nat) : Int) := by
  have hw : ∀ n : Int, IntKind.u64.wrap n = n % 18446744073709551616 := fun n => by simp [IntKind.wrap, IntKind.bits, IntKind.signed]
  rw [hw]; omega
 have e3 : min (1 : Int).toNat (IntKind.u64).bits = 1 := by decide
 rw [e1, e2, e3, Int.fdiv_eq_ediv_of_nonneg _ (by omega), wrap_eq (by omega) (by omega)]
 omega
theorem z21_l0_eq (x : List Rule) (t : Rule) (cmp : Rule → Rule → Int) (hx : x.length ≤ 1000000000000000) : ∀ (m i j : Nat), i ≤ j → j ≤ x.length → j - i < m → z21_l0 x t cmp m i j = some ((bsF (lowAt x t cmp) m i j : Nat) : Int)
 | 0, i, j, _, _, h => absurd h (by omega)
 | m + 1, i, j, h1, h2, h3 => by
   rw [z21_l0, bsF]
   by_cases hij : i < j
   ·have hlt : (i + j) / 2 < x.length := by omega
    have hc : decide ((i : Int) < (j : Int)) = true := decide_eq_true (by omega)
    have hl : lowAt x t cmp ((i + j) / 2) = decide (cmp x[(i + j) / 2] t < 0) := by
     unfold lowAt
     rw [List.getElem?_eq_getElem hlt]
    rw [hc, cond_true, half (by omega), ixO_lt hlt, Option.bind_some, if_pos hij, hl]
    cases decide (cmp x[(i + j) / 2] t < 0)
    ·simp only [cond_false, Bool.false_eq_true, if_false]
     exact z21_l0_eq x t cmp hx m i ((i + j) / 2) (by omega) (by omega) (by omega)
    ·simp only [cond_true, if_true]
     rw [wrap_succ (by omega)]
     exact z21_l0_eq x t cmp hx m ((i + j) / 2 + 1) j (by omega) (by omega) (by omega)
   ·have hc : decide ((i : Int) < (j : Int)) = false := decide_eq_false (by omega)
    rw [hc, cond_false, if_neg hij]
theorem z21_eq (x : List Rule) (t : Rule) (cmp : Rule → Rule → Int) (hx : x.length ≤ 1000000000000000) : z21_raw (x.length + 1) x t cmp = some (bsR x t cmp) := by
 rw [z21_raw, List.length_map]
 have h := z21_l0_eq x t cmp hx (x.length + 1) 0 x.length (by omega) (by omega) (by omega)
 rw [show ((0 : Nat) : Int) = 0 from rfl] at h
 rw [h, Option.bind_some]
 have hle := bsN_le x t cmp
 unfold bsN at hle
 unfold bsR bsN
 by_cases hlt : bsF (lowAt x t cmp) (x.length + 1) 0 x.length < x.length
 ·rw [decide_eq_true (by omega), cond_true, ixO_lt hlt, Option.bind_some, List.getElem?_eq_getElem hlt]
 ·rw [decide_eq_false (by omega), cond_false, List.getElem?_eq_none (by omega)]
theorem z21_ok (x : List Rule) (t : Rule) (F_cmp : FuncId) (C_cmp : List AV) (cmp : Rule → Rule → Int) (P_cmp : plainL C_cmp = true) (O_cmp : C_cmp.all oneA = true) (H_cmp : ∀ (y0 : Rule) (y1 : Rule), ACalls Try.prog tab.S F_cmp ([Rule.av y0, Rule.av y1] ++ C_cmp) [] (.sc (.int .i64 (cmp y0 y1))) []) (f_x : Bool) :
  ACalls Try.prog tab.S 21 [.sl 31 (List.map Rule.av x) f_x, Rule.av t, .fn F_cmp C_cmp] [] (.tup [.sc (.int .i64 (bsR x t cmp).1), .sc (.bool (bsR x t cmp).2)]) [] := by
 refine ACalls.facts (ent_of Try.func21 (by kernel_rfl) (by kernel_rfl)) fun hf => ?_
 have l0 : x.length * 272 ≤ 140737488355328 := by have h := hf.1.1; rw [List.length_map] at h; exact h
 exact z21_walk (x.length + 1) x t F_cmp C_cmp cmp P_cmp O_cmp H_cmp f_x _ (z21_eq x t cmp (by omega))
end Go.Proofs.Ytjicebidjfbkpaa
namespace Go.Proofs.Ytjicebidjfbkpaa
open Go.Sh
noncomputable def z8_F : Go.Sh.Fn := ⟨8, bodyOf Try.f8, 38⟩
def z8_l0s : List Rule → List Rule → Option ((List Rule))
 | [], out =>
  some out
 | x :: rest, out =>
  (bif (!(z18 x)) then
   z8_l0s rest out
  else
   (bif (bsR out x z22).2 then
    (ixO out ((bsR out x z22).1)).bind fun x1 =>
    z8_l0s rest (out.set (((bsR out x z22).1).toNat) (z19 x))
   else
    fitO (out.length + [(z19 x)].length) 272 (
    (insO out ((bsR out x z22).1) (z19 x)).bind fun rows =>
    z8_l0s rest rows)))
theorem z8_l0_walk (list : List Rule) (f_list : Bool) (r : (List Rule)) (c0 : Ctx) (hc0 : c0.m.length = 0) (res : (List Rule)) (J : AX Try.prog tab z8_F c0 (Rp tab.S c0 (.sl 31 (List.map Rule.av r) true) []) (some ⟨[.code [1, 1, 1]], [(3, .own 0 1000000)], [.row 31 (List.map Rule.av res) 1000000 true]⟩)) :
  ∀ (rest : List Rule) (t10 : Nat) (z : Int) (hI : z = ((t10 : Nat) : Int)) (hd : list.drop t10 = rest) (out : List Rule) (H : z8_l0s rest out = some res), AX Try.prog tab z8_F c0 (Rp tab.S c0 (.sl 31 (List.map Rule.av r) true) []) (some ⟨[.code [1, 1, 0, 1, 0, 0], .loop [1, 1, 0, 1, 0], .blk 0, .code [1, 1, 1]], [(3, .own 0 1000000), (8, .sl 31 (List.map Rule.av list) f_list), (9, .sc (.int .i64 (((List.map Rule.av list).length : Nat) : Int))), (10, .sc (.int .i64 z))], [.row 31 (List.map Rule.av out) 1000000 true]⟩) := by
 intro rest
 induction rest with
 | nil =>
  intro t10 z hI hd out H
  subst hI
  rw [z8_l0s] at H
  refine .facts 8 fun hf => ?_
  have hlen : list.length ≤ 9223372036854775807 := by have hq := len_ok hf.2.1; rw [List.length_map] at hq; exact hq
  have hge : list.length ≤ t10 := List.drop_eq_nil_iff.1 hd
  have hc : (decide (((t10 : Nat) : Int) < (((List.map Rule.av list).length : Nat) : Int))) = false := by rw [List.length_map]; exact decide_eq_false (by omega)
  refine .sg 3 [3,8,9,10,11] (.cdF hc (.sg 1 [3] (.kp [3] ?_)))
  obtain rfl := Option.some.inj H
  exact .to J
 | cons x rest ih =>
  intro t10 z hI hd out H
  subst hI
  rw [z8_l0s] at H
  refine .facts 8 fun hf => ?_
  have hlen : list.length ≤ 9223372036854775807 := by have hq := len_ok hf.2.1; rw [List.length_map] at hq; exact hq
  obtain ⟨hlt, hv_t10, hd2⟩ := drop_cons hd
  have hc : (decide (((t10 : Nat) : Int) < (((List.map Rule.av list).length : Nat) : Int))) = true := by rw [List.length_map]; exact decide_eq_true (by omega)
  have hw : IntKind.i64.wrap (((t10 : Nat) : Int) + 1) = ((t10 + 1 : Nat) : Int) := wrapI_succ (by omega)
  refine .sg 3 [3,8,9,10,11] (.cdT hc (.sg 4 [3,8,9,10] (.rg (.xi [3,8,9,10,12] Rule.av hv_t10 (.sg 3 [3,5,8,9,10] (.dn (.sg 2 [3,5,8,9,10] (.rg (.sg 1 [3,5,8,9,10,14] (.cp [3,5,8,9,10,15] (z18_calls x) (.sg 1 [3,5,8,9,10,16] (.dn (.cd (!(z18 x)) H (fun hb H => ?_) (fun hb H => ?_))))))))))))))
  ·
   exact .sg 2 [3,8,9,10] (.tl hc0 [0] [3,8,9,10] (.into (.cl (ih (t10 + 1) _ hw hd2 out H))))
  ·
   refine .sg 2 [3,5,8,9,10] (.rg (.sg 2 [3,5,8,9,10,18,19] (.cl_ [3,5,8,9,10,20] (caps := []) (z21_ok out x 22 [] z22 rfl rfl (fun y0 y1 => z22_calls y0 y1) false) (.same rfl (.same rfl (.fn (caps := []) (by kernel_rfl) .nil))) (by kernel_rfl) rfl rfl (.sg 5 [3,5,6,7,8,9,10] (.dn (.sg 2 [3,5,6,8,9,10,23] (.cd ((bsR out x z22).2) H (fun hb H => ?_) (fun hb H => ?_))))))))
   ·
    exact .rg (.sg 3 [3,8,9,10,24,25,26] (.cp [3,8,9,10,24,25,27] (z19_calls x) (bndO H fun x1 hv_x1 H => (.xo [3,8,9,10,27,28] (ixO_req hv_x1 Rule.av) (.st [3,8,9,10] Rule.av (z19 x) (ixO_map hv_x1 Rule.av).2 (.dn (.sg 2 [3,8,9,10] (.tl hc0 [0] [3,8,9,10] (.into (.cl (ih (t10 + 1) _ hw hd2 (out.set (((bsR out x z22).1).toNat) (z19 x)) H)))))))))))
   ·
    exact .rg (.sg 3 [8,9,10,29,30,31] (.cp [8,9,10,29,30,32] (z19_calls x) (.sg 1 [8,9,10,29,30,33] (fitH H fun hfit H => (bndO H fun rows hv H => (.co [8,9,10,34] (o := 0) (k := 1000000) 1000001 z23_ent (z23_O out (z19 x) ((bsR out x z22).1) rows true hv hfit) (.sg 1 [3,8,9,10] (.dn (.sg 2 [3,8,9,10] (.tl hc0 [0] [3,8,9,10] (.into (.cl (ih (t10 + 1) _ hw hd2 rows H)))))))))))))
def z8_raw (list : List Rule) : Option ((List Rule)) :=
 (z8_l0s list ([] : List Rule)).bind fun v =>
 some v
theorem z8_walk (list : List Rule) (f_list : Bool) (r : (List Rule)) (H : z8_raw list = some r) : ACalls Try.prog tab.S 8 [.sl 31 (List.map Rule.av list) f_list] [] (.sl 31 (List.map Rule.av r) true) [] := by
 refine .of_AX z8_F Try.func8 fun c0 hc0 => ?_
 rw [z8_raw] at H
 refine .sg 8 [3,8,9,10] (.ad 3 31 true (.kp [3,8,9,10] ?_))
 refine bndO H fun v hv H => (.into (.to (z8_l0_walk list f_list r c0 hc0 v ?_ list 0 _ rfl rfl ([] : List Rule) hv)))
 refine .sg 1 [3] (.rg (.sg 1 [36] (.cc [37] [0] (z20_calls v false) (.sg 1 [2] (.dn ?_)))))
 obtain rfl := Option.some.inj H
 exact .ret Try.func8 hc0
def putR (out : List Rule) (x : Rule) : List Rule :=
 bif !(z18 x) then out else
 bif (bsR out x z22).2 then out.set (bsN out x z22) x else out.take (bsN out x z22) ++ x :: out.drop (bsN out x z22)
def sortR (l : List Rule) : List Rule := l.foldl putR []
theorem bsR_lt {x : List Rule} {t : Rule} {cmp : Rule → Rule → Int} (h : (bsR x t cmp).2 = true) : bsN x t cmp < x.length := by
 unfold bsR at h
 by_cases hlt : bsN x t cmp < x.length
 ·exact hlt
 ·simp only [List.getElem?_eq_none (by omega : x.length ≤ bsN x t cmp)] at h
  cases h
theorem putR_len (out : List Rule) (x : Rule) : (putR out x).length ≤ out.length + 1 := by
 unfold putR
 cases !(z18 x)
 ·cases (bsR out x z22).2
  ·have := bsN_le out x z22
   simp only [cond_false, List.length_append, List.length_cons, List.length_take, List.length_drop]
   omega
  ·simp only [cond_true, cond_false, List.length_set]; omega
 ·simp only [cond_true]; omega
theorem z8_l0s_eq : ∀ (l out : List Rule), (out.length + l.length) * 272 ≤ 140737488355328 → z8_l0s l out = some (l.foldl putR out)
 | [], out, _ => by rw [z8_l0s]; rfl
 | x :: l, out, h => by
   rw [List.length_cons] at h
   have hp := putR_len out x
   have ih := z8_l0s_eq l (putR out x) (by omega)
   rw [z8_l0s, List.foldl_cons, ← ih]
   unfold putR
   cases hs : !(z18 x)
   ·simp only [cond_false]
    cases hb : (bsR out x z22).2
    ·simp only [cond_false]
     have e1 : (bsR out x z22).1 = ((bsN out x z22 : Nat) : Int) := rfl
     have hle := bsN_le out x z22
     rw [fitO_eq (by rw [List.length_cons, List.length_nil]; omega), e1]
     unfold insO
     rw [if_pos (by omega), Int.toNat_natCast]
     rfl
    ·simp only [cond_true]
     have e1 : (bsR out x z22).1 = ((bsN out x z22 : Nat) : Int) := rfl
     rw [e1, ixO_lt (bsR_lt hb)]
     rfl
   ·rfl
theorem z8_eq (l : List Rule) (h : l.length * 272 ≤ 140737488355328) : z8_raw l = some (sortR l) := by
 rw [z8_raw, z8_l0s_eq l [] (by rw [List.length_nil, Nat.zero_add]; exact h)]
 rfl
theorem z8_ok (l : List Rule) (f : Bool) : ACalls Try.prog tab.S 8 [.sl 31 (List.map Rule.av l) f] [] (.sl 31 (List.map Rule.av (sortR l)) true) [] := by
 refine ACalls.facts (ent_of Try.func8 (by kernel_rfl) (by kernel_rfl)) fun hf => ?_
 have l0 : l.length * 272 ≤ 140737488355328 := by have h := hf.1.1; rw [List.length_map] at h; exact h
 exact z8_walk l f _ (z8_eq l l0)
end Go.Proofs.Ytjicebidjfbkpaa
namespace Go.Proofs.Ytjicebidjfbkpaa
open Go.Sh
end Go.Proofs.Ytjicebidjfbkpaa
namespace Go.Proofs.Ytjicebidjfbkpaa
open Go.Sh
noncomputable def cube_Has_F : Go.Sh.Fn := ⟨38, bodyOf Try.f38, 30⟩
def cube_Has_l0s (c : Cube) (h1 : List Int) : Nat → Nat → Sum (Unit) (Bool)
 | 0, t8 =>
  (.inl ())
 | rest + 1, t8 =>
  (bif ((IntKind.u64.wrap ((BitVec.ofInt 64 (h1.getD t8 0) &&& BitVec.ofInt 64 (c.Care.getD (t8) 0)).toNat)) != (c.Value.getD (t8) 0)) then
   (.inr false)
  else
   cube_Has_l0s c h1 rest (t8 + 1) )
theorem cube_Has_l0_walk (c : Cube) (h1 : List Int) (r : Bool) (c0 : Ctx) (hc0 : c0.m.length = 0) (res : Sum (Unit) (Bool)) (J : ∀ w : Unit, res = .inl w → AX Try.prog tab cube_Has_F c0 (Rp tab.S c0 (.sc (.bool r)) []) (some ⟨[.code [1, 1]], [(2, .ptr 0 0 none), (3, .ptr 1 0 none)], [.box 28 (Cube.ch c), .box 26 [.arr .u64 12 h1]]⟩)) (Jr : ∀ w, res = .inr w → w = r) :
  ∀ (rest : Nat) (t8 : Nat) (z : Int) (hI : z = ((t8 : Nat) : Int)) (hd : t8 + rest = 12) (H : cube_Has_l0s c h1 rest t8 = res), AX Try.prog tab cube_Has_F c0 (Rp tab.S c0 (.sc (.bool r)) []) (some ⟨[.code [1, 0, 1, 0, 0], .loop [1, 0, 1, 0], .blk 0, .code [1, 1]], [(2, .ptr 0 0 none), (3, .ptr 1 0 none), (7, .arr .u64 12 h1), (8, .sc (.int .i64 z))], [.box 28 (Cube.ch c), .box 26 [.arr .u64 12 h1]]⟩) := by
 intro rest
 induction rest with
 | zero =>
  intro t8 z hI hd  H
  subst hI
  rw [cube_Has_l0s] at H
  have hc : (decide (((t8 : Nat) : Int) < 12)) = false := decide_eq_false (by omega)
  exact .sg 3 [2,3,7,8,9] (.cdF hc (.sg 1 [2,3] (.kp [2,3] (.to (J () H.symm)))))
 | succ rest ih =>
  intro t8 z hI hd  H
  subst hI
  rw [cube_Has_l0s] at H
  have hlt_t8 : t8 < 12 := by omega
  have hc : (decide (((t8 : Nat) : Int) < 12)) = true := decide_eq_true (by omega)
  have hw : IntKind.i64.wrap (((t8 : Nat) : Int) + 1) = ((t8 + 1 : Nat) : Int) := wrapI_succ (by omega)
  refine .sg 3 [2,3,7,8,9] (.cdT hc (.sg 4 [2,3,7,8] (.rg (.sg 1 [2,3,7,8,10] ?_))))
  have hreq := idx_in 12 hlt_t8 (by decide)
  refine .xv [2,3,7,8,10,11] hreq (.sg 2 [2,3,5,6,7,8] (.dn (.sg 1 [2,3,5,6,7,8] (.rg (.sg 3 [2,3,5,7,8,12,13,14] ?_)))))
  have hreq := idx_in 12 hlt_t8 (by decide)
  refine .xa [2,3,5,7,8,12,15] hreq (.sg 4 [2,3,7,8,17,18,19] ?_)
  have hreq := idx_in 12 hlt_t8 (by decide)
  refine .xa [2,3,7,8,17,20] hreq (.sg 2 [2,3,7,8,22] (.dn (.cd ((IntKind.u64.wrap ((BitVec.ofInt 64 (h1.getD t8 0) &&& BitVec.ofInt 64 (c.Care.getD (t8) 0)).toNat)) != (c.Value.getD (t8) 0)) H (fun hb H => ?_) (fun hb H => ?_))))
  ·
   refine .sg 2 [4] ?_
   subst H
   obtain rfl := Jr _ rfl
   exact .ret Try.func38 hc0
  ·
   exact .sg 3 [2,3,7,8] (.kp [2,3,7,8] (.into (.cl (ih (t8 + 1) _ hw (by omega) H))))
def cube_Has (c : Cube) (h1 : List Int) : Bool :=
 sumG (fun q => q) (cube_Has_l0s c h1 12 0) fun v =>
 ((z39 c) && (z57 h1))
theorem cube_Has_calls (c : Cube) (h1 : List Int) : ACalls Try.prog tab.S 38 [Cube.av c, .arr .u64 12 h1] [] (.sc (.bool (cube_Has c h1))) [] := by
 generalize H : cube_Has c h1 = r
 refine .of_AX cube_Has_F Try.func38 fun c0 hc0 => ?_
 rw [cube_Has] at H
 refine .sg 6 [2,3,7,8] ?_
 rcases sumG_eq H with ⟨v, hv, H⟩ | ⟨r1, hv, hr1⟩
 case inr =>
  refine .into ?_
  replace hr1 : r1 = r := hr1
  subst hr1
  exact .to (cube_Has_l0_walk c h1 _ c0 hc0 (.inr _) (fun _ e => by cases e) (fun _ e => (Sum.inr.inj e).symm) 12 0 _ rfl rfl hv)
 refine .into (.to (cube_Has_l0_walk c h1 r c0 hc0 (.inl v) (fun w e => ?_) (fun _ e => by cases e) 12 0 _ rfl rfl hv))
 have e := Sum.inl.inj e
 subst e
 refine .sg 1 [2,3] (.rg (.sg 1 [3,24] (.cp [3,25] (z39_calls c) (.sg 1 [3,26] (.mm 26 (z39 c) 3 [.pure, .pure, .read] [29] 29 (fun z => .sc (.bool (z && (z57 h1)))) ?J1 (fun hb J => ?ht1) (fun hb J => ?hf1))))))
 case ht1 =>
  exact .sg 1 [26,27] (.cp [26,28] (z57_calls h1) (.sg 1 [29] (.cl J)))
 case hf1 =>
  exact .sg 3 [29] (.cl J)
 refine .sg 1 [4] (.dn ?_)
 subst H
 exact .ret Try.func38 hc0
noncomputable def z36_F : Go.Sh.Fn := ⟨36, bodyOf Try.f36, 19⟩
def z36_l0s (f : Rule → Bool) : List Rule → Nat → Sum (Unit) (Int)
 | [], t8 =>
  (.inl ())
 | x :: rest, t8 =>
  (bif (f x) then
   (.inr ((t8 : Nat) : Int))
  else
   z36_l0s f rest (t8 + 1) )
theorem z36_l0_walk (s : List Rule) (F_f : FuncId) (C_f : List AV) (f : Rule → Bool) (P_f : plainL C_f = true) (O_f : C_f.all oneA = true) (H_f : ∀ (y0 : Rule), ACalls Try.prog tab.S F_f ([Rule.av y0] ++ C_f) [] (.sc (.bool (f y0))) []) (f_s : Bool) (r : Int) (c0 : Ctx) (hc0 : c0.m.length = 0) (res : Sum (Unit) (Int)) (J : ∀ w : Unit, res = .inl w → AX Try.prog tab z36_F c0 (Rp tab.S c0 (.sc (.int .i64 r)) []) (some ⟨[.code [1, 1]], [], []⟩)) (Jr : ∀ w, res = .inr w → w = r) :
  ∀ (rest : List Rule) (t8 : Nat) (z : Int) (hI : z = ((t8 : Nat) : Int)) (hd : s.drop t8 = rest) (H : z36_l0s f rest t8 = res), AX Try.prog tab z36_F c0 (Rp tab.S c0 (.sc (.int .i64 r)) []) (some ⟨[.code [1, 0, 1, 0, 0], .loop [1, 0, 1, 0], .blk 0, .code [1, 1]], [(0, .sl 31 (List.map Rule.av s) f_s), (1, .fn F_f C_f), (7, .sc (.int .i64 (((List.map Rule.av s).length : Nat) : Int))), (8, .sc (.int .i64 z))], []⟩) := by
 intro rest
 induction rest with
 | nil =>
  intro t8 z hI hd  H
  subst hI
  rw [z36_l0s] at H
  refine .facts 0 fun hf => ?_
  have hlen : s.length ≤ 9223372036854775807 := by have hq := len_ok hf.2.1; rw [List.length_map] at hq; exact hq
  have hge : s.length ≤ t8 := List.drop_eq_nil_iff.1 hd
  have hc : (decide (((t8 : Nat) : Int) < (((List.map Rule.av s).length : Nat) : Int))) = false := by rw [List.length_map]; exact decide_eq_false (by omega)
  exact .sg 3 [0,1,7,8,9] (.cdF hc (.sg 1 [] (.kp [] (.to (J () H.symm)))))
 | cons x rest ih =>
  intro t8 z hI hd  H
  subst hI
  rw [z36_l0s] at H
  refine .facts 0 fun hf => ?_
  have hlen : s.length ≤ 9223372036854775807 := by have hq := len_ok hf.2.1; rw [List.length_map] at hq; exact hq
  obtain ⟨hlt, hv_t8, hd2⟩ := drop_cons hd
  have hc : (decide (((t8 : Nat) : Int) < (((List.map Rule.av s).length : Nat) : Int))) = true := by rw [List.length_map]; exact decide_eq_true (by omega)
  have hw : IntKind.i64.wrap (((t8 : Nat) : Int) + 1) = ((t8 + 1 : Nat) : Int) := wrapI_succ (by omega)
  refine .sg 3 [0,1,7,8,9] (.cdT hc (.sg 6 [0,1,5,7,8] (.rg (.sg 3 [0,1,5,7,8,11,12,13] (.xi [0,1,5,7,8,11,14] Rule.av hv_t8 (.sg 1 [0,1,5,7,8,11,15] (.cf [0,1,5,7,8,16] (H_f x) P_f O_f (.dn (.cd (f x) H (fun hb H => ?_) (fun hb H => ?_))))))))))
  ·
   refine .sg 2 [4] ?_
   subst H
   obtain rfl := Jr _ rfl
   exact .ret Try.func36 hc0
  ·
   exact .sg 3 [0,1,7,8] (.kp [0,1,7,8] (.into (.cl (ih (t8 + 1) _ hw hd2 H))))
def z36 (s : List Rule) (f : Rule → Bool) : Int :=
 sumG (fun q => q) (z36_l0s f s 0) fun v =>
 (-1)
theorem z36_calls (s : List Rule) (F_f : FuncId) (C_f : List AV) (f : Rule → Bool) (P_f : plainL C_f = true) (O_f : C_f.all oneA = true) (H_f : ∀ (y0 : Rule), ACalls Try.prog tab.S F_f ([Rule.av y0] ++ C_f) [] (.sc (.bool (f y0))) []) (f_s : Bool) : ACalls Try.prog tab.S 36 [.sl 31 (List.map Rule.av s) f_s, .fn F_f C_f] [] (.sc (.int .i64 (z36 s f))) [] := by
 generalize H : z36 s f = r
 refine .of_AX z36_F Try.func36 fun c0 hc0 => ?_
 rw [z36] at H
 refine .sg 6 [0,1,7,8] ?_
 rcases sumG_eq H with ⟨v, hv, H⟩ | ⟨r1, hv, hr1⟩
 case inr =>
  refine .into ?_
  replace hr1 : r1 = r := hr1
  subst hr1
  exact .to (z36_l0_walk s F_f C_f f P_f O_f H_f f_s _ c0 hc0 (.inr _) (fun _ e => by cases e) (fun _ e => (Sum.inr.inj e).symm) s 0 _ rfl rfl hv)
 refine .into (.to (z36_l0_walk s F_f C_f f P_f O_f H_f f_s r c0 hc0 (.inl v) (fun w e => ?_) (fun _ e => by cases e) s 0 _ rfl rfl hv))
 have e := Sum.inl.inj e
 subst e
 refine .sg 2 [4] ?_
 subst H
 exact .ret Try.func36 hc0
noncomputable def z37_F : Go.Sh.Fn := ⟨37, bodyOf Try.f37, 8⟩
def z37 (r2 : Rule) (c : List Int) : Bool :=
 (cube_Has r2.Match c)
theorem z37_calls (r2 : Rule) (c : List Int) : ACalls Try.prog tab.S 37 [Rule.av r2, .ep [.arr .u64 12 c] 0 none] [] (.sc (.bool (z37 r2 c))) [] := by
 generalize H : z37 r2 c = r
 refine .of_AX z37_F Try.func37 fun c0 hc0 => ?_
 rw [z37] at H
 refine .sg 3 [1,2] (.rg (.sg 3 [5,6] (.cp [7] (cube_Has_calls r2.Match c) (.sg 1 [3] (.dn ?_)))))
 subst H
 exact .ret Try.func37 hc0
noncomputable def z17_F : Go.Sh.Fn := ⟨17, bodyOf Try.f17, 14⟩
def z17 (list : List Rule) (h1 : List Int) : Int × Bool :=
 ((if 0 > (z36 list (fun y0 => z37 y0 h1)) then 0 else (z36 list (fun y0 => z37 y0 h1))), (decide ((z36 list (fun y0 => z37 y0 h1)) ≥ 0)))
theorem z17_calls (list : List Rule) (h1 : List Int) (f_list : Bool) : ACalls Try.prog tab.S 17 [.sl 31 (List.map Rule.av list) f_list, .arr .u64 12 h1] [] (.tup [.sc (.int .i64 ((z17 list h1).1)), .sc (.bool ((z17 list h1).2))]) [] := by
 generalize H : z17 list h1 = r
 refine .of_AX z17_F Try.func17 fun c0 hc0 => ?_
 rw [z17] at H
 refine .sg 3 [0,3] (.rg (.sg 2 [7,8] (.cl_ [9] (caps := []) (z36_calls list 37 [.ep [.arr .u64 12 h1] 0 none] (fun y0 => z37 y0 h1) rfl rfl (fun y0 => z37_calls y0 h1) f_list) (.same rfl (.fn (caps := [.ptr 0 0 none]) (by kernel_rfl) .nil)) (by kernel_rfl) rfl rfl (.sg 1 [6] (.dn (.sg 2 [4,5] ?_))))))
 subst H
 exact .ret Try.func17 hc0
end Go.Proofs.Ytjicebidjfbkpaa
namespace Go.Proofs.Ytjicebidjfbkpaa
open Go.Sh
theorem Act.beq_eq (x y : Act) : ((x.Kind == y.Kind) && ((x.Port == y.Port) && ((x.Field == y.Field) && (x.Value == y.Value)))) = (x == y) := by
 rw [Bool.eq_iff_iff]
 simp only [Bool.and_eq_true, beq_iff_eq]
 cases x; cases y
 simp
theorem zipAll_ne {α β : Type} (f : α → β → Bool) {a : List α} {b : List β} (h : ¬ a.length = b.length) : zipAll f a b = false := by
 rw [Bool.eq_false_iff]
 exact fun q => h (zipAll_len q)
noncomputable def z64_F : Go.Sh.Fn := ⟨64, bodyOf Try.f64, 26⟩
def z64_l0s (s2 : List Act) : List Act → Nat → Option (Sum (Unit) (Bool))
 | [], t13 =>
  some (.inl ())
 | x :: rest, t13 =>
  (ixO s2 ((t13 : Nat) : Int)).bind fun x1 =>
  (bif (!((x.Kind == x1.Kind) && ((x.Port == x1.Port) && ((x.Field == x1.Field) && (x.Value == x1.Value))))) then
   some (.inr false)
  else
   z64_l0s s2 rest (t13 + 1) )
theorem z64_l0_walk (s1 : List Act) (s2 : List Act) (f_s1 : Bool) (f_s2 : Bool) (r : Bool) (c0 : Ctx) (hc0 : c0.m.length = 0) (res : Sum (Unit) (Bool)) (J : ∀ w : Unit, res = .inl w → AX Try.prog tab z64_F c0 (Rp tab.S c0 (.sc (.bool r)) []) (some ⟨[.code [1, 1, 1]], [], []⟩)) (Jr : ∀ w, res = .inr w → w = r) :
  ∀ (rest : List Act) (t13 : Nat) (z : Int) (hI : z = ((t13 : Nat) : Int)) (hd : s1.drop t13 = rest) (H : z64_l0s s2 rest t13 = some res), AX Try.prog tab z64_F c0 (Rp tab.S c0 (.sc (.bool r)) []) (some ⟨[.code [1, 1, 0, 1, 0, 0], .loop [1, 1, 0, 1, 0], .blk 0, .code [1, 1, 1]], [(0, .sl 34 (List.map Act.av s1) f_s1), (1, .sl 34 (List.map Act.av s2) f_s2), (12, .sc (.int .i64 (((List.map Act.av s1).length : Nat) : Int))), (13, .sc (.int .i64 z))], []⟩) := by
 intro rest
 induction rest with
 | nil =>
  intro t13 z hI hd  H
  subst hI
  rw [z64_l0s] at H
  refine .facts 0 fun hf => ?_
  have hlen : s1.length ≤ 9223372036854775807 := by have hq := len_ok hf.2.1; rw [List.length_map] at hq; exact hq
  have hge : s1.length ≤ t13 := List.drop_eq_nil_iff.1 hd
  have hc : (decide (((t13 : Nat) : Int) < (((List.map Act.av s1).length : Nat) : Int))) = false := by rw [List.length_map]; exact decide_eq_false (by omega)
  exact .sg 3 [0,1,12,13,14] (.cdF hc (.sg 1 [] (.kp [] (.to (J () (Option.some.inj H).symm)))))
 | cons x rest ih =>
  intro t13 z hI hd  H
  subst hI
  rw [z64_l0s] at H
  refine .facts 0 fun hf => ?_
  have hlen : s1.length ≤ 9223372036854775807 := by have hq := len_ok hf.2.1; rw [List.length_map] at hq; exact hq
  obtain ⟨hlt, hv_t13, hd2⟩ := drop_cons hd
  have hc : (decide (((t13 : Nat) : Int) < (((List.map Act.av s1).length : Nat) : Int))) = true := by rw [List.length_map]; exact decide_eq_true (by omega)
  have hw : IntKind.i64.wrap (((t13 : Nat) : Int) + 1) = ((t13 + 1 : Nat) : Int) := wrapI_succ (by omega)
  refine .sg 3 [0,1,12,13,14] (.cdT hc (.sg 6 [0,1,5,12,13] (.rg (.sg 2 [0,1,5,12,13,16,17] (.xi [0,1,5,12,13,18] Act.av hv_t13 (.sg 3 [0,1,12,13,19,20,21] (bndO H fun x1 hv H => (.xi [0,1,12,13,19,22] Act.av hv (.sg 1 [0,1,12,13,19,23] (.eq_ [0,1,12,13,24] 9 (.dn (.cd (!((x.Kind == x1.Kind) && ((x.Port == x1.Port) && ((x.Field == x1.Field) && (x.Value == x1.Value))))) H (fun hb H => ?_) (fun hb H => ?_)))))))))))))
  ·
   refine .sg 2 [4] ?_
   obtain rfl := Option.some.inj H
   obtain rfl := Jr _ rfl
   exact .ret Try.func64 hc0
  ·
   exact .sg 3 [0,1,12,13] (.kp [0,1,12,13] (.into (.cl (ih (t13 + 1) _ hw hd2 H))))
def z64_raw (s1 : List Act) (s2 : List Act) : Option (Bool) :=
 (bif ((((List.map Act.av s1).length : Nat) : Int) != (((List.map Act.av s2).length : Nat) : Int)) then
  some false
 else
  loopO (z64_l0s s2 s1 0) fun v =>
  some true)
theorem z64_walk (s1 : List Act) (s2 : List Act) (f_s1 : Bool) (f_s2 : Bool) (r : Bool) (H : z64_raw s1 s2 = some r) : ACalls Try.prog tab.S 64 [.sl 34 (List.map Act.av s1) f_s1, .sl 34 (List.map Act.av s2) f_s2] [] (.sc (.bool r)) [] := by
 refine .of_AX z64_F Try.func64 fun c0 hc0 => ?_
 rw [z64_raw] at H
 refine .sg 5 [0,1,10] (.cd ((((List.map Act.av s1).length : Nat) : Int) != (((List.map Act.av s2).length : Nat) : Int)) H (fun hb H => ?_) (fun hb H => ?_))
 ·
  refine .sg 2 [4] ?_
  obtain rfl := Option.some.inj H
  exact .ret Try.func64 hc0
 ·
  refine .sg 5 [0,1,12,13] ?_
  rcases loopO_some H with ⟨v, hv, H⟩ | hv
  case inr =>
   exact .into (.to (z64_l0_walk s1 s2 f_s1 f_s2 _ c0 hc0 (.inr _) (fun _ e => by cases e) (fun _ e => (Sum.inr.inj e).symm) s1 0 _ rfl rfl hv))
  refine .into (.to (z64_l0_walk s1 s2 f_s1 f_s2 r c0 hc0 (.inl v) (fun w e => ?_) (fun _ e => by cases e) s1 0 _ rfl rfl hv))
  have e := Sum.inl.inj e
  subst e
  refine .sg 2 [4] ?_
  obtain rfl := Option.some.inj H
  exact .ret Try.func64 hc0
theorem z64_ok (a b : List Act) (f_a f_b : Bool) : ACalls Try.prog tab.S 64 [.sl 34 (List.map Act.av a) f_a, .sl 34 (List.map Act.av b) f_b] [] (.sc (.bool (a == b))) [] := by
 refine z64_walk a b f_a f_b _ ?_
 rw [z64_raw, len_bne]
 by_cases h : a.length = b.length
 ·simp only [h, decide_true, Bool.not_true, cond_false]
  rw [cmp_loop (v := false) (z64_l0s b) b (fun x y => x == y) (fun _ => rfl) (fun x r i => by rw [z64_l0s]; simp only [Act.beq_eq]) a 0 (by omega), List.drop_zero, zipAll_beq]
  cases a == b <;> rfl
 ·have e : (a == b) = false := by
   rw [beq_eq_false_iff_ne]
   intro e
   exact h (by rw [e])
  rw [e]
  simp only [h, decide_false, Bool.not_false, cond_true]
noncomputable def act_Same_F : Go.Sh.Fn := ⟨45, bodyOf Try.f45, 8⟩
def act_Same (a : List Act) (b : List Act) : Bool :=
 (a == b)
theorem act_Same_calls (a : List Act) (b : List Act) (f_a : Bool) (f_b : Bool) : ACalls Try.prog tab.S 45 [.sl 34 (List.map Act.av a) f_a, .sl 34 (List.map Act.av b) f_b] [] (.sc (.bool (act_Same a b))) [] := by
 generalize H : act_Same a b = r
 refine .of_AX act_Same_F Try.func45 fun c0 hc0 => ?_
 rw [act_Same] at H
 refine .sg 3 [0,1] (.rg (.sg 2 [5,6] (.cp [7] (z64_ok a b f_a f_b) (.sg 1 [4] (.dn ?_)))))
 subst H
 exact .ret Try.func45 hc0
noncomputable def z25_F : Go.Sh.Fn := ⟨25, bodyOf Try.f25, 63⟩
def z25 (a : Rule) (b : Rule) : Bool :=
 ((((((((act_Same a.Acts b.Acts) && (rule_Key ({ a with Acts := [] } : Rule) ({ b with Acts := [] } : Rule))) && (a.Idle == b.Idle)) && (a.Hard == b.Hard)) && (a.Owner == b.Owner)) && (a.Hits == b.Hits)) && (a.Quiet == b.Quiet)) && (a.Age == b.Age))
theorem z25_calls (a : Rule) (b : Rule) : ACalls Try.prog tab.S 25 [Rule.av a, Rule.av b] [] (.sc (.bool (z25 a b))) [] := by
 generalize H : z25 a b = r
 refine .of_AX z25_F Try.func25 fun c0 hc0 => ?_
 rw [z25] at H
 refine .sg 1 [0,1] (.rg (.bx [1,2] (.bx [2,3] (.sg 1 [2,3] (.dn (.sg 1 [2,3] (.rp hc0 [2, 3, 5, 6] [] [[0, 1], [1, 0]] .nil (by kernel_rfl) (.sg 3 [2,3,5,6] (.rg (.sg 4 [5,6,12,14] (.cp [5,6,15] (act_Same_calls a.Acts b.Acts false false) (.sg 1 [5,6,16] (.mm 16 (act_Same a.Acts b.Acts) 4 [.pure, .pure, .read, .read] [5, 6, 20] 20 (fun z => .sc (.bool (z && (rule_Key ({ a with Acts := [] } : Rule) ({ b with Acts := [] } : Rule))))) ?J1 (fun hb J => ?ht1) (fun hb J => ?hf1))))))))))))))
 case ht1 =>
  exact .sg 2 [5,6,16,17,18] (.cp [5,6,16,19] (ds := [(34, false), (34, false)]) (rule_Key_calls ({ a with Acts := [] } : Rule) ({ b with Acts := [] } : Rule)) (.sg 1 [5,6,20] (.cl J)))
 case hf1 =>
  exact .sg 4 [5,6,20] (.cl J)
 refine .sg 1 [5,6,21] (.mx 0 [5,6,27] (.sg 1 [5,6,28] (.mx 0 [5,6,34] (.sg 1 [5,6,35] (.mx 0 [5,6,41] (.sg 1 [5,6,42] (.mx 0 [5,6,48] (.sg 1 [5,6,49] (.mx 0 [5,6,55] (.sg 1 [5,6,56] (.mx 0 [62] (.sg 1 [4] (.dn ?_)))))))))))))
 subst H
 exact .ret Try.func25 hc0
theorem z25_eq (a b : Rule) : z25 a b = (a == b) := by
 obtain ⟨⟨v, c⟩, p, ac, i1, h1, o1, h2, q1, g1⟩ := a
 obtain ⟨⟨v', c'⟩, p', ac', i1', h1', o1', h2', q1', g1'⟩ := b
 rw [z25, act_Same, rule_Key, Bool.eq_iff_iff]
 simp only [Bool.and_eq_true, beq_iff_eq, Rule.mk.injEq, Cube.mk.injEq]
 constructor
 ·rintro ⟨⟨⟨⟨⟨⟨⟨a1, ⟨a2, a3⟩, a4⟩, a5⟩, a6⟩, a7⟩, a8⟩, a9⟩, a10⟩
  exact ⟨⟨a2, a3⟩, a4, a1, a5, a6, a7, a8, a9, a10⟩
 ·rintro ⟨⟨a2, a3⟩, a4, a1, a5, a6, a7, a8, a9, a10⟩
  exact ⟨⟨⟨⟨⟨⟨⟨a1, ⟨a2, a3⟩, a4⟩, a5⟩, a6⟩, a7⟩, a8⟩, a9⟩, a10⟩
noncomputable def z24_F : Go.Sh.Fn := ⟨24, bodyOf Try.f24, 32⟩
def z24_l0s (s2 : List Rule) (eq : Rule → Rule → Bool) : List Rule → Nat → Option (Sum (Unit) (Bool))
 | [], t17 =>
  some (.inl ())
 | x :: rest, t17 =>
  (ixO s2 ((t17 : Nat) : Int)).bind fun x1 =>
  (bif (!(eq x x1)) then
   some (.inr false)
  else
   z24_l0s s2 eq rest (t17 + 1) )
theorem z24_l0_walk (s1 : List Rule) (s2 : List Rule) (F_eq : FuncId) (C_eq : List AV) (eq : Rule → Rule → Bool) (P_eq : plainL C_eq = true) (O_eq : C_eq.all oneA = true) (H_eq : ∀ (y0 : Rule) (y1 : Rule), ACalls Try.prog tab.S F_eq ([Rule.av y0, Rule.av y1] ++ C_eq) [] (.sc (.bool (eq y0 y1))) []) (f_s1 : Bool) (f_s2 : Bool) (r : Bool) (c0 : Ctx) (hc0 : c0.m.length = 0) (res : Sum (Unit) (Bool)) (J : ∀ w : Unit, res = .inl w → AX Try.prog tab z24_F c0 (Rp tab.S c0 (.sc (.bool r)) []) (some ⟨[.code [1, 1, 1]], [], []⟩)) (Jr : ∀ w, res = .inr w → w = r) :
  ∀ (rest : List Rule) (t17 : Nat) (z : Int) (hI : z = ((t17 : Nat) : Int)) (hd : s1.drop t17 = rest) (H : z24_l0s s2 eq rest t17 = some res), AX Try.prog tab z24_F c0 (Rp tab.S c0 (.sc (.bool r)) []) (some ⟨[.code [1, 1, 0, 1, 0, 0], .loop [1, 1, 0, 1, 0], .blk 0, .code [1, 1, 1]], [(1, .sl 31 (List.map Rule.av s2) f_s2), (2, .fn F_eq C_eq), (15, .sl 31 (List.map Rule.av s1) f_s1), (16, .sc (.int .i64 (((List.map Rule.av s1).length : Nat) : Int))), (17, .sc (.int .i64 z))], []⟩) := by
 intro rest
 induction rest with
 | nil =>
  intro t17 z hI hd  H
  subst hI
  rw [z24_l0s] at H
  refine .facts 15 fun hf => ?_
  have hlen : s1.length ≤ 9223372036854775807 := by have hq := len_ok hf.2.1; rw [List.length_map] at hq; exact hq
  have hge : s1.length ≤ t17 := List.drop_eq_nil_iff.1 hd
  have hc : (decide (((t17 : Nat) : Int) < (((List.map Rule.av s1).length : Nat) : Int))) = false := by rw [List.length_map]; exact decide_eq_false (by omega)
  exact .sg 3 [1,2,15,16,17,18] (.cdF hc (.sg 1 [] (.kp [] (.to (J () (Option.some.inj H).symm)))))
 | cons x rest ih =>
  intro t17 z hI hd  H
  subst hI
  rw [z24_l0s] at H
  refine .facts 15 fun hf => ?_
  have hlen : s1.length ≤ 9223372036854775807 := by have hq := len_ok hf.2.1; rw [List.length_map] at hq; exact hq
  obtain ⟨hlt, hv_t17, hd2⟩ := drop_cons hd
  have hc : (decide (((t17 : Nat) : Int) < (((List.map Rule.av s1).length : Nat) : Int))) = true := by rw [List.length_map]; exact decide_eq_true (by omega)
  have hw : IntKind.i64.wrap (((t17 : Nat) : Int) + 1) = ((t17 + 1 : Nat) : Int) := wrapI_succ (by omega)
  refine .sg 3 [1,2,15,16,17,18] (.cdT hc (.sg 4 [1,2,15,16,17] (.rg (.sg 1 [1,2,15,16,17,19] (.xi [1,2,15,16,17,19,20] Rule.av hv_t17 (.sg 4 [1,2,7,8,15,16,17] (.dn (.sg 1 [1,2,7,8,15,16,17] (.rg (.sg 2 [1,2,8,15,16,17,22,23] (bndO H fun x1 hv H => (.xi [1,2,8,15,16,17,24] Rule.av hv (.sg 3 [1,2,8,9,15,16,17] (.dn (.sg 1 [1,2,8,9,15,16,17] (.rg (.sg 3 [1,2,15,16,17,26,27,28] (.cf [1,2,15,16,17,29] (H_eq x x1) P_eq O_eq (.sg 1 [1,2,15,16,17,30] (.dn (.cd (!(eq x x1)) H (fun hb H => ?_) (fun hb H => ?_))))))))))))))))))))))
  ·
   refine .sg 2 [6] ?_
   obtain rfl := Option.some.inj H
   obtain rfl := Jr _ rfl
   exact .ret Try.func24 hc0
  ·
   exact .sg 3 [1,2,15,16,17] (.kp [1,2,15,16,17] (.to (c := ⟨[.loop [1, 1, 0, 1, 0], .blk 0, .code [1, 1, 1]], [(1, .sl 31 (List.map Rule.av s2) f_s2), (2, .fn F_eq C_eq), (15, .sl 31 (List.map Rule.av s1) f_s1), (16, .sc (.int .i64 (((List.map Rule.av s1).length : Nat) : Int))), (17, .sc (.int .i64 (IntKind.i64.wrap (((t17 : Nat) : Int) + 1))))], [.box 31 (Rule.ch x), .box 31 (Rule.ch x1)]⟩) (.dropX 0 hc0 (h' := []) (by kernel_rfl) (.cons (by kernel_rfl) (.cons (below_fn P_eq) (.cons (by kernel_rfl) (.cons (by kernel_rfl) (.cons (by kernel_rfl) .nil))))) (by kernel_rfl) (.into (.cl (ih (t17 + 1) _ hw hd2 H))))))
def z24_raw (s1 : List Rule) (s2 : List Rule) (eq : Rule → Rule → Bool) : Option (Bool) :=
 (bif ((((List.map Rule.av s1).length : Nat) : Int) != (((List.map Rule.av s2).length : Nat) : Int)) then
  some false
 else
  loopO (z24_l0s s2 eq s1 0) fun v =>
  some true)
theorem z24_walk (s1 : List Rule) (s2 : List Rule) (F_eq : FuncId) (C_eq : List AV) (eq : Rule → Rule → Bool) (P_eq : plainL C_eq = true) (O_eq : C_eq.all oneA = true) (H_eq : ∀ (y0 : Rule) (y1 : Rule), ACalls Try.prog tab.S F_eq ([Rule.av y0, Rule.av y1] ++ C_eq) [] (.sc (.bool (eq y0 y1))) []) (f_s1 : Bool) (f_s2 : Bool) (r : Bool) (H : z24_raw s1 s2 eq = some r) : ACalls Try.prog tab.S 24 [.sl 31 (List.map Rule.av s1) f_s1, .sl 31 (List.map Rule.av s2) f_s2, .fn F_eq C_eq] [] (.sc (.bool r)) [] := by
 refine .of_AX z24_F Try.func24 fun c0 hc0 => ?_
 rw [z24_raw] at H
 refine .sg 5 [0,1,2,14] (.cd ((((List.map Rule.av s1).length : Nat) : Int) != (((List.map Rule.av s2).length : Nat) : Int)) H (fun hb H => ?_) (fun hb H => ?_))
 ·
  refine .sg 2 [6] ?_
  obtain rfl := Option.some.inj H
  exact .ret Try.func24 hc0
 ·
  refine .sg 5 [1,2,15,16,17] ?_
  rcases loopO_some H with ⟨v, hv, H⟩ | hv
  case inr =>
   exact .into (.to (z24_l0_walk s1 s2 F_eq C_eq eq P_eq O_eq H_eq f_s1 f_s2 _ c0 hc0 (.inr _) (fun _ e => by cases e) (fun _ e => (Sum.inr.inj e).symm) s1 0 _ rfl rfl hv))
  refine .into (.to (z24_l0_walk s1 s2 F_eq C_eq eq P_eq O_eq H_eq f_s1 f_s2 r c0 hc0 (.inl v) (fun w e => ?_) (fun _ e => by cases e) s1 0 _ rfl rfl hv))
  have e := Sum.inl.inj e
  subst e
  refine .sg 2 [6] ?_
  obtain rfl := Option.some.inj H
  exact .ret Try.func24 hc0
theorem z24_ok (s1 s2 : List Rule) (F_eq : FuncId) (C_eq : List AV) (eq : Rule → Rule → Bool) (P_eq : plainL C_eq = true) (O_eq : C_eq.all oneA = true) (H_eq : ∀ (y0 : Rule) (y1 : Rule), ACalls Try.prog tab.S F_eq ([Rule.av y0, Rule.av y1] ++ C_eq) [] (.sc (.bool (eq y0 y1))) []) (f_s1 f_s2 : Bool) :
  ACalls Try.prog tab.S 24 [.sl 31 (List.map Rule.av s1) f_s1, .sl 31 (List.map Rule.av s2) f_s2, .fn F_eq C_eq] [] (.sc (.bool (zipAll eq s1 s2))) [] := by
 refine z24_walk s1 s2 F_eq C_eq eq P_eq O_eq H_eq f_s1 f_s2 _ ?_
 rw [z24_raw, len_bne]
 by_cases h : s1.length = s2.length
 ·simp only [h, decide_true, Bool.not_true, cond_false]
  rw [cmp_loop (v := false) (z24_l0s s2 eq) s2 eq (fun _ => rfl) (fun x r i => by rw [z24_l0s]) s1 0 (by omega), List.drop_zero]
  cases zipAll eq s1 s2 <;> rfl
 ·rw [zipAll_ne eq h]
  simp only [h, decide_false, Bool.not_false, cond_true]
noncomputable def z9_F : Go.Sh.Fn := ⟨9, bodyOf Try.f9, 8⟩
def z9 (a : List Rule) (b : List Rule) : Bool :=
 (zipAll z25 a b)
theorem z9_calls (a : List Rule) (b : List Rule) (f_a : Bool) (f_b : Bool) : ACalls Try.prog tab.S 9 [.sl 31 (List.map Rule.av a) f_a, .sl 31 (List.map Rule.av b) f_b] [] (.sc (.bool (z9 a b))) [] := by
 generalize H : z9 a b = r
 refine .of_AX z9_F Try.func9 fun c0 hc0 => ?_
 rw [z9] at H
 refine .sg 3 [0,1] (.rg (.sg 2 [5,6] (.cl_ [7] (caps := []) (z24_ok a b 25 [] z25 rfl rfl (fun y0 y1 => z25_calls y0 y1) f_a f_b) (.same rfl (.same rfl (.fn (caps := []) (by kernel_rfl) .nil))) (by kernel_rfl) rfl rfl (.sg 1 [4] (.dn ?_)))))
 subst H
 exact .ret Try.func9 hc0
theorem z9_eq (a b : List Rule) : z9 a b = (a == b) := by
 rw [z9, ← zipAll_beq]
 exact congrArg (fun f => zipAll f a b) (funext fun x => funext fun y => z25_eq x y)
end Go.Proofs.Ytjicebidjfbkpaa
namespace Go.Proofs.Ytjicebidjfbkpaa
open Go.Sh
end Go.Proofs.Ytjicebidjfbkpaa
namespace Go.Proofs.Ytjicebidjfbkpaa
open Go.Sh
end Go.Proofs.Ytjicebidjfbkpaa
namespace Go.Proofs.Ytjicebidjfbkpaa
open Go.Sh
open Go.ChangeShapes Go.WideShapes Go.ChangeAt Go.RowKit
def Act.wf (x : Act) : Prop := intW .i64 x.Kind ∧ intW .i64 x.Port ∧ intW .i64 x.Field ∧ intW .u64 x.Value
theorem Act.shaped {gs : List AV} (h : Shaped tab 34 gs) : ∃ x : Act, gs = [.sc (.int .i64 x.Kind), .sc (.int .i64 x.Port), .sc (.int .i64 x.Field), .sc (.int .u64 x.Value)] ∧ x.wf := by
 obtain ⟨gss, rfl, hl, hf⟩ := Shaped.struct_inv (fl := [(0, 3), (1, 3), (2, 3), (3, 24)]) (by kernel_rfl) h
 match gss, hl, hf with
 | [g0, g1, g2, g3], _, hf =>
  obtain ⟨x0, rfl, w0⟩ := Shaped.int_inv (k := .i64) (by kernel_rfl) (hf 0 _ _ rfl rfl)
  obtain ⟨x1, rfl, w1⟩ := Shaped.int_inv (k := .i64) (by kernel_rfl) (hf 1 _ _ rfl rfl)
  obtain ⟨x2, rfl, w2⟩ := Shaped.int_inv (k := .i64) (by kernel_rfl) (hf 2 _ _ rfl rfl)
  obtain ⟨x3, rfl, w3⟩ := Shaped.int_inv (k := .u64) (by kernel_rfl) (hf 3 _ _ rfl rfl)
  exact ⟨⟨x0, x1, x2, x3⟩, rfl, ⟨w0, w1, w2, w3⟩⟩
def Cube.wf (x : Cube) : Prop := arrW .u64 12 x.Value ∧ arrW .u64 12 x.Care
theorem Cube.shaped {gs : List AV} (h : Shaped tab 28 gs) : ∃ x : Cube, gs = [.arr .u64 12 x.Value, .arr .u64 12 x.Care] ∧ x.wf := by
 obtain ⟨gss, rfl, hl, hf⟩ := Shaped.struct_inv (fl := [(0, 26), (12, 26)]) (by kernel_rfl) h
 match gss, hl, hf with
 | [g0, g1], _, hf =>
  obtain ⟨x0, rfl, w0⟩ := Shaped.arr_inv (n := 12) (e := 24) (k := .u64) (by kernel_rfl) (by kernel_rfl) (hf 0 _ _ rfl rfl)
  obtain ⟨x1, rfl, w1⟩ := Shaped.arr_inv (n := 12) (e := 24) (k := .u64) (by kernel_rfl) (by kernel_rfl) (hf 1 _ _ rfl rfl)
  exact ⟨⟨x0, x1⟩, rfl, ⟨w0, w1⟩⟩
def Rule.wf (x : Rule) : Prop := Cube.wf x.Match ∧ intW .i64 x.Prio ∧ (∀ y ∈ x.Acts, Act.wf y) ∧ intW .i64 x.Idle ∧ intW .i64 x.Hard ∧ intW .i64 x.Owner ∧ intW .i64 x.Hits ∧ intW .i64 x.Quiet ∧ intW .i64 x.Age
theorem Rule.shaped {gs : List AV} (h : Shaped tab 31 gs) : ∃ x : Rule, gs = [.arr .u64 12 x.Match.Value, .arr .u64 12 x.Match.Care, .sc (.int .i64 x.Prio), .sl 34 (List.map Act.av x.Acts) false, .sc (.int .i64 x.Idle), .sc (.int .i64 x.Hard), .sc (.int .i64 x.Owner), .sc (.int .i64 x.Hits), .sc (.int .i64 x.Quiet), .sc (.int .i64 x.Age)] ∧ x.wf := by
 obtain ⟨gss, rfl, hl, hf⟩ := Shaped.struct_inv (fl := [(0, 28), (24, 3), (25, 29), (26, 3), (27, 3), (28, 3), (29, 3), (30, 3), (31, 3)]) (by kernel_rfl) h
 match gss, hl, hf with
 | [g0, g1, g2, g3, g4, g5, g6, g7, g8], _, hf =>
  obtain ⟨x0, rfl, w0⟩ := Cube.shaped (hf 0 _ _ rfl rfl)
  obtain ⟨x1, rfl, w1⟩ := Shaped.int_inv (k := .i64) (by kernel_rfl) (hf 1 _ _ rfl rfl)
  obtain ⟨q2, rfl, hq2⟩ := Shaped.slice_inv (e := 34) (by kernel_rfl) (hf 2 _ _ rfl rfl)
  obtain ⟨x2, hx2, w2⟩ := rows_typedW (G := tab) (e := 34) (av := Act.av) (wf := fun y => Act.wf y) q2 (fun g hg => by obtain ⟨x, rfl, w⟩ := Act.shaped (hq2 g hg); exact ⟨x, (by kernel_rfl), w⟩)
  obtain ⟨x3, rfl, w3⟩ := Shaped.int_inv (k := .i64) (by kernel_rfl) (hf 3 _ _ rfl rfl)
  obtain ⟨x4, rfl, w4⟩ := Shaped.int_inv (k := .i64) (by kernel_rfl) (hf 4 _ _ rfl rfl)
  obtain ⟨x5, rfl, w5⟩ := Shaped.int_inv (k := .i64) (by kernel_rfl) (hf 5 _ _ rfl rfl)
  obtain ⟨x6, rfl, w6⟩ := Shaped.int_inv (k := .i64) (by kernel_rfl) (hf 6 _ _ rfl rfl)
  obtain ⟨x7, rfl, w7⟩ := Shaped.int_inv (k := .i64) (by kernel_rfl) (hf 7 _ _ rfl rfl)
  obtain ⟨x8, rfl, w8⟩ := Shaped.int_inv (k := .i64) (by kernel_rfl) (hf 8 _ _ rfl rfl)
  rw [hx2]; exact ⟨⟨x0, x1, x2, x3, x4, x5, x6, x7, x8⟩, rfl, ⟨w0, w1, w2, w3, w4, w5, w6, w7, w8⟩⟩
def Mod.wf (x : Mod) : Prop := intW .i64 x.Kind ∧ Cube.wf x.Match ∧ intW .i64 x.Prio ∧ (∀ y ∈ x.Acts, Act.wf y) ∧ intW .i64 x.Idle ∧ intW .i64 x.Hard ∧ intW .i64 x.Owner ∧ True
theorem Mod.shaped {gs : List AV} (h : Shaped tab 42 gs) : ∃ x : Mod, gs = [.sc (.int .i64 x.Kind), .arr .u64 12 x.Match.Value, .arr .u64 12 x.Match.Care, .sc (.int .i64 x.Prio), .sl 34 (List.map Act.av x.Acts) false, .sc (.int .i64 x.Idle), .sc (.int .i64 x.Hard), .sc (.int .i64 x.Owner), .sc (.bool x.Check)] ∧ x.wf := by
 obtain ⟨gss, rfl, hl, hf⟩ := Shaped.struct_inv (fl := [(0, 3), (1, 28), (25, 3), (26, 29), (27, 3), (28, 3), (29, 3), (30, 4)]) (by kernel_rfl) h
 match gss, hl, hf with
 | [g0, g1, g2, g3, g4, g5, g6, g7], _, hf =>
  obtain ⟨x0, rfl, w0⟩ := Shaped.int_inv (k := .i64) (by kernel_rfl) (hf 0 _ _ rfl rfl)
  obtain ⟨x1, rfl, w1⟩ := Cube.shaped (hf 1 _ _ rfl rfl)
  obtain ⟨x2, rfl, w2⟩ := Shaped.int_inv (k := .i64) (by kernel_rfl) (hf 2 _ _ rfl rfl)
  obtain ⟨q3, rfl, hq3⟩ := Shaped.slice_inv (e := 34) (by kernel_rfl) (hf 3 _ _ rfl rfl)
  obtain ⟨x3, hx3, w3⟩ := rows_typedW (G := tab) (e := 34) (av := Act.av) (wf := fun y => Act.wf y) q3 (fun g hg => by obtain ⟨x, rfl, w⟩ := Act.shaped (hq3 g hg); exact ⟨x, (by kernel_rfl), w⟩)
  obtain ⟨x4, rfl, w4⟩ := Shaped.int_inv (k := .i64) (by kernel_rfl) (hf 4 _ _ rfl rfl)
  obtain ⟨x5, rfl, w5⟩ := Shaped.int_inv (k := .i64) (by kernel_rfl) (hf 5 _ _ rfl rfl)
  obtain ⟨x6, rfl, w6⟩ := Shaped.int_inv (k := .i64) (by kernel_rfl) (hf 6 _ _ rfl rfl)
  obtain ⟨x7, rfl⟩ := Shaped.bool_inv (by kernel_rfl) (hf 7 _ _ rfl rfl)
  rw [hx3]; exact ⟨⟨x0, x1, x2, x3, x4, x5, x6, x7⟩, rfl, ⟨w0, w1, w2, w3, w4, w5, w6, trivial⟩⟩
end Go.Proofs.Ytjicebidjfbkpaa
namespace Go.Proofs.Ytjicebidjfbkpaa
open Go.Sh
end Go.Proofs.Ytjicebidjfbkpaa
namespace Go.Proofs.Ytjicebidjfbkpaa
open Go.Sh
end Go.Proofs.Ytjicebidjfbkpaa
namespace Go.Proofs.Ytjicebidjfbkpaa
open Go.Sh
noncomputable def z6_F : Go.Sh.Fn := ⟨6, bodyOf Try.f6, 37⟩
def z6_raw : Option (Bool) :=
 (bif ((((((List.map Rule.av (sortR [({ Match := ({ Value := [0, 0, 0, 0, 0, 0, 0, 0, 0, 0, 0, 0], Care := [0, 0, 0, 0, 0, 0, 0, 0, 0, 0, 0, 0] } : Cube), Prio := 1, Acts := [], Idle := 0, Hard := 0, Owner := 0, Hits := 0, Quiet := 0, Age := 0 } : Rule), ({ Match := ({ Value := [0, 0, 0, 0, 0, 0, 0, 0, 0, 0, 0, 0], Care := [0, 0, 0, 0, 0, 0, 0, 0, 0, 0, 0, 0] } : Cube), Prio := 2, Acts := [], Idle := 0, Hard := 0, Owner := 0, Hits := 0, Quiet := 0, Age := 0 } : Rule)])).length : Nat) : Int) == 2) && (z17 (sortR [({ Match := ({ Value := [0, 0, 0, 0, 0, 0, 0, 0, 0, 0, 0, 0], Care := [0, 0, 0, 0, 0, 0, 0, 0, 0, 0, 0, 0] } : Cube), Prio := 1, Acts := [], Idle := 0, Hard := 0, Owner := 0, Hits := 0, Quiet := 0, Age := 0 } : Rule), ({ Match := ({ Value := [0, 0, 0, 0, 0, 0, 0, 0, 0, 0, 0, 0], Care := [0, 0, 0, 0, 0, 0, 0, 0, 0, 0, 0, 0] } : Cube), Prio := 2, Acts := [], Idle := 0, Hard := 0, Owner := 0, Hits := 0, Quiet := 0, Age := 0 } : Rule)]) [0, 0, 0, 0, 0, 0, 0, 0, 0, 0, 0, 0]).2) && ((z17 (sortR [({ Match := ({ Value := [0, 0, 0, 0, 0, 0, 0, 0, 0, 0, 0, 0], Care := [0, 0, 0, 0, 0, 0, 0, 0, 0, 0, 0, 0] } : Cube), Prio := 1, Acts := [], Idle := 0, Hard := 0, Owner := 0, Hits := 0, Quiet := 0, Age := 0 } : Rule), ({ Match := ({ Value := [0, 0, 0, 0, 0, 0, 0, 0, 0, 0, 0, 0], Care := [0, 0, 0, 0, 0, 0, 0, 0, 0, 0, 0, 0] } : Cube), Prio := 2, Acts := [], Idle := 0, Hard := 0, Owner := 0, Hits := 0, Quiet := 0, Age := 0 } : Rule)]) [0, 0, 0, 0, 0, 0, 0, 0, 0, 0, 0, 0]).1 == 0)) then
  (ixO (sortR [({ Match := ({ Value := [0, 0, 0, 0, 0, 0, 0, 0, 0, 0, 0, 0], Care := [0, 0, 0, 0, 0, 0, 0, 0, 0, 0, 0, 0] } : Cube), Prio := 1, Acts := [], Idle := 0, Hard := 0, Owner := 0, Hits := 0, Quiet := 0, Age := 0 } : Rule), ({ Match := ({ Value := [0, 0, 0, 0, 0, 0, 0, 0, 0, 0, 0, 0], Care := [0, 0, 0, 0, 0, 0, 0, 0, 0, 0, 0, 0] } : Cube), Prio := 2, Acts := [], Idle := 0, Hard := 0, Owner := 0, Hits := 0, Quiet := 0, Age := 0 } : Rule)]) 0).bind fun x =>
  (bif (x.Prio == 2) then
   (ixO (sortR [({ Match := ({ Value := [0, 0, 0, 0, 0, 0, 0, 0, 0, 0, 0, 0], Care := [0, 0, 0, 0, 0, 0, 0, 0, 0, 0, 0, 0] } : Cube), Prio := 1, Acts := [], Idle := 0, Hard := 0, Owner := 0, Hits := 0, Quiet := 0, Age := 0 } : Rule), ({ Match := ({ Value := [0, 0, 0, 0, 0, 0, 0, 0, 0, 0, 0, 0], Care := [0, 0, 0, 0, 0, 0, 0, 0, 0, 0, 0, 0] } : Cube), Prio := 2, Acts := [], Idle := 0, Hard := 0, Owner := 0, Hits := 0, Quiet := 0, Age := 0 } : Rule)]) 0).bind fun x1 =>
   some (z18 x1)
  else
   some false)
 else
  some false)
theorem z6_walk (r : Bool) (H : z6_raw = some r) : ACalls Try.prog tab.S 6 [] [] (.sc (.bool r)) [] := by
 refine .of_AX z6_F Try.func6 fun c0 hc0 => ?_
 rw [z6_raw] at H
 refine .sg 3 [] (.rg (.sg 2 [4,5] (.wk 4 [(34, false)] (.wk 5 [(34, false)] (.sg 1 [6] (.cp [7] (z8_ok [({ Match := ({ Value := [0, 0, 0, 0, 0, 0, 0, 0, 0, 0, 0, 0], Care := [0, 0, 0, 0, 0, 0, 0, 0, 0, 0, 0, 0] } : Cube), Prio := 1, Acts := [], Idle := 0, Hard := 0, Owner := 0, Hits := 0, Quiet := 0, Age := 0 } : Rule), ({ Match := ({ Value := [0, 0, 0, 0, 0, 0, 0, 0, 0, 0, 0, 0], Care := [0, 0, 0, 0, 0, 0, 0, 0, 0, 0, 0, 0] } : Cube), Prio := 2, Acts := [], Idle := 0, Hard := 0, Owner := 0, Hits := 0, Quiet := 0, Age := 0 } : Rule)] true) (.sg 1 [1] (.dn (.sg 1 [1] (.rg (.sg 2 [1,9,10] (.cp [1,11] (z17_calls (sortR [({ Match := ({ Value := [0, 0, 0, 0, 0, 0, 0, 0, 0, 0, 0, 0], Care := [0, 0, 0, 0, 0, 0, 0, 0, 0, 0, 0, 0] } : Cube), Prio := 1, Acts := [], Idle := 0, Hard := 0, Owner := 0, Hits := 0, Quiet := 0, Age := 0 } : Rule), ({ Match := ({ Value := [0, 0, 0, 0, 0, 0, 0, 0, 0, 0, 0, 0], Care := [0, 0, 0, 0, 0, 0, 0, 0, 0, 0, 0, 0] } : Cube), Prio := 2, Acts := [], Idle := 0, Hard := 0, Owner := 0, Hits := 0, Quiet := 0, Age := 0 } : Rule)]) [0, 0, 0, 0, 0, 0, 0, 0, 0, 0, 0, 0] true) (.sg 5 [1,2,3] (.dn (.sg 1 [1,2,3] (.rg (.sg 4 [1,2,3,17] (.mx 0 [1,2,19] (.sg 1 [1,2,20] (.mx 0 [1,23] (.sg 1 [1,24] (.sp 24 ((((((List.map Rule.av (sortR [({ Match := ({ Value := [0, 0, 0, 0, 0, 0, 0, 0, 0, 0, 0, 0], Care := [0, 0, 0, 0, 0, 0, 0, 0, 0, 0, 0, 0] } : Cube), Prio := 1, Acts := [], Idle := 0, Hard := 0, Owner := 0, Hits := 0, Quiet := 0, Age := 0 } : Rule), ({ Match := ({ Value := [0, 0, 0, 0, 0, 0, 0, 0, 0, 0, 0, 0], Care := [0, 0, 0, 0, 0, 0, 0, 0, 0, 0, 0, 0] } : Cube), Prio := 2, Acts := [], Idle := 0, Hard := 0, Owner := 0, Hits := 0, Quiet := 0, Age := 0 } : Rule)])).length : Nat) : Int) == 2) && (z17 (sortR [({ Match := ({ Value := [0, 0, 0, 0, 0, 0, 0, 0, 0, 0, 0, 0], Care := [0, 0, 0, 0, 0, 0, 0, 0, 0, 0, 0, 0] } : Cube), Prio := 1, Acts := [], Idle := 0, Hard := 0, Owner := 0, Hits := 0, Quiet := 0, Age := 0 } : Rule), ({ Match := ({ Value := [0, 0, 0, 0, 0, 0, 0, 0, 0, 0, 0, 0], Care := [0, 0, 0, 0, 0, 0, 0, 0, 0, 0, 0, 0] } : Cube), Prio := 2, Acts := [], Idle := 0, Hard := 0, Owner := 0, Hits := 0, Quiet := 0, Age := 0 } : Rule)]) [0, 0, 0, 0, 0, 0, 0, 0, 0, 0, 0, 0]).2) && ((z17 (sortR [({ Match := ({ Value := [0, 0, 0, 0, 0, 0, 0, 0, 0, 0, 0, 0], Care := [0, 0, 0, 0, 0, 0, 0, 0, 0, 0, 0, 0] } : Cube), Prio := 1, Acts := [], Idle := 0, Hard := 0, Owner := 0, Hits := 0, Quiet := 0, Age := 0 } : Rule), ({ Match := ({ Value := [0, 0, 0, 0, 0, 0, 0, 0, 0, 0, 0, 0], Care := [0, 0, 0, 0, 0, 0, 0, 0, 0, 0, 0, 0] } : Cube), Prio := 2, Acts := [], Idle := 0, Hard := 0, Owner := 0, Hits := 0, Quiet := 0, Age := 0 } : Rule)]) [0, 0, 0, 0, 0, 0, 0, 0, 0, 0, 0, 0]).1 == 0)) H (fun hb H => ?_) (fun hb H => ?_)))))))))))))))))))))))
 ·
  refine .sg 1 [1,24,25] (bndO H fun x hv H => (.xi [1,24,26] Rule.av hv (.sg 5 [1,31] (.sp 31 (x.Prio == 2) H (fun hb H => ?_) (fun hb H => ?_)))))
  ·
   refine .sg 1 [31,32] (bndO H fun x1 hv H => (.xi [31,33] Rule.av hv (.sg 1 [31,34] (.cp [31,35] (z18_calls x1) (.sg 2 [0] (.dn ?_))))))
   obtain rfl := Option.some.inj H
   exact .ret Try.func6 hc0
  ·
   refine .sg 6 [0] (.dn ?_)
   obtain rfl := Option.some.inj H
   exact .ret Try.func6 hc0
 ·
  refine .sg 13 [0] (.dn ?_)
  obtain rfl := Option.some.inj H
  exact .ret Try.func6 hc0
theorem z6_ok : ACalls Try.prog tab.S 6 [] [] (.sc (.bool true)) [] := z6_walk true (by kernel_rfl)
end Go.Proofs.Ytjicebidjfbkpaa
namespace Go.Proofs.Ytjicebidjfbkpaa
open Go.Sh
def RuleP.ch (r : Rule) : List AV := [.arr .u64 12 r.Match.Value, .arr .u64 12 r.Match.Care, .sc (.int .i64 r.Prio), .sl 1000034 (List.map Act.av r.Acts) false, .sc (.int .i64 r.Idle), .sc (.int .i64 r.Hard), .sc (.int .i64 r.Owner), .sc (.int .i64 r.Hits), .sc (.int .i64 r.Quiet), .sc (.int .i64 r.Age)]
def RuleP.av (r : Rule) : AV := .agg (RuleP.ch r)
theorem RuleP.un (r : Rule) : Un tab.S (RuleP.av r) (Rule.av r) := by (repeat' (first | exact CvL.nil | exact Cvs.nil | refine CvL.cons ?_ ?_ | refine Cvs.cons ?_ ?_ | exact Cv.scal rfl | exact Cv1.scal rfl | refine Cv.agg ?_ | refine Cv1.agg ?_ | refine Cv1.one ?_ rfl rfl | (refine Un.sl (fun _ _ => ?_) ?_ ?_ _ <;> first | kernel_rfl | decide | skip) | (refine Mk.sl (fun _ _ => ?_) ?_ ?_ _ <;> first | kernel_rfl | decide | skip) | (refine PK.sl (fun _ _ => ?_) ?_ _ <;> first | kernel_rfl | decide | skip) | refine Un.ep ?_ _ _ | refine Cv.fn ?_))
theorem RuleP.mk (r : Rule) : Mk tab.S (Rule.av r) (RuleP.av r) := by (repeat' (first | exact CvL.nil | exact Cvs.nil | refine CvL.cons ?_ ?_ | refine Cvs.cons ?_ ?_ | exact Cv.scal rfl | exact Cv1.scal rfl | refine Cv.agg ?_ | refine Cv1.agg ?_ | refine Cv1.one ?_ rfl rfl | (refine Un.sl (fun _ _ => ?_) ?_ ?_ _ <;> first | kernel_rfl | decide | skip) | (refine Mk.sl (fun _ _ => ?_) ?_ ?_ _ <;> first | kernel_rfl | decide | skip) | (refine PK.sl (fun _ _ => ?_) ?_ _ <;> first | kernel_rfl | decide | skip) | refine Un.ep ?_ _ _ | refine Cv.fn ?_))
theorem RuleP.pk (r : Rule) : Cv tab.S PK (RuleP.av r) (RuleP.av r) := by (repeat' (first | exact CvL.nil | exact Cvs.nil | refine CvL.cons ?_ ?_ | refine Cvs.cons ?_ ?_ | exact Cv.scal rfl | exact Cv1.scal rfl | refine Cv.agg ?_ | refine Cv1.agg ?_ | refine Cv1.one ?_ rfl rfl | (refine Un.sl (fun _ _ => ?_) ?_ ?_ _ <;> first | kernel_rfl | decide | skip) | (refine Mk.sl (fun _ _ => ?_) ?_ ?_ _ <;> first | kernel_rfl | decide | skip) | (refine PK.sl (fun _ _ => ?_) ?_ _ <;> first | kernel_rfl | decide | skip) | refine Un.ep ?_ _ _ | refine Cv.fn ?_))
def ModP.ch (r : Mod) : List AV := [.sc (.int .i64 r.Kind), .arr .u64 12 r.Match.Value, .arr .u64 12 r.Match.Care, .sc (.int .i64 r.Prio), .sl 1000034 (List.map Act.av r.Acts) false, .sc (.int .i64 r.Idle), .sc (.int .i64 r.Hard), .sc (.int .i64 r.Owner), .sc (.bool r.Check)]
def ModP.av (r : Mod) : AV := .agg (ModP.ch r)
theorem ModP.un (r : Mod) : Un tab.S (ModP.av r) (Mod.av r) := by (repeat' (first | exact CvL.nil | exact Cvs.nil | refine CvL.cons ?_ ?_ | refine Cvs.cons ?_ ?_ | exact Cv.scal rfl | exact Cv1.scal rfl | refine Cv.agg ?_ | refine Cv1.agg ?_ | refine Cv1.one ?_ rfl rfl | (refine Un.sl (fun _ _ => ?_) ?_ ?_ _ <;> first | kernel_rfl | decide | skip) | (refine Mk.sl (fun _ _ => ?_) ?_ ?_ _ <;> first | kernel_rfl | decide | skip) | (refine PK.sl (fun _ _ => ?_) ?_ _ <;> first | kernel_rfl | decide | skip) | refine Un.ep ?_ _ _ | refine Cv.fn ?_))
theorem ModP.mk (r : Mod) : Mk tab.S (Mod.av r) (ModP.av r) := by (repeat' (first | exact CvL.nil | exact Cvs.nil | refine CvL.cons ?_ ?_ | refine Cvs.cons ?_ ?_ | exact Cv.scal rfl | exact Cv1.scal rfl | refine Cv.agg ?_ | refine Cv1.agg ?_ | refine Cv1.one ?_ rfl rfl | (refine Un.sl (fun _ _ => ?_) ?_ ?_ _ <;> first | kernel_rfl | decide | skip) | (refine Mk.sl (fun _ _ => ?_) ?_ ?_ _ <;> first | kernel_rfl | decide | skip) | (refine PK.sl (fun _ _ => ?_) ?_ _ <;> first | kernel_rfl | decide | skip) | refine Un.ep ?_ _ _ | refine Cv.fn ?_))
theorem ModP.pk (r : Mod) : Cv tab.S PK (ModP.av r) (ModP.av r) := by (repeat' (first | exact CvL.nil | exact Cvs.nil | refine CvL.cons ?_ ?_ | refine Cvs.cons ?_ ?_ | exact Cv.scal rfl | exact Cv1.scal rfl | refine Cv.agg ?_ | refine Cv1.agg ?_ | refine Cv1.one ?_ rfl rfl | (refine Un.sl (fun _ _ => ?_) ?_ ?_ _ <;> first | kernel_rfl | decide | skip) | (refine Mk.sl (fun _ _ => ?_) ?_ ?_ _ <;> first | kernel_rfl | decide | skip) | (refine PK.sl (fun _ _ => ?_) ?_ _ <;> first | kernel_rfl | decide | skip) | refine Un.ep ?_ _ _ | refine Cv.fn ?_))
noncomputable def slices_Clone__api_ActP_F : Go.Sh.Fn := ⟨34, bodyOf Try.f34, 8⟩
theorem slices_Clone__api_ActP_calls (s : List Act) (f_s : Bool) : ACalls Try.prog tab.S 34 [.sl 1000034 (List.map Act.av s) f_s] [] (.sl 34 (List.map Act.av s) false) [] := by
 have hG := tab_ok
 have hm := mixed
 have hE : Ent Try.prog 34 := ent_of Try.func34 (by kernel_rfl) (by kernel_rfl)
 cases s with
 | nil =>
  refine ACalls.empty hE fun p c => ?_
  refine ACalls.of_AR (G := tab) slices_Clone__api_ActP_F (fn := Try.f34) Try.func34 (by kernel_rfl) (by kernel_rfl) (by kernel_rfl) (Nat.le_of_ble_eq_true (by kernel_rfl)) ?_
  intro c0 hc0
  replace hc0 : c0.m.length = 0 := hc0
  refine AR.seg hG hm 4 [0] (k' := [.code [1, 0, 0], .code [1, 0, 1], .code [1, 1]]) (t' := [(0, .sc (.slice p 0 c))]) (h' := []) (by kernel_rfl) ?_
  refine AR.reg hm [.pure, .pure] (by kernel_rfl) ?_
  refine DK.seg hG 1 [0, 3] (t' := [(0, .sc (.slice p 0 c)), (3, .sc (.slice p 0 c))]) (h' := []) (by kernel_rfl) rfl ?_
  refine DK.op' [0, 4] (t' := [(0, .sc (.slice p 0 c)), (4, .sc (.bool p.isNone))]) (h' := []) (LSpec.nilEq hG (p := p) (l := 0) (c := c) (by kernel_rfl)) (by kernel_rfl) rfl (by kernel_rfl) rfl ?_
  refine DK.done (by kernel_rfl) (by kernel_rfl) ?_
  refine AR.cond (.tmp 4) p.isNone (by kernel_rfl) (by kernel_rfl) (fun hb => ?ht) (fun hb => ?hf)
  case ht =>
   refine AR.seg hG hm 2 [2] (k' := [.code [1, 0, 1, 0, 1], .code [1, 1]]) (t' := [(2, .sl 0 [] true)]) (h' := []) (by kernel_rfl) ?_
   exact AR.ret0 (fn := Try.f34) hG Try.func34 (by kernel_rfl) hc0 (r0 := .sl 0 [] true) (by kernel_rfl) (WkV.sl (Wk1.nil 34 false))
  case hf =>
   refine AR.seg hG hm 2 [0] (k' := [.code [1, 1, 0], .code [1, 1, 1]]) (t' := [(0, .sc (.slice p 0 c))]) (h' := []) (by kernel_rfl) ?_
   refine AR.reg hm [.pure, .pure, .pure, .pure] (by kernel_rfl) ?_
   refine DK.seg hG 2 [5, 6] (t' := [(5, .sl 34 [] true), (6, .sc (.slice p 0 c))]) (h' := []) (by kernel_rfl) rfl ?_
   refine DK.op' [7] (t' := [(7, .sl 34 [] true)]) (h' := []) (LSpec.app0 hG (e0 := 34) (rows := []) (f := true) (by kernel_rfl)) (by kernel_rfl) rfl (by kernel_rfl) rfl ?_
   refine DK.seg hG 1 [2] (t' := [(2, .sl 34 [] true)]) (h' := []) (by kernel_rfl) rfl ?_
   refine DK.done (by kernel_rfl) (by kernel_rfl) ?_
   exact AR.ret0 (fn := Try.f34) hG Try.func34 (by kernel_rfl) hc0 (r0 := .sl 34 [] true) (by kernel_rfl) (WkV.sl (Wk1.nil 34 false))
 | cons x xs =>
  refine ACalls.facts hE fun hf => ?_
  have hfit : (([] : List Act).length + (x :: xs).length) * 32 ≤ reach := by
   have h1 : (List.map Act.av (x :: xs)).length * 32 ≤ reach := hf.1.1
   simpa using h1
  refine ACalls.of_AR (G := tab) slices_Clone__api_ActP_F (fn := Try.f34) Try.func34 (by kernel_rfl) (by kernel_rfl) (by kernel_rfl) (Nat.le_of_ble_eq_true (by kernel_rfl)) ?_
  intro c0 hc0
  replace hc0 : c0.m.length = 0 := hc0
  refine AR.seg hG hm 4 [0] (k' := [.code [1, 0, 0], .code [1, 0, 1], .code [1, 1]]) (t' := [(0, .sl 1000034 (List.map Act.av (x :: xs)) f_s)]) (h' := []) (by kernel_rfl) ?_
  refine AR.reg hm [.pure, .pure] (by kernel_rfl) ?_
  refine DK.seg hG 1 [0, 3] (t' := [(0, .sl 1000034 (List.map Act.av (x :: xs)) f_s), (3, .sl 1000034 (List.map Act.av (x :: xs)) f_s)]) (h' := []) (by kernel_rfl) rfl ?_
  refine DK.op' [0, 4] (t' := [(0, .sl 1000034 (List.map Act.av (x :: xs)) f_s), (4, .sc (.bool false))]) (h' := []) (LSpec.neNil hG (by kernel_rfl)) (by kernel_rfl) rfl (by kernel_rfl) rfl ?_
  refine DK.done (by kernel_rfl) (by kernel_rfl) ?_
  refine AR.seg hG hm 3 [0] (k' := [.code [1, 1, 0], .code [1, 1, 1]]) (t' := [(0, .sl 1000034 (List.map Act.av (x :: xs)) f_s)]) (h' := []) (by kernel_rfl) ?_
  refine AR.reg hm [.pure, .pure, .loud, .pure] (by kernel_rfl) ?_
  refine DK.seg hG 2 [5, 6] (t' := [(5, .sl 34 [] true), (6, .sl 1000034 (List.map Act.av (x :: xs)) f_s)]) (h' := []) (by kernel_rfl) rfl ?_
  refine DK.op' [7] (t' := [(7, .own 0 1)]) (h' := [.row 34 (List.map Act.av ([] ++ (x :: xs))) 1 true]) (LSpec.appendN hG Act.av [] (x :: xs) 34 32 hfit (by kernel_rfl)) (by kernel_rfl) (by kernel_rfl) (by kernel_rfl) rfl ?_
  refine DK.seg hG 1 [2] (t' := [(2, .own 0 1)]) (h' := [.row 34 (List.map Act.av ([] ++ (x :: xs))) 1 true]) (by kernel_rfl) rfl ?_
  refine DK.done (by kernel_rfl) (by kernel_rfl) ?_
  exact AR.ret0 (fn := Try.f34) hG Try.func34 (by kernel_rfl) hc0 (r0 := .sl 34 (List.map Act.av (x :: xs)) false) (by kernel_rfl) (WkV.refl _)
noncomputable def rule_copiedP_F : Go.Sh.Fn := ⟨19, bodyOf Try.f19, 9⟩
def rule_copiedP (r2 : Rule) : Rule :=
 r2
theorem rule_copiedP_calls (r2 : Rule) : ACalls Try.prog tab.S 19 [RuleP.av r2] [] (Rule.av (rule_copiedP r2)) [] := by
 generalize H : rule_copiedP r2 = r
 refine .of_AX rule_copiedP_F Try.func19 fun c0 hc0 => ?_
 rw [rule_copiedP] at H
 refine .sg 3 [1,2] (.rg (.sg 2 [1,2,4] (.cp [1,2,5] (slices_Clone__api_ActP_calls r2.Acts false) (.cp [1,2,6] (z33_calls r2.Acts false) (.sg 2 [1,2] (.dn (.sg 2 [2] ?_)))))))
 subst H
 exact .ret Try.func19 hc0 [] [(0, false)]
end Go.Proofs.Ytjicebidjfbkpaa
namespace Go.Proofs.Ytjicebidjfbkpaa
open Go.Sh
theorem z20_own (s : List Rule) : ACalls Try.prog tab.S 20 [.own 0 2000000] [.row 31 (List.map Rule.av s) 2000000 true] (.own 0 2000000) [.row 31 (List.map Rule.av s) 2000000 true] := by
 refine .of_AX z20_F Try.func20 fun c0 hc0 => ?_
 have hv : sliceO s none (some (((List.map Rule.av s).length : Nat) : Int)) (some (((List.map Rule.av s).length : Nat) : Int)) = some s := by simp [sliceO]
 exact .sg 3 [0] (.rg (.sg 5 [3,5,7] (.rst [8] Rule.av hv (.sg 1 [2] (.dn (.ret Try.func20 hc0 [0]))))))
noncomputable def rule_CopyP_F : Go.Sh.Fn := ⟨7, bodyOf Try.f7, 20⟩
def rule_CopyP_l0s : List Rule → List Rule → Option ((List Rule))
 | [], out =>
  some out
 | x :: rest, out =>
  fitO (out.length + [(rule_copiedP x)].length) 272 (
  rule_CopyP_l0s rest (out ++ [(rule_copiedP x)]))
theorem rule_CopyP_l0_walk (list : List Rule) (f_list : Bool) (r : (List Rule)) (c0 : Ctx) (hc0 : c0.m.length = 0) (res : (List Rule)) (J : AX Try.prog tab rule_CopyP_F c0 (Rp tab.S c0 (.own 0 2000000) [.row 31 (List.map Rule.av r) 2000000 true]) (some ⟨[.code [1, 1, 1]], [(3, .own 0 2000000)], [.row 31 (List.map Rule.av res) 2000000 true]⟩)) :
  ∀ (rest : List Rule) (t8 : Nat) (z : Int) (hI : z = ((t8 : Nat) : Int)) (hd : list.drop t8 = rest) (out : List Rule) (H : rule_CopyP_l0s rest out = some res), AX Try.prog tab rule_CopyP_F c0 (Rp tab.S c0 (.own 0 2000000) [.row 31 (List.map Rule.av r) 2000000 true]) (some ⟨[.code [1, 1, 0, 1, 0, 0], .loop [1, 1, 0, 1, 0], .blk 0, .code [1, 1, 1]], [(3, .own 0 2000000), (6, .sl 1000031 (List.map RuleP.av list) f_list), (7, .sc (.int .i64 (((List.map RuleP.av list).length : Nat) : Int))), (8, .sc (.int .i64 z))], [.row 31 (List.map Rule.av out) 2000000 true]⟩) := by
 intro rest
 induction rest with
 | nil =>
  intro t8 z hI hd out H
  subst hI
  rw [rule_CopyP_l0s] at H
  refine .facts 6 fun hf => ?_
  have hlen : list.length ≤ 9223372036854775807 := by have hq := len_ok hf.2.1; rw [List.length_map] at hq; exact hq
  have hge : list.length ≤ t8 := List.drop_eq_nil_iff.1 hd
  have hc : (decide (((t8 : Nat) : Int) < (((List.map RuleP.av list).length : Nat) : Int))) = false := by rw [List.length_map]; exact decide_eq_false (by omega)
  refine .sg 3 [3,6,7,8,9] (.cdF hc (.sg 1 [3] (.kp [3] ?_)))
  obtain rfl := Option.some.inj H
  exact .to J
 | cons x rest ih =>
  intro t8 z hI hd out H
  subst hI
  rw [rule_CopyP_l0s] at H
  refine .facts 6 fun hf => ?_
  have hlen : list.length ≤ 9223372036854775807 := by have hq := len_ok hf.2.1; rw [List.length_map] at hq; exact hq
  obtain ⟨hlt, hv_t8, hd2⟩ := drop_cons hd
  have hc : (decide (((t8 : Nat) : Int) < (((List.map RuleP.av list).length : Nat) : Int))) = true := by rw [List.length_map]; exact decide_eq_true (by omega)
  have hw : IntKind.i64.wrap (((t8 : Nat) : Int) + 1) = ((t8 + 1 : Nat) : Int) := wrapI_succ (by omega)
  exact .sg 3 [3,6,7,8,9] (.cdT hc (.sg 4 [3,6,7,8] (.rg (.xm [3,6,7,8,10] RuleP.av hv_t8 (.sg 3 [3,5,6,7,8] (.dn (.rg (.sg 2 [6,7,8,12,13] (.cp [6,7,8,12,14] (rule_copiedP_calls x) (.sg 1 [6,7,8,12,15] (fitH H fun hfit H => (.ap [6,7,8,16] Rule.av hfit (.sg 1 [3,6,7,8] (.dn (.sg 2 [3,6,7,8] (.tl hc0 [0] [3,6,7,8] (.into (.cl (ih (t8 + 1) _ hw hd2 (out ++ [(rule_copiedP x)]) H)))))))))))))))))))
def rule_CopyP_raw (list : List Rule) : Option ((List Rule)) :=
 (rule_CopyP_l0s list ([] : List Rule)).bind fun v =>
 some v
theorem rule_CopyP_walk (list : List Rule) (f_list : Bool) (r : (List Rule)) (H : rule_CopyP_raw list = some r) : ACalls Try.prog tab.S 7 [.sl 1000031 (List.map RuleP.av list) f_list] [] (.own 0 2000000) [.row 31 (List.map Rule.av r) 2000000 true] := by
 refine .of_AX rule_CopyP_F Try.func7 fun c0 hc0 => ?_
 rw [rule_CopyP_raw] at H
 refine .sg 8 [3,6,7,8] (.ad 3 31 true (.nm 0 2000000 hc0 (.kp [3,6,7,8] ?_)))
 refine bndO H fun v hv H => (.into (.to (rule_CopyP_l0_walk list f_list r c0 hc0 v ?_ list 0 _ rfl rfl ([] : List Rule) hv)))
 refine .sg 1 [3] (.rg (.sg 1 [18] (.cog [19] (o := 0) (k := 2000000) (z20_own v) (.sg 1 [2] (.dn ?_)))))
 obtain rfl := Option.some.inj H
 exact .ret Try.func7 hc0 [0]
end Go.Proofs.Ytjicebidjfbkpaa