import Derived.Test.YtjchejmakdkioabProg
import Derived.Test.YtjchejmakdkioabM2LapseHits
set_option linter.unusedVariables false
set_option linter.unusedSimpArgs false
set_option maxRecDepth 100000
set_option maxHeartbeats 4000000
namespace Go.Proofs.Ytjchejmakdkioab
open Go.Sh
def tab : Go.Sh.Tab := [
  (1, ⟨.other, 1, 8, [.sc .nilFunc]⟩),
  (2, ⟨.int .i64, 1, 8, [.sc (.int .i64 0)]⟩),
  (3, ⟨.int .i64, 1, 8, [.sc (.int .i64 0)]⟩),
  (4, ⟨.bool, 1, 1, [.sc (.bool false)]⟩),
  (5, ⟨.int .u8, 1, 1, [.sc (.int .u8 0)]⟩),
  (9, ⟨.str, 1, 16, [.sc (.string ⟨#[]⟩)]⟩),
  (12, ⟨.int .u64, 1, 8, [.sc (.int .u64 0)]⟩),
  (13, ⟨.struct [(0, 9), (1, 12)], 2, 24, [.sc (.string ⟨#[]⟩), .sc (.int .u64 0)]⟩),
  (21, ⟨.int .i32, 1, 4, [.sc (.int .i32 0)]⟩),
  (22, ⟨.slice 36, 1, 24, [.sl 0 [] true]⟩),
  (23, ⟨.struct [(0, 3), (1, 3), (2, 3), (3, 22)], 4, 48, [.sc (.int .i64 0), .sc (.int .i64 0), .sc (.int .i64 0), .sl 0 [] true]⟩),
  (24, ⟨.struct [(0, 3), (1, 3), (2, 3), (3, 22)], 4, 48, [.sc (.int .i64 0), .sc (.int .i64 0), .sc (.int .i64 0), .sl 0 [] true]⟩),
  (25, ⟨.struct [(0, 3), (1, 3)], 2, 16, [.sc (.int .i64 0), .sc (.int .i64 0)]⟩),
  (26, ⟨.struct [(0, 3), (1, 3)], 2, 16, [.sc (.int .i64 0), .sc (.int .i64 0)]⟩),
  (27, ⟨.other, 1, 8, [.sc .nilFunc]⟩),
  (29, ⟨.other, 1, 8, [.sc .nilFunc]⟩),
  (30, ⟨.slice 26, 1, 24, [.sl 0 [] true]⟩),
  (31, ⟨.other, 1, 8, [.sc .nilFunc]⟩),
  (32, ⟨.other, 1, 8, [.sc .nilFunc]⟩),
  (33, ⟨.int .i64, 1, 8, [.sc (.int .i64 0)]⟩),
  (34, ⟨.other, 1, 8, [.sc .nilFunc]⟩),
  (35, ⟨.struct [(0, 26), (2, 26)], 4, 32, [.sc (.int .i64 0), .sc (.int .i64 0), .sc (.int .i64 0), .sc (.int .i64 0)]⟩),
  (36, ⟨.struct [(0, 26), (2, 26)], 4, 32, [.sc (.int .i64 0), .sc (.int .i64 0), .sc (.int .i64 0), .sc (.int .i64 0)]⟩),
  (37, ⟨.other, 1, 8, [.sc .nilFunc]⟩),
  (38, ⟨.slice 48, 1, 24, [.sl 0 [] true]⟩),
  (39, ⟨.other, 1, 8, [.sc .nilFunc]⟩),
  (40, ⟨.other, 1, 8, [.sc .nilFunc]⟩),
  (41, ⟨.int .u64, 1, 8, [.sc (.int .u64 0)]⟩),
  (42, ⟨.arr 12 41, 12, 96, [.arr .u64 12 [0, 0, 0, 0, 0, 0, 0, 0, 0, 0, 0, 0]]⟩),
  (43, ⟨.arr 12 41, 12, 96, [.arr .u64 12 [0, 0, 0, 0, 0, 0, 0, 0, 0, 0, 0, 0]]⟩),
  (44, ⟨.struct [(0, 43), (12, 43)], 24, 192, [.arr .u64 12 [0, 0, 0, 0, 0, 0, 0, 0, 0, 0, 0, 0], .arr .u64 12 [0, 0, 0, 0, 0, 0, 0, 0, 0, 0, 0, 0]]⟩),
  (45, ⟨.struct [(0, 43), (12, 43)], 24, 192, [.arr .u64 12 [0, 0, 0, 0, 0, 0, 0, 0, 0, 0, 0, 0], .arr .u64 12 [0, 0, 0, 0, 0, 0, 0, 0, 0, 0, 0, 0]]⟩),
  (46, ⟨.slice 53, 1, 24, [.sl 0 [] true]⟩),
  (47, ⟨.struct [(0, 45), (24, 3), (25, 46), (26, 3), (27, 3), (28, 3), (29, 3), (30, 3), (31, 3)], 32, 272, [.arr .u64 12 [0, 0, 0, 0, 0, 0, 0, 0, 0, 0, 0, 0], .arr .u64 12 [0, 0, 0, 0, 0, 0, 0, 0, 0, 0, 0, 0], .sc (.int .i64 0), .sl 0 [] true, .sc (.int .i64 0), .sc (.int .i64 0), .sc (.int .i64 0), .sc (.int .i64 0), .sc (.int .i64 0), .sc (.int .i64 0)]⟩),
  (48, ⟨.struct [(0, 45), (24, 3), (25, 46), (26, 3), (27, 3), (28, 3), (29, 3), (30, 3), (31, 3)], 32, 272, [.arr .u64 12 [0, 0, 0, 0, 0, 0, 0, 0, 0, 0, 0, 0], .arr .u64 12 [0, 0, 0, 0, 0, 0, 0, 0, 0, 0, 0, 0], .sc (.int .i64 0), .sl 0 [] true, .sc (.int .i64 0), .sc (.int .i64 0), .sc (.int .i64 0), .sc (.int .i64 0), .sc (.int .i64 0), .sc (.int .i64 0)]⟩),
  (49, ⟨.other, 1, 8, [.sc .nilFunc]⟩),
  (51, ⟨.other, 1, 8, [.sc .nilFunc]⟩),
  (52, ⟨.struct [(0, 3), (1, 3), (2, 3), (3, 41)], 4, 32, [.sc (.int .i64 0), .sc (.int .i64 0), .sc (.int .i64 0), .sc (.int .u64 0)]⟩),
  (53, ⟨.struct [(0, 3), (1, 3), (2, 3), (3, 41)], 4, 32, [.sc (.int .i64 0), .sc (.int .i64 0), .sc (.int .i64 0), .sc (.int .u64 0)]⟩),
  (54, ⟨.slice 59, 1, 24, [.sl 0 [] true]⟩),
  (56, ⟨.other, 1, 8, [.sc .nilFunc]⟩),
  (57, ⟨.other, 1, 8, [.sc .nilFunc]⟩),
  (58, ⟨.struct [(0, 3), (1, 43)], 13, 104, [.sc (.int .i64 0), .arr .u64 12 [0, 0, 0, 0, 0, 0, 0, 0, 0, 0, 0, 0]]⟩),
  (59, ⟨.struct [(0, 3), (1, 43)], 13, 104, [.sc (.int .i64 0), .arr .u64 12 [0, 0, 0, 0, 0, 0, 0, 0, 0, 0, 0, 0]]⟩),
  (60, ⟨.other, 1, 8, [.sc .nilFunc]⟩),
  (61, ⟨.other, 1, 8, [.sc .nilFunc]⟩),
  (62, ⟨.other, 1, 8, [.sc .nilFunc]⟩),
  (63, ⟨.slice 5, 1, 24, [.sl 0 [] true]⟩),
  (64, ⟨.other, 1, 8, [.sc .nilFunc]⟩),
  (65, ⟨.other, 1, 8, [.sc .nilFunc]⟩),
  (66, ⟨.other, 1, 8, [.sc .nilFunc]⟩),
  (67, ⟨.other, 1, 8, [.sc (.map none)]⟩),
  (68, ⟨.other, 1, 8, [.sc .nilFunc]⟩),
  (69, ⟨.ptr 48, 1, 8, [.sc (.pointer none)]⟩),
  (70, ⟨.other, 1, 8, [.sc .nilFunc]⟩),
  (71, ⟨.other, 1, 8, [.sc .nilFunc]⟩),
  (72, ⟨.other, 1, 8, [.sc .nilFunc]⟩),
  (73, ⟨.other, 1, 8, [.sc .nilFunc]⟩),
  (74, ⟨.other, 1, 8, [.sc .nilFunc]⟩),
  (75, ⟨.other, 1, 8, [.sc .nilFunc]⟩),
  (76, ⟨.other, 1, 8, [.sc .nilFunc]⟩),
  (77, ⟨.other, 1, 8, [.sc .nilFunc]⟩),
  (78, ⟨.other, 1, 8, [.sc .nilFunc]⟩),
  (80, ⟨.other, 1, 8, [.sc .nilFunc]⟩),
  (81, ⟨.int .u64, 1, 8, [.sc (.int .u64 0)]⟩),
  (82, ⟨.slice 3, 1, 24, [.sl 0 [] true]⟩),
  (83, ⟨.other, 1, 8, [.sc .nilFunc]⟩),
  (84, ⟨.other, 1, 8, [.sc .nilFunc]⟩),
  (85, ⟨.other, 1, 8, [.sc .nilFunc]⟩),
  (86, ⟨.struct [(0, 9), (1, 3)], 2, 24, [.sc (.string ⟨#[]⟩), .sc (.int .i64 0)]⟩),
  (87, ⟨.struct [(0, 9), (1, 3)], 2, 24, [.sc (.string ⟨#[]⟩), .sc (.int .i64 0)]⟩),
  (88, ⟨.arr 12 87, 24, 288, [.sc (.string ⟨#[]⟩), .sc (.int .i64 0), .sc (.string ⟨#[]⟩), .sc (.int .i64 0), .sc (.string ⟨#[]⟩), .sc (.int .i64 0), .sc (.string ⟨#[]⟩), .sc (.int .i64 0), .sc (.string ⟨#[]⟩), .sc (.int .i64 0), .sc (.string ⟨#[]⟩), .sc (.int .i64 0), .sc (.string ⟨#[]⟩), .sc (.int .i64 0), .sc (.string ⟨#[]⟩), .sc (.int .i64 0), .sc (.string ⟨#[]⟩), .sc (.int .i64 0), .sc (.string ⟨#[]⟩), .sc (.int .i64 0), .sc (.string ⟨#[]⟩), .sc (.int .i64 0), .sc (.string ⟨#[]⟩), .sc (.int .i64 0)]⟩),
  (89, ⟨.other, 1, 8, [.sc .nilFunc]⟩),
  (90, ⟨.other, 1, 8, [.sc .nilFunc]⟩),
  (96, ⟨.other, 1, 8, [.sc .nilFunc]⟩),
  (97, ⟨.int .u32, 1, 4, [.sc (.int .u32 0)]⟩),
  (100, ⟨.other, 1, 8, [.sc .nilFunc]⟩),
  (101, ⟨.ptr 5, 1, 8, [.sc (.pointer none)]⟩)]

theorem tab_ok : tab.ok Try.prog := Tab.ok_of (by kernel_rfl)
theorem mixed : Try.prog.follows .mixedOrders = true := by kernel_rfl
end Go.Proofs.Ytjchejmakdkioab

set_option linter.unusedVariables false
set_option linter.unusedSimpArgs false
set_option maxRecDepth 100000
set_option maxHeartbeats 4000000
namespace Go.Proofs.Ytjchejmakdkioab
open Go.Sh
instance : Ok Try.prog tab := ⟨tab_ok, mixed⟩
theorem wrap_eq {n : Int} (h1 : -9223372036854775808 ≤ n) (h2 : n ≤ 9223372036854775807) : IntKind.i64.wrap n = n := by
  rw [IntKind.wrap_i64]; omega
theorem wrap_succ {i : Nat} (h : i < 9223372036854775807) : IntKind.i64.wrap ((i : Int) + 1) = ((i + 1 : Nat) : Int) := by
  rw [wrap_eq (by omega) (by omega)]; rfl
theorem ixO_lt {α : Type} {xs : List α} {i : Nat} (h : i < xs.length) : ixO xs (i : Int) = some xs[i] := by
  unfold ixO
  rw [if_pos (by omega), Int.toNat_natCast, List.getElem?_eq_getElem h]
theorem fitO_eq {α : Type} {n b : Nat} {r : Option α} (h : n * b ≤ 140737488355328) : fitO n b r = r := by
  unfold fitO; rw [if_pos h]
theorem reqO_eq {α : Type} {b : Bool} {r : Option α} (h : b = true) : reqO b r = r := by
  subst h; rfl
theorem zero_nat : (0 : Int) = ((0 : Nat) : Int) := rfl
def idxF {α : Type} (f : α → Bool) (l : List α) : Int := match l.findIdx? f with | some i => (i : Int) | none => -1
theorem idxF_any {α : Type} (f : α → Bool) (l : List α) : decide (idxF f l ≥ 0) = l.any f := by
  unfold idxF
  cases h : l.findIdx? f with
  | none =>
    have : l.any f = false := by
      rw [Bool.eq_false_iff]
      intro ha
      obtain ⟨x, hx, hf⟩ := List.any_eq_true.1 ha
      have := List.findIdx?_eq_none_iff.1 h x hx
      rw [hf] at this
      cases this
    rw [this]
    rfl
  | some i =>
    have : l.any f = true := by
      obtain ⟨hlt, hp, _⟩ := List.findIdx?_eq_some_iff_getElem.1 h
      exact List.any_eq_true.2 ⟨l[i], List.getElem_mem hlt, hp⟩
    rw [this]
    simp
theorem findIdx_drop {α : Type} (f : α → Bool) {l : List α} {i : Nat} (h : i < l.length) : (l.drop i).findIdx? f = if f l[i] then some 0 else ((l.drop (i + 1)).findIdx? f).map (· + 1) := by
  rw [List.drop_eq_getElem_cons h, List.findIdx?_cons]
def zipAll {α β : Type} (f : α → β → Bool) : List α → List β → Bool
  | [], [] => true
  | x :: l, y :: r => f x y && zipAll f l r
  | _, _ => false
theorem zipAll_beq {α : Type} [DecidableEq α] : ∀ (l r : List α), zipAll (fun x y => x == y) l r = (l == r)
  | [], [] => rfl
  | x :: l, y :: r => by
      rw [zipAll, zipAll_beq l r]
      rfl
  | [], _ :: _ => rfl
  | _ :: _, [] => rfl
theorem zipAll_len {α β : Type} {f : α → β → Bool} : ∀ {l : List α} {r : List β}, zipAll f l r = true → l.length = r.length
  | [], [], _ => rfl
  | x :: l, y :: r, h => by
      rw [zipAll, Bool.and_eq_true] at h
      rw [List.length_cons, List.length_cons, zipAll_len h.2]
  | [], _ :: _, h => by cases h
  | _ :: _, [], h => by cases h
/-- two lists side by side -/
theorem cmp_loop {α β ε ρ : Type} {e : ε} {v : ρ} (L : List α → Nat → Option (Sum ε ρ)) (s2 : List β) (f : α → β → Bool) (h0 : ∀ i, L [] i = some (.inl e)) (h1 : ∀ x rest i, L (x :: rest) i = (ixO s2 ((i : Nat) : Int)).bind fun x1 => bif (!(f x x1)) then some (.inr v) else L rest (i + 1)) :
    ∀ (l : List α) (i : Nat), l.length + i = s2.length → L l i = some (if zipAll f l (s2.drop i) then .inl e else .inr v)
  | [], i, q => by
      rw [h0, List.drop_eq_nil_of_le (by simp at q; omega)]
      rfl
  | x :: l, i, q => by
      have hlt : i < s2.length := by simp at q; omega
      rw [h1, ixO_lt hlt, Option.bind_some, cmp_loop L s2 f h0 h1 l (i + 1) (by simp at q; omega), List.drop_eq_getElem_cons hlt, zipAll]
      cases f x s2[i]
      · rfl
      · simp only [Bool.not_true, cond_false, Bool.true_and]
theorem len_bne {α β : Type} (f : α → AV) (g : β → AV) (a : List α) (b : List β) : ((((List.map f a).length : Nat) : Int) != (((List.map g b).length : Nat) : Int)) = !decide (a.length = b.length) := by
  rw [List.length_map, List.length_map]
  by_cases h : a.length = b.length
  · rw [h]; simp
  · simp [h]; omega
theorem nil_app {α : Type} (l : List α) : ([] : List α) ++ l = l := rfl
theorem zipAll_refl {α : Type} {f : α → α → Bool} : ∀ {l : List α}, (∀ x ∈ l, f x x = true) → zipAll f l l = true
  | [], _ => rfl
  | x :: l, h => by
      rw [zipAll, h x (by simp), zipAll_refl fun y hy => h y (by simp [hy])]
      rfl

/-! ### The fields' sizes -/
def sizes : List Int := [16, 48, 48, 16, 12, 4, 32, 32, 8, 8, 12, 12]
def sizeT (n : Int) : Int := if 0 ≤ n ∧ n < 12 then sizes.getD n.toNat 0 else 0
theorem sizeT_cases (n : Int) : (¬ (0 ≤ n ∧ n < 12) ∧ sizeT n = 0) ∨ (0 ≤ n ∧ n < 12 ∧ ∃ k : Nat, n = k ∧ k < 12 ∧ sizeT n = sizes.getD k 0) := by
  by_cases h : 0 ≤ n ∧ n < 12
  · refine .inr ⟨h.1, h.2, n.toNat, by omega, by omega, ?_⟩
    unfold sizeT; rw [if_pos h]
  · refine .inl ⟨h, ?_⟩
    unfold sizeT; rw [if_neg h]
theorem sizes_in : ∀ k : Nat, 0 ≤ sizes.getD k 0 ∧ sizes.getD k 0 ≤ 48
  | 0 | 1 | 2 | 3 | 4 | 5 | 6 | 7 | 8 | 9 | 10 | 11 => by decide
  | n + 12 => by
    have : sizes.getD (n + 12) 0 = 0 := rfl
    rw [this]; decide
theorem sizeT_in (n : Int) : 0 ≤ sizeT n ∧ sizeT n ≤ 48 := by
  unfold sizeT
  split
  · exact sizes_in _
  · decide
/-- a number fits a field -/
def fitsT (n v : Int) : Bool := decide (v < 2 ^ (sizeT n).toNat)
theorem pow_le48 {k : Nat} (h : k ≤ 48) : (2 : Int) ^ k ≤ 281474976710656 := by
  have : (2 : Nat) ^ k ≤ 2 ^ 48 := Nat.pow_le_pow_right (by omega) h
  have e : ((2 ^ k : Nat) : Int) = (2 : Int) ^ k := by push_cast; rfl
  rw [← e]
  omega
theorem pow_pos2 (k : Nat) : (0 : Int) < (2 : Int) ^ k := Int.pow_pos (by decide)
theorem wrapU_eq {n : Int} (h1 : 0 ≤ n) (h2 : n < 18446744073709551616) : IntKind.u64.wrap n = n := by
  unfold IntKind.wrap
  simp only [IntKind.signed, IntKind.bits, Bool.false_and, Bool.false_eq_true, if_false]
  omega

structure Act where
  Kind : Int
  Port : Int
  Field : Int
  Value : Int
  deriving DecidableEq, Inhabited
def Act.ch (r : Act) : List AV := [.sc (.int .i64 r.Kind), .sc (.int .i64 r.Port), .sc (.int .i64 r.Field), .sc (.int .u64 r.Value)]
def Act.av (r : Act) : AV := .agg [.sc (.int .i64 r.Kind), .sc (.int .i64 r.Port), .sc (.int .i64 r.Field), .sc (.int .u64 r.Value)]
structure Cube where
  Value : List Int
  Care : List Int
  deriving DecidableEq, Inhabited
def Cube.ch (r : Cube) : List AV := [.arr .u64 12 r.Value, .arr .u64 12 r.Care]
def Cube.av (r : Cube) : AV := .agg [.arr .u64 12 r.Value, .arr .u64 12 r.Care]
structure Rule where
  Match : Cube
  Prio : Int
  Acts : List Act
  Idle : Int
  Hard : Int
  Owner : Int
  Hits : Int
  Quiet : Int
  Age : Int
  deriving DecidableEq, Inhabited
def Rule.ch (r : Rule) : List AV := [.arr .u64 12 r.Match.Value, .arr .u64 12 r.Match.Care, .sc (.int .i64 r.Prio), .sl 53 (List.map Act.av r.Acts) false, .sc (.int .i64 r.Idle), .sc (.int .i64 r.Hard), .sc (.int .i64 r.Owner), .sc (.int .i64 r.Hits), .sc (.int .i64 r.Quiet), .sc (.int .i64 r.Age)]
def Rule.av (r : Rule) : AV := .agg [.arr .u64 12 r.Match.Value, .arr .u64 12 r.Match.Care, .sc (.int .i64 r.Prio), .sl 53 (List.map Act.av r.Acts) false, .sc (.int .i64 r.Idle), .sc (.int .i64 r.Hard), .sc (.int .i64 r.Owner), .sc (.int .i64 r.Hits), .sc (.int .i64 r.Quiet), .sc (.int .i64 r.Age)]

end Go.Proofs.Ytjchejmakdkioab

set_option linter.unusedVariables false
set_option linter.unusedSimpArgs false
set_option maxRecDepth 100000
set_option maxHeartbeats 4000000
namespace Go.Proofs.Ytjchejmakdkioab
open Go.Sh
noncomputable def slices_Clone__api_Act_F : Go.Sh.Fn := ⟨48, bodyOf Try.f48, 8⟩
theorem slices_Clone__api_Act_calls (s : List Act) (f_s : Bool) : ACalls Try.prog tab.S 48 [.sl 53 (List.map Act.av s) f_s] [] (.sl 53 (List.map Act.av s) false) [] := by
  have hG := tab_ok
  have hm := mixed
  have hE : Ent Try.prog 48 := ent_of Try.func48 (by kernel_rfl) (by kernel_rfl)
  cases s with
  | nil =>
    refine ACalls.empty hE fun p c => ?_
    refine ACalls.of_AR (G := tab) slices_Clone__api_Act_F (fn := Try.f48) Try.func48 (by kernel_rfl) (by kernel_rfl) (by kernel_rfl) (Nat.le_of_ble_eq_true (by kernel_rfl)) ?_
    intro c0 hc0
    replace hc0 : c0.m.length = 0 := hc0
    refine AR.seg hG hm 4 [0] (k' := [.code [1, 0, 0], .code [1, 0, 1], .code [1, 1]]) (t' := [(0, .sc (.slice p 0 c))]) (h' := []) (by kernel_rfl) ?_
    refine AR.reg hm [.pure, .pure] (by kernel_rfl) ?_
    refine DK.seg hG 1 [0, 3] (t' := [(0, .sc (.slice p 0 c)), (3, .sc (.slice p 0 c))]) (h' := []) (by kernel_rfl) rfl ?_
    refine DK.op' [0, 4] (t' := [(0, .sc (.slice p 0 c)), (4, .sc (.bool p.isNone))]) (h' := []) (LSpec.nilEq hG (p := p) (l := 0) (c := c) (by kernel_rfl)) (by kernel_rfl) rfl (by kernel_rfl) rfl ?_
    refine DK.done (by kernel_rfl) (by kernel_rfl) ?_
    refine AR.cond (.tmp 4) p.isNone (by kernel_rfl) (by kernel_rfl) (fun hb => ?ht) (fun hb => ?hf)
    case ht =>
      refine AR.seg hG hm 2 [2] (k' := [.code [1, 0, 1, 0, 1], .code [1, 1]]) (t' := [(2, .sl 0 [] true)]) (h' := []) (by kernel_rfl) ?_
      exact AR.ret0 (fn := Try.f48) hG Try.func48 (by kernel_rfl) hc0 (r0 := .sl 0 [] true) (by kernel_rfl) (WkV.sl (Wk1.nil 53 false))
    case hf =>
      refine AR.seg hG hm 2 [0] (k' := [.code [1, 1, 0], .code [1, 1, 1]]) (t' := [(0, .sc (.slice p 0 c))]) (h' := []) (by kernel_rfl) ?_
      refine AR.reg hm [.pure, .pure, .pure, .pure] (by kernel_rfl) ?_
      refine DK.seg hG 2 [5, 6] (t' := [(5, .sl 53 [] true), (6, .sc (.slice p 0 c))]) (h' := []) (by kernel_rfl) rfl ?_
      refine DK.op' [7] (t' := [(7, .sl 53 [] true)]) (h' := []) (LSpec.app0 hG (e0 := 53) (rows := []) (f := true) (by kernel_rfl)) (by kernel_rfl) rfl (by kernel_rfl) rfl ?_
      refine DK.seg hG 1 [2] (t' := [(2, .sl 53 [] true)]) (h' := []) (by kernel_rfl) rfl ?_
      refine DK.done (by kernel_rfl) (by kernel_rfl) ?_
      exact AR.ret0 (fn := Try.f48) hG Try.func48 (by kernel_rfl) hc0 (r0 := .sl 53 [] true) (by kernel_rfl) (WkV.sl (Wk1.nil 53 false))
  | cons x xs =>
    refine ACalls.facts hE fun hf => ?_
    have hfit : (([] : List Act).length + (x :: xs).length) * 32 ≤ reach := by
      have h1 : (List.map Act.av (x :: xs)).length * 32 ≤ reach := hf.1.1
      simpa using h1
    refine ACalls.of_AR (G := tab) slices_Clone__api_Act_F (fn := Try.f48) Try.func48 (by kernel_rfl) (by kernel_rfl) (by kernel_rfl) (Nat.le_of_ble_eq_true (by kernel_rfl)) ?_
    intro c0 hc0
    replace hc0 : c0.m.length = 0 := hc0
    refine AR.seg hG hm 4 [0] (k' := [.code [1, 0, 0], .code [1, 0, 1], .code [1, 1]]) (t' := [(0, .sl 53 (List.map Act.av (x :: xs)) f_s)]) (h' := []) (by kernel_rfl) ?_
    refine AR.reg hm [.pure, .pure] (by kernel_rfl) ?_
    refine DK.seg hG 1 [0, 3] (t' := [(0, .sl 53 (List.map Act.av (x :: xs)) f_s), (3, .sl 53 (List.map Act.av (x :: xs)) f_s)]) (h' := []) (by kernel_rfl) rfl ?_
    refine DK.op' [0, 4] (t' := [(0, .sl 53 (List.map Act.av (x :: xs)) f_s), (4, .sc (.bool false))]) (h' := []) (LSpec.neNil hG (by kernel_rfl)) (by kernel_rfl) rfl (by kernel_rfl) rfl ?_
    refine DK.done (by kernel_rfl) (by kernel_rfl) ?_
    refine AR.seg hG hm 3 [0] (k' := [.code [1, 1, 0], .code [1, 1, 1]]) (t' := [(0, .sl 53 (List.map Act.av (x :: xs)) f_s)]) (h' := []) (by kernel_rfl) ?_
    refine AR.reg hm [.pure, .pure, .loud, .pure] (by kernel_rfl) ?_
    refine DK.seg hG 2 [5, 6] (t' := [(5, .sl 53 [] true), (6, .sl 53 (List.map Act.av (x :: xs)) f_s)]) (h' := []) (by kernel_rfl) rfl ?_
    refine DK.op' [7] (t' := [(7, .own 0 1)]) (h' := [.row 53 (List.map Act.av ([] ++ (x :: xs))) 1 true]) (LSpec.appendN hG Act.av [] (x :: xs) 53 32 hfit (by kernel_rfl)) (by kernel_rfl) (by kernel_rfl) (by kernel_rfl) rfl ?_
    refine DK.seg hG 1 [2] (t' := [(2, .own 0 1)]) (h' := [.row 53 (List.map Act.av ([] ++ (x :: xs))) 1 true]) (by kernel_rfl) rfl ?_
    refine DK.done (by kernel_rfl) (by kernel_rfl) ?_
    exact AR.ret0 (fn := Try.f48) hG Try.func48 (by kernel_rfl) hc0 (r0 := .sl 53 (List.map Act.av (x :: xs)) false) (by kernel_rfl) (WkV.refl _)

/-! ### slices.Clip: function 47 -/
noncomputable def slices_Clip__api_Act_F : Go.Sh.Fn := ⟨47, bodyOf Try.f47, 9⟩
def slices_Clip__api_Act_raw (s : List Act) : Option ((List Act)) :=
  (sliceO s none (some (((List.map Act.av s).length : Nat) : Int)) (some (((List.map Act.av s).length : Nat) : Int))).bind fun x =>
  some x
theorem slices_Clip__api_Act_walk (s : List Act) (f_s : Bool) (r : (List Act)) (H : slices_Clip__api_Act_raw s = some r) : ACalls Try.prog tab.S 47 [.sl 53 (List.map Act.av s) f_s] [] (.sl 53 (List.map Act.av r) true) [] := by
  refine .of_AX slices_Clip__api_Act_F Try.func47 fun c0 hc0 => ?_
  rw [slices_Clip__api_Act_raw] at H
  refine .sg 3 [0] (.rg (.sg 5 [3,5,7] (bndO H fun x hv H => (.so [8] Act.av hv (.sg 1 [2] (.dn ?_))))))
  obtain rfl := Option.some.inj H
  exact .ret Try.func47 hc0

theorem slices_Clip__api_Act_calls (s : List Act) (f_s : Bool) : ACalls Try.prog tab.S 47 [.sl 53 (List.map Act.av s) f_s] [] (.sl 53 (List.map Act.av s) true) [] :=
  slices_Clip__api_Act_walk s f_s s (by simp [slices_Clip__api_Act_raw, sliceO])

/-! ### slices.Clip: function 43 -/
noncomputable def slices_Clip__api_Rule_F : Go.Sh.Fn := ⟨43, bodyOf Try.f43, 9⟩
def slices_Clip__api_Rule_raw (s : List Rule) : Option ((List Rule)) :=
  (sliceO s none (some (((List.map Rule.av s).length : Nat) : Int)) (some (((List.map Rule.av s).length : Nat) : Int))).bind fun x =>
  some x
theorem slices_Clip__api_Rule_walk (s : List Rule) (f_s : Bool) (r : (List Rule)) (H : slices_Clip__api_Rule_raw s = some r) : ACalls Try.prog tab.S 43 [.sl 48 (List.map Rule.av s) f_s] [] (.sl 48 (List.map Rule.av r) true) [] := by
  refine .of_AX slices_Clip__api_Rule_F Try.func43 fun c0 hc0 => ?_
  rw [slices_Clip__api_Rule_raw] at H
  refine .sg 3 [0] (.rg (.sg 5 [3,5,7] (bndO H fun x hv H => (.so [8] Rule.av hv (.sg 1 [2] (.dn ?_))))))
  obtain rfl := Option.some.inj H
  exact .ret Try.func43 hc0

theorem slices_Clip__api_Rule_calls (s : List Rule) (f_s : Bool) : ACalls Try.prog tab.S 43 [.sl 48 (List.map Rule.av s) f_s] [] (.sl 48 (List.map Rule.av s) true) [] :=
  slices_Clip__api_Rule_walk s f_s s (by simp [slices_Clip__api_Rule_raw, sliceO])

theorem slices_Clip__api_Rule_own (s : List Rule) : ACalls Try.prog tab.S 43 [.own 0 2000000] [.row 48 (List.map Rule.av s) 2000000 true] (.own 0 2000000) [.row 48 (List.map Rule.av s) 2000000 true] := by
  refine .of_AX slices_Clip__api_Rule_F Try.func43 fun c0 hc0 => ?_
  have hv : sliceO s none (some (((List.map Rule.av s).length : Nat) : Int)) (some (((List.map Rule.av s).length : Nat) : Int)) = some s := by simp [sliceO]
  exact .sg 3 [0] (.rg (.sg 5 [3,5,7] (.rst [8] Rule.av hv (.sg 1 [2] (.dn (.ret Try.func43 hc0 [0]))))))

/-! ### rule.copied: function 42 -/
noncomputable def rule_copied_F : Go.Sh.Fn := ⟨42, bodyOf Try.f42, 9⟩
def rule_copied (r2 : Rule) : Rule :=
  r2
theorem rule_copied_calls (r2 : Rule) : ACalls Try.prog tab.S 42 [Rule.av r2] [] (Rule.av (rule_copied r2)) [] := by
  generalize H : rule_copied r2 = r
  refine .of_AX rule_copied_F Try.func42 fun c0 hc0 => ?_
  rw [rule_copied] at H
  refine .sg 3 [1,2] (.rg (.sg 2 [1,2,4] (.cp [1,2,5] (slices_Clone__api_Act_calls r2.Acts false) (.cp [1,2,6] (slices_Clip__api_Act_calls r2.Acts false) (.sg 2 [1,2] (.dn (.sg 2 [2] ?_)))))))
  subst H
  exact .ret Try.func42 hc0 [] [(0, false)]

end Go.Proofs.Ytjchejmakdkioab

set_option linter.unusedVariables false
set_option linter.unusedSimpArgs false
set_option maxRecDepth 100000
set_option maxHeartbeats 4000000
namespace Go.Proofs.Ytjchejmakdkioab
open Go.Sh
/-! ### rule.Copy: function 31 -/
noncomputable def rule_Copy_F : Go.Sh.Fn := ⟨31, bodyOf Try.f31, 20⟩
def rule_Copy_l0s : List Rule → List Rule → Option ((List Rule))
  | [], out =>
    some out
  | x :: rest, out =>
    fitO (out.length + [(rule_copied x)].length) 272 (
    rule_Copy_l0s rest (out ++ [(rule_copied x)]))
theorem rule_Copy_l0_walk (list : List Rule) (f_list : Bool) (r : (List Rule)) (c0 : Ctx) (hc0 : c0.m.length = 0) (res : (List Rule)) (J : AX Try.prog tab rule_Copy_F c0 (Rp tab.S c0 (.own 0 2000000) [.row 48 (List.map Rule.av r) 2000000 true]) (some ⟨[.code [1, 1, 1]], [(3, .own 0 2000000)], [.row 48 (List.map Rule.av res) 2000000 true]⟩)) :
    ∀ (rest : List Rule) (t8 : Nat) (z : Int) (hI : z = ((t8 : Nat) : Int)) (hd : list.drop t8 = rest) (out : List Rule) (H : rule_Copy_l0s rest out = some res), AX Try.prog tab rule_Copy_F c0 (Rp tab.S c0 (.own 0 2000000) [.row 48 (List.map Rule.av r) 2000000 true]) (some ⟨[.code [1, 1, 0, 1, 0, 0], .loop [1, 1, 0, 1, 0], .blk 0, .code [1, 1, 1]], [(3, .own 0 2000000), (6, .sl 48 (List.map Rule.av list) f_list), (7, .sc (.int .i64 (((List.map Rule.av list).length : Nat) : Int))), (8, .sc (.int .i64 z))], [.row 48 (List.map Rule.av out) 2000000 true]⟩) := by
  intro rest
  induction rest with
  | nil =>
    intro t8 z hI hd out H
    subst hI
    rw [rule_Copy_l0s] at H
    refine .facts 6 fun hf => ?_
    have hlen : list.length ≤ 9223372036854775807 := by have hq := len_ok hf.2.1; rw [List.length_map] at hq; exact hq
    have hge : list.length ≤ t8 := List.drop_eq_nil_iff.1 hd
    have hc : (decide (((t8 : Nat) : Int) < (((List.map Rule.av list).length : Nat) : Int))) = false := by rw [List.length_map]; exact decide_eq_false (by omega)
    refine .sg 3 [3,6,7,8,9] (.cdF hc (.sg 1 [3] (.kp [3] ?_)))
    obtain rfl := Option.some.inj H
    exact .to J
  | cons x rest ih =>
    intro t8 z hI hd out H
    subst hI
    rw [rule_Copy_l0s] at H
    refine .facts 6 fun hf => ?_
    have hlen : list.length ≤ 9223372036854775807 := by have hq := len_ok hf.2.1; rw [List.length_map] at hq; exact hq
    obtain ⟨hlt, hv_t8, hd2⟩ := drop_cons hd
    have hc : (decide (((t8 : Nat) : Int) < (((List.map Rule.av list).length : Nat) : Int))) = true := by rw [List.length_map]; exact decide_eq_true (by omega)
    have hw : IntKind.i64.wrap (((t8 : Nat) : Int) + 1) = ((t8 + 1 : Nat) : Int) := wrapI_succ (by omega)
    exact .sg 3 [3,6,7,8,9] (.cdT hc (.sg 4 [3,6,7,8] (.rg (.xi [3,6,7,8,10] Rule.av hv_t8 (.sg 3 [3,5,6,7,8] (.dn (.rg (.sg 2 [6,7,8,12,13] (.cp [6,7,8,12,14] (rule_copied_calls x) (.sg 1 [6,7,8,12,15] (fitH H fun hfit H => (.ap [6,7,8,16] Rule.av hfit (.sg 1 [3,6,7,8] (.dn (.sg 2 [3,6,7,8] (.tl hc0 [0] [3,6,7,8] (.into (.cl (ih (t8 + 1) _ hw hd2 (out ++ [(rule_copied x)]) H)))))))))))))))))))

def rule_Copy_raw (list : List Rule) : Option ((List Rule)) :=
  (rule_Copy_l0s list ([] : List Rule)).bind fun v =>
  some v
theorem rule_Copy_walk (list : List Rule) (f_list : Bool) (r : (List Rule)) (H : rule_Copy_raw list = some r) : ACalls Try.prog tab.S 31 [.sl 48 (List.map Rule.av list) f_list] [] (.own 0 2000000) [.row 48 (List.map Rule.av r) 2000000 true] := by
  refine .of_AX rule_Copy_F Try.func31 fun c0 hc0 => ?_
  rw [rule_Copy_raw] at H
  refine .sg 8 [3,6,7,8] (.ad 3 48 true (.nm 0 2000000 hc0 (.kp [3,6,7,8] ?_)))
  refine bndO H fun v hv H => (.into (.to (rule_Copy_l0_walk list f_list r c0 hc0 v ?_ list 0 _ rfl rfl ([] : List Rule) hv)))
  refine .sg 1 [3] (.rg (.sg 1 [18] (.cog [19] (o := 0) (k := 2000000) (slices_Clip__api_Rule_own v) (.sg 1 [2] (.dn ?_)))))
  obtain rfl := Option.some.inj H
  exact .ret Try.func31 hc0 [0]

theorem copied_eq (x : Rule) : rule_copied x = x := rfl
theorem rule_Copy_l0s_eq : ∀ (l out : List Rule), (out.length + l.length) * 272 ≤ 140737488355328 → rule_Copy_l0s l out = some (out ++ l)
  | [], out, _ => by rw [rule_Copy_l0s, List.append_nil]
  | x :: l, out, h => by
      rw [List.length_cons] at h
      rw [rule_Copy_l0s, fitO_eq (by rw [List.length_cons, List.length_nil]; omega), rule_Copy_l0s_eq l (out ++ [rule_copied x]) (by rw [List.length_append, List.length_cons, List.length_nil]; omega), copied_eq, List.append_assoc]
      rfl
def copyO (l : List Rule) : Option (List Rule) := if l.length * 272 ≤ 140737488355328 then some l else none
theorem rule_Copy_eq (l r : List Rule) (H : copyO l = some r) : rule_Copy_raw l = some r := by
  unfold copyO at H
  split at H
  · rename_i h
    injection H with H
    subst H
    rw [rule_Copy_raw, rule_Copy_l0s_eq l [] (by rw [List.length_nil, Nat.zero_add]; exact h)]
    rfl
  · cases H

theorem rule_Copy_ok (list : List Rule) (f_list : Bool) (r : (List Rule)) (H : copyO list = some r) : ACalls Try.prog tab.S 31 [.sl 48 (List.map Rule.av list) f_list] [] (.own 0 2000000) [.row 48 (List.map Rule.av r) 2000000 true] :=
 rule_Copy_walk list f_list r (rule_Copy_eq list r H)
/-! ### lapse.more: function 32 -/
noncomputable def lapse_more_F : Go.Sh.Fn := ⟨32, bodyOf Try.f32, 14⟩
def lapse_more (a : Int) (n : Int) : Int :=
  (bif (decide (a ≥ (IntKind.i64.wrap (4611686018427387904 - n)))) then
    (if 4611686018427387904 > a then 4611686018427387904 else a)
  else
    (IntKind.i64.wrap (a + n)))
theorem lapse_more_calls (a : Int) (n : Int) : ACalls Try.prog tab.S 32 [.sc (.int .i64 a), .sc (.int .i64 n)] [] (.sc (.int .i64 (lapse_more a n))) [] := by
  generalize H : lapse_more a n = r
  refine .of_AX lapse_more_F Try.func32 fun c0 hc0 => ?_
  rw [lapse_more] at H
  refine .sg 5 [0,1,8] (.cd (decide (a ≥ (IntKind.i64.wrap (4611686018427387904 - n)))) H (fun hb H => ?_) (fun hb H => ?_))
  ·
    refine .sg 2 [4] ?_
    subst H
    exact .ret Try.func32 hc0
  ·
    refine .sg 3 [4] ?_
    subst H
    exact .ret Try.func32 hc0

/-! ### lapse.over: function 35 -/
noncomputable def lapse_over_F : Go.Sh.Fn := ⟨35, bodyOf Try.f35, 25⟩
def lapse_over (r2 : Rule) : Bool :=
  (((decide (r2.Hard > 0)) && (decide (r2.Age ≥ r2.Hard))) || ((decide (r2.Idle > 0)) && (decide (r2.Quiet ≥ r2.Idle))))
theorem lapse_over_calls (r2 : Rule) : ACalls Try.prog tab.S 35 [Rule.av r2] [] (.sc (.bool (lapse_over r2))) [] := by
  generalize H : lapse_over r2 = r
  refine .of_AX lapse_over_F Try.func35 fun c0 hc0 => ?_
  rw [lapse_over] at H
  refine .sg 3 [1] (.rg (.sg 4 [1,6] (.mx 0 [1,12] (.sg 1 [1,13] (.mm 13 ((decide (r2.Hard > 0)) && (decide (r2.Age ≥ r2.Hard))) 11 [.pure, .pure, .pure, .read, .pure, .read, .pure, .pure, .pure, .read, .pure] [24] 24 (fun z => .sc (.bool (z || ((decide (r2.Idle > 0)) && (decide (r2.Quiet ≥ r2.Idle)))))) ?J3 (fun hb J => ?ht3) (fun hb J => ?hf3))))))
  case ht3 =>
    exact .sg 11 [24] (.cl J)
  case hf3 =>
    exact .sg 4 [1,13,17] (.mx 0 [13,23] (.sg 1 [24] (.cl J)))
  refine .sg 1 [2] (.dn ?_)
  subst H
  exact .ret Try.func35 hc0

/-! ### lapse.Tick: function 20 -/
noncomputable def lapse_Tick_F : Go.Sh.Fn := ⟨20, bodyOf Try.f20, 41⟩
def lapse_Tick_l0s (n1 : Int) : List Rule → List Rule → List Rule → Option ((List Rule) × (List Rule))
  | [], gone, left =>
    some (gone, left)
  | x :: rest, gone, left =>
    (bif (lapse_over ({ x with Quiet := (lapse_more x.Quiet n1), Age := (lapse_more x.Age n1) } : Rule)) then
      fitO (gone.length + [({ x with Quiet := (lapse_more x.Quiet n1), Age := (lapse_more x.Age n1) } : Rule)].length) 272 (
      lapse_Tick_l0s n1 rest (gone ++ [({ x with Quiet := (lapse_more x.Quiet n1), Age := (lapse_more x.Age n1) } : Rule)]) left)
    else
      fitO (left.length + [({ x with Quiet := (lapse_more x.Quiet n1), Age := (lapse_more x.Age n1) } : Rule)].length) 272 (
      lapse_Tick_l0s n1 rest gone (left ++ [({ x with Quiet := (lapse_more x.Quiet n1), Age := (lapse_more x.Age n1) } : Rule)])))
theorem lapse_Tick_l0_walk (list : List Rule) (n : Int) (v : (List Rule)) (n1 : Int) (f_list : Bool) (r : (List Rule) × (List Rule)) (c0 : Ctx) (hc0 : c0.m.length = 0) (res : (List Rule) × (List Rule)) (J : AX Try.prog tab lapse_Tick_F c0 (Rp tab.S c0 (.tup [.sl 48 (List.map Rule.av r.1) false, .sl 48 (List.map Rule.av r.2) false]) []) (some ⟨[.code [1, 1, 1]], [(4, .own 2 1000000), (5, .own 1 1000000)], [.row 48 (List.map Rule.av v) 2000000 true, .row 48 (List.map Rule.av res.1) 1000000 true, .row 48 (List.map Rule.av res.2) 1000000 true]⟩)) :
    ∀ (rest : List Rule) (t14 : Nat) (z : Int) (hI : z = ((t14 : Nat) : Int)) (hd : v.drop t14 = rest) (gone : List Rule) (left : List Rule) (H : lapse_Tick_l0s n1 rest gone left = some res), AX Try.prog tab lapse_Tick_F c0 (Rp tab.S c0 (.tup [.sl 48 (List.map Rule.av r.1) false, .sl 48 (List.map Rule.av r.2) false]) []) (some ⟨[.code [1, 1, 0, 1, 0, 0], .loop [1, 1, 0, 1, 0], .blk 0, .code [1, 1, 1]], [(1, .sc (.int .i64 n1)), (4, .own 2 1000000), (5, .own 1 1000000), (12, .own 0 2000000), (13, .sc (.int .i64 (((List.map Rule.av v).length : Nat) : Int))), (14, .sc (.int .i64 z))], [.row 48 (List.map Rule.av v) 2000000 true, .row 48 (List.map Rule.av gone) 1000000 true, .row 48 (List.map Rule.av left) 1000000 true]⟩) := by
  intro rest
  induction rest with
  | nil =>
    intro t14 z hI hd gone left H
    subst hI
    rw [lapse_Tick_l0s] at H
    refine .factsH 0 rfl fun hf => ?_
    have hlen : v.length ≤ 9223372036854775807 := by have hq := len_ok2 hf (of_decide_eq_true (by kernel_rfl)); rw [List.length_map] at hq; exact hq
    have hge : v.length ≤ t14 := List.drop_eq_nil_iff.1 hd
    have hc : (decide (((t14 : Nat) : Int) < (((List.map Rule.av v).length : Nat) : Int))) = false := by rw [List.length_map]; exact decide_eq_false (by omega)
    refine .sg 3 [1,4,5,12,13,14,15] (.cdF hc (.sg 1 [4,5] (.kp [4,5] ?_)))
    obtain rfl := Option.some.inj H
    exact .to J
  | cons x rest ih =>
    intro t14 z hI hd gone left H
    subst hI
    rw [lapse_Tick_l0s] at H
    refine .factsH 0 rfl fun hf => ?_
    have hlen : v.length ≤ 9223372036854775807 := by have hq := len_ok2 hf (of_decide_eq_true (by kernel_rfl)); rw [List.length_map] at hq; exact hq
    obtain ⟨hlt, hv_t14, hd2⟩ := drop_cons hd
    have hc : (decide (((t14 : Nat) : Int) < (((List.map Rule.av v).length : Nat) : Int))) = true := by rw [List.length_map]; exact decide_eq_true (by omega)
    have hw : IntKind.i64.wrap (((t14 : Nat) : Int) + 1) = ((t14 + 1 : Nat) : Int) := wrapI_succ (by omega)
    refine .sg 3 [1,4,5,12,13,14,15] (.cdT hc (.sg 4 [1,4,5,12,13,14] (.rg (.xo [1,4,5,12,13,14,16] (ixO_req hv_t14 Rule.av) (.lo [1,4,5,12,13,14,17] (ixO_map hv_t14 Rule.av).2 (.sg 2 [1,4,5,7,12,13,14] (.dn (.sg 1 [1,4,5,7,12,13,14] (.rg (.sg 3 [1,4,5,7,12,13,14,19,20] (.cp [1,4,5,7,12,13,14,21] (lapse_more_calls x.Age n1) (.sg 3 [1,4,5,7,12,13,14,21,23,24] (.cp [1,4,5,7,12,13,14,21,25] (lapse_more_calls x.Quiet n1) (.sg 4 [1,4,5,7,12,13,14] (.dn (.sg 2 [1,4,5,7,12,13,14] (.rg (.sg 1 [1,4,5,7,12,13,14,28] (.cp [1,4,5,7,12,13,14,29] (lapse_over_calls ({ x with Quiet := (lapse_more x.Quiet n1), Age := (lapse_more x.Age n1) } : Rule)) (.dn (.cd (lapse_over ({ x with Quiet := (lapse_more x.Quiet n1), Age := (lapse_more x.Age n1) } : Rule)) H (fun hb H => ?_) (fun hb H => ?_))))))))))))))))))))))
    ·
      exact .sg 1 [1,4,5,7,12,13,14] (.rg (.sg 3 [1,4,12,13,14,30,32] (fitH H fun hfit H => (.ap [1,4,12,13,14,33] Rule.av hfit (.sg 1 [1,4,5,12,13,14] (.dn (.sg 2 [1,4,5,12,13,14] (.tl hc0 [0,1,2] [1,4,5,12,13,14] (.into (.cl (ih (t14 + 1) _ hw hd2 (gone ++ [({ x with Quiet := (lapse_more x.Quiet n1), Age := (lapse_more x.Age n1) } : Rule)]) left H)))))))))))
    ·
      exact .sg 1 [1,4,5,7,12,13,14] (.rg (.sg 3 [1,5,12,13,14,34,36] (fitH H fun hfit H => (.ap [1,5,12,13,14,37] Rule.av hfit (.sg 1 [1,4,5,12,13,14] (.dn (.sg 2 [1,4,5,12,13,14] (.tl hc0 [0,1,2] [1,4,5,12,13,14] (.into (.cl (ih (t14 + 1) _ hw hd2 gone (left ++ [({ x with Quiet := (lapse_more x.Quiet n1), Age := (lapse_more x.Age n1) } : Rule)]) H)))))))))))

def lapse_Tick_raw (list : List Rule) (n : Int) : Option ((List Rule) × (List Rule)) :=
  (copyO list).bind fun v =>
  (lapse_Tick_l0s (if 1048576 < (if 0 > n then 0 else n) then 1048576 else (if 0 > n then 0 else n)) v ([] : List Rule) ([] : List Rule)).bind fun v1 =>
  some (v1.2, v1.1)
theorem lapse_Tick_walk (list : List Rule) (n : Int) (f_list : Bool) (r : (List Rule) × (List Rule)) (H : lapse_Tick_raw list n = some r) : ACalls Try.prog tab.S 20 [.sl 48 (List.map Rule.av list) f_list, .sc (.int .i64 n)] [] (.tup [.sl 48 (List.map Rule.av r.1) false, .sl 48 (List.map Rule.av r.2) false]) [] := by
  refine .of_AX lapse_Tick_F Try.func20 fun c0 hc0 => ?_
  rw [lapse_Tick_raw] at H
  refine .sg 6 [0,1,4,5] (.rg (.sg 1 [1,4,5,11] (bndO H fun v hv H => (.ch [1,4,5,12] [] (rule_Copy_ok list f_list v hv) (.sg 2 [1,4,5,12,13,14] (.dn (.sg 1 [1,4,5,12,13,14] (.ad 5 48 true (.kp [1,4,5,12,13,14] (.ad 4 48 true (.kp [1,4,5,12,13,14] ?_)))))))))))
  refine bndO H fun v1 hv H => (.into (.to (lapse_Tick_l0_walk list n v (if 1048576 < (if 0 > n then 0 else n) then 1048576 else (if 0 > n then 0 else n)) f_list r c0 hc0 v1 ?_ v 0 _ rfl rfl ([] : List Rule) ([] : List Rule) hv)))
  refine .sg 2 [4,5] ?_
  obtain rfl := Option.some.inj H
  exact .ret Try.func20 hc0

/-! ### lapse.Hit: function 17 -/
noncomputable def lapse_Hit_F : Go.Sh.Fn := ⟨17, bodyOf Try.f17, 32⟩
def lapse_Hit_raw (list : List Rule) (at_ : Int) : Option ((List Rule)) :=
  (copyO list).bind fun v =>
  (bif ((decide (at_ ≥ 0)) && (decide (at_ < (((List.map Rule.av v).length : Nat) : Int)))) then
    (ixO v at_).bind fun x =>
    some ((v.set at_.toNat ({ x with Hits := (lapse_more x.Hits 1) } : Rule)).set at_.toNat ({ Match := ({ x with Hits := (lapse_more x.Hits 1) } : Rule).Match, Prio := ({ x with Hits := (lapse_more x.Hits 1) } : Rule).Prio, Acts := ({ x with Hits := (lapse_more x.Hits 1) } : Rule).Acts, Idle := ({ x with Hits := (lapse_more x.Hits 1) } : Rule).Idle, Hard := ({ x with Hits := (lapse_more x.Hits 1) } : Rule).Hard, Owner := ({ x with Hits := (lapse_more x.Hits 1) } : Rule).Owner, Hits := ({ x with Hits := (lapse_more x.Hits 1) } : Rule).Hits, Quiet := 0, Age := ({ x with Hits := (lapse_more x.Hits 1) } : Rule).Age } : Rule))
  else
    some v)
theorem lapse_Hit_walk (list : List Rule) (at_ : Int) (f_list : Bool) (r : (List Rule)) (H : lapse_Hit_raw list at_ = some r) : ACalls Try.prog tab.S 17 [.sl 48 (List.map Rule.av list) f_list, .sc (.int .i64 at_)] [] (.sl 48 (List.map Rule.av r) false) [] := by
  refine .of_AX lapse_Hit_F Try.func17 fun c0 hc0 => ?_
  rw [lapse_Hit_raw] at H
  refine .sg 3 [0,1] (.rg (.sg 1 [1,7] (bndO H fun v hv H => (.ch [1,8] [] (rule_Copy_ok list f_list v hv) (.sg 1 [1,5] (.dn (.sg 2 [1,5] (.rg (.sg 3 [1,5,11] (.mx 0 [1,5,16] (.dn (.cd ((decide (at_ ≥ 0)) && (decide (at_ < (((List.map Rule.av v).length : Nat) : Int)))) H (fun hb H => ?_) (fun hb H => ?_)))))))))))))
  ·
    refine .sg 1 [1,5] (.rg (.sg 2 [5,17,18] (bndO H fun x hv_x H => (.xo [5,19] (ixO_req hv_x Rule.av) (.sg 1 [5,6] (.dn (.rg (.sg 5 [5,20,21,24] (.lo [5,20,21,25] (ixO_map hv_x Rule.av).2 (.cp [5,20,21,26] (lapse_more_calls x.Hits 1) (.sg 2 [5,21,26,28] (.st [5,21] Rule.av ({ x with Hits := (lapse_more x.Hits 1) } : Rule) (ixO_map hv_x Rule.av).2 (.sg 2 [5,30] (.st [5] Rule.av ({ Match := ({ x with Hits := (lapse_more x.Hits 1) } : Rule).Match, Prio := ({ x with Hits := (lapse_more x.Hits 1) } : Rule).Prio, Acts := ({ x with Hits := (lapse_more x.Hits 1) } : Rule).Acts, Idle := ({ x with Hits := (lapse_more x.Hits 1) } : Rule).Idle, Hard := ({ x with Hits := (lapse_more x.Hits 1) } : Rule).Hard, Owner := ({ x with Hits := (lapse_more x.Hits 1) } : Rule).Owner, Hits := ({ x with Hits := (lapse_more x.Hits 1) } : Rule).Hits, Quiet := 0, Age := ({ x with Hits := (lapse_more x.Hits 1) } : Rule).Age } : Rule) (set_get (ixO_map hv_x Rule.av).2 ({ x with Hits := (lapse_more x.Hits 1) } : Rule)) (.dn (.sg 2 [4] ?_))))))))))))))))
    obtain rfl := Option.some.inj H
    exact .ret Try.func17 hc0
  ·
    refine .sg 3 [4] ?_
    obtain rfl := Option.some.inj H
    exact .ret Try.func17 hc0

end Go.Proofs.Ytjchejmakdkioab

set_option linter.unusedVariables false
set_option linter.unusedSimpArgs false
set_option maxRecDepth 100000
set_option maxHeartbeats 4000000
namespace Go.Proofs.Ytjchejmakdkioab
open Go.Sh
set_option maxRecDepth 100000
open Go.ChangeShapes Go.WideShapes Go.ChangeAt Go.RowKit
def Act.wf (x : Act) : Prop := intW .i64 x.Kind ∧ intW .i64 x.Port ∧ intW .i64 x.Field ∧ intW .u64 x.Value
theorem Act.shaped {gs : List AV} (h : Shaped tab 53 gs) : ∃ x : Act, gs = [.sc (.int .i64 x.Kind), .sc (.int .i64 x.Port), .sc (.int .i64 x.Field), .sc (.int .u64 x.Value)] ∧ x.wf := by
  obtain ⟨gss, rfl, hl, hf⟩ := Shaped.struct_inv (fl := [(0, 3), (1, 3), (2, 3), (3, 41)]) (by kernel_rfl) h
  match gss, hl, hf with
  | [g0, g1, g2, g3], _, hf =>
    obtain ⟨x0, rfl, w0⟩ := Shaped.int_inv (k := .i64) (by kernel_rfl) (hf 0 _ _ rfl rfl)
    obtain ⟨x1, rfl, w1⟩ := Shaped.int_inv (k := .i64) (by kernel_rfl) (hf 1 _ _ rfl rfl)
    obtain ⟨x2, rfl, w2⟩ := Shaped.int_inv (k := .i64) (by kernel_rfl) (hf 2 _ _ rfl rfl)
    obtain ⟨x3, rfl, w3⟩ := Shaped.int_inv (k := .u64) (by kernel_rfl) (hf 3 _ _ rfl rfl)
    exact ⟨⟨x0, x1, x2, x3⟩, rfl, ⟨w0, w1, w2, w3⟩⟩
def Cube.wf (x : Cube) : Prop := arrW .u64 12 x.Value ∧ arrW .u64 12 x.Care
theorem Cube.shaped {gs : List AV} (h : Shaped tab 45 gs) : ∃ x : Cube, gs = [.arr .u64 12 x.Value, .arr .u64 12 x.Care] ∧ x.wf := by
  obtain ⟨gss, rfl, hl, hf⟩ := Shaped.struct_inv (fl := [(0, 43), (12, 43)]) (by kernel_rfl) h
  match gss, hl, hf with
  | [g0, g1], _, hf =>
    obtain ⟨x0, rfl, w0⟩ := Shaped.arr_inv (n := 12) (e := 41) (k := .u64) (by kernel_rfl) (by kernel_rfl) (hf 0 _ _ rfl rfl)
    obtain ⟨x1, rfl, w1⟩ := Shaped.arr_inv (n := 12) (e := 41) (k := .u64) (by kernel_rfl) (by kernel_rfl) (hf 1 _ _ rfl rfl)
    exact ⟨⟨x0, x1⟩, rfl, ⟨w0, w1⟩⟩
def Rule.wf (x : Rule) : Prop := Cube.wf x.Match ∧ intW .i64 x.Prio ∧ (∀ y ∈ x.Acts, Act.wf y) ∧ intW .i64 x.Idle ∧ intW .i64 x.Hard ∧ intW .i64 x.Owner ∧ intW .i64 x.Hits ∧ intW .i64 x.Quiet ∧ intW .i64 x.Age
theorem Rule.shaped {gs : List AV} (h : Shaped tab 48 gs) : ∃ x : Rule, gs = [.arr .u64 12 x.Match.Value, .arr .u64 12 x.Match.Care, .sc (.int .i64 x.Prio), .sl 53 (List.map Act.av x.Acts) false, .sc (.int .i64 x.Idle), .sc (.int .i64 x.Hard), .sc (.int .i64 x.Owner), .sc (.int .i64 x.Hits), .sc (.int .i64 x.Quiet), .sc (.int .i64 x.Age)] ∧ x.wf := by
  obtain ⟨gss, rfl, hl, hf⟩ := Shaped.struct_inv (fl := [(0, 45), (24, 3), (25, 46), (26, 3), (27, 3), (28, 3), (29, 3), (30, 3), (31, 3)]) (by kernel_rfl) h
  match gss, hl, hf with
  | [g0, g1, g2, g3, g4, g5, g6, g7, g8], _, hf =>
    obtain ⟨x0, rfl, w0⟩ := Cube.shaped (hf 0 _ _ rfl rfl)
    obtain ⟨x1, rfl, w1⟩ := Shaped.int_inv (k := .i64) (by kernel_rfl) (hf 1 _ _ rfl rfl)
    obtain ⟨q2, rfl, hq2⟩ := Shaped.slice_inv (e := 53) (by kernel_rfl) (hf 2 _ _ rfl rfl)
    obtain ⟨x2, hx2, w2⟩ := rows_typedW (G := tab) (e := 53) (av := Act.av) (wf := fun y => Act.wf y) q2 (fun g hg => by obtain ⟨x, rfl, w⟩ := Act.shaped (hq2 g hg); exact ⟨x, (by kernel_rfl), w⟩)
    obtain ⟨x3, rfl, w3⟩ := Shaped.int_inv (k := .i64) (by kernel_rfl) (hf 3 _ _ rfl rfl)
    obtain ⟨x4, rfl, w4⟩ := Shaped.int_inv (k := .i64) (by kernel_rfl) (hf 4 _ _ rfl rfl)
    obtain ⟨x5, rfl, w5⟩ := Shaped.int_inv (k := .i64) (by kernel_rfl) (hf 5 _ _ rfl rfl)
    obtain ⟨x6, rfl, w6⟩ := Shaped.int_inv (k := .i64) (by kernel_rfl) (hf 6 _ _ rfl rfl)
    obtain ⟨x7, rfl, w7⟩ := Shaped.int_inv (k := .i64) (by kernel_rfl) (hf 7 _ _ rfl rfl)
    obtain ⟨x8, rfl, w8⟩ := Shaped.int_inv (k := .i64) (by kernel_rfl) (hf 8 _ _ rfl rfl)
    rw [hx2]; exact ⟨⟨x0, x1, x2, x3, x4, x5, x6, x7, x8⟩, rfl, ⟨w0, w1, w2, w3, w4, w5, w6, w7, w8⟩⟩

end Go.Proofs.Ytjchejmakdkioab

set_option linter.unusedVariables false
set_option linter.unusedSimpArgs false
set_option maxRecDepth 100000
set_option maxHeartbeats 4000000
namespace Go.Proofs.Ytjchejmakdkioab
open Go.Sh
/-! ### podestalaw06.answers: function 16 -/
noncomputable def podestalaw06_answers_F : Go.Sh.Fn := ⟨16, bodyOf Try.f16, 32⟩
def podestalaw06_answers_raw : Option (Bool) :=
  (lapse_Tick_raw [({ Match := ({ Value := [0, 0, 0, 0, 0, 0, 0, 0, 0, 0, 0, 0], Care := [0, 0, 0, 0, 0, 0, 0, 0, 0, 0, 0, 0] } : Cube), Prio := 0, Acts := [], Idle := 5, Hard := 0, Owner := 0, Hits := 0, Quiet := 0, Age := 0 } : Rule), ({ Match := ({ Value := [0, 0, 0, 0, 0, 0, 0, 0, 0, 0, 0, 0], Care := [0, 0, 0, 0, 0, 0, 0, 0, 0, 0, 0, 0] } : Cube), Prio := 0, Acts := [], Idle := 0, Hard := 9, Owner := 0, Hits := 0, Quiet := 0, Age := 0 } : Rule)] 5).bind fun x =>
  (bif (((((List.map Rule.av x.1).length : Nat) : Int) == 1) && ((((List.map Rule.av x.2).length : Nat) : Int) == 1)) then
    (ixO x.2 0).bind fun x1 =>
    (bif (x1.Idle == 5) then
      (ixO x.1 0).bind fun x2 =>
      some (x2.Age == 5)
    else
      some false)
  else
    some false)
theorem podestalaw06_answers_walk (r : Bool) (H : podestalaw06_answers_raw = some r) : ACalls Try.prog tab.S 16 [] [] (.sc (.bool r)) [] := by
  refine .of_AX podestalaw06_answers_F Try.func16 fun c0 hc0 => ?_
  rw [podestalaw06_answers_raw] at H
  refine .sg 3 [] (.rg (.sg 2 [4,5] (.wk 4 [(53, false)] (.wk 5 [(53, false)] (.sg 1 [6] (bndO H fun x hv H => (.cp [7] (lapse_Tick_walk [({ Match := ({ Value := [0, 0, 0, 0, 0, 0, 0, 0, 0, 0, 0, 0], Care := [0, 0, 0, 0, 0, 0, 0, 0, 0, 0, 0, 0] } : Cube), Prio := 0, Acts := [], Idle := 5, Hard := 0, Owner := 0, Hits := 0, Quiet := 0, Age := 0 } : Rule), ({ Match := ({ Value := [0, 0, 0, 0, 0, 0, 0, 0, 0, 0, 0, 0], Care := [0, 0, 0, 0, 0, 0, 0, 0, 0, 0, 0, 0] } : Cube), Prio := 0, Acts := [], Idle := 0, Hard := 9, Owner := 0, Hits := 0, Quiet := 0, Age := 0 } : Rule)] 5 true x hv) (.sg 5 [1,2] (.dn (.sg 1 [1,2] (.rg (.sg 4 [1,2,13] (.mx 0 [1,2,17] (.sg 1 [1,2,18] (.sp 18 (((((List.map Rule.av x.1).length : Nat) : Int) == 1) && ((((List.map Rule.av x.2).length : Nat) : Int) == 1)) H (fun hb H => ?_) (fun hb H => ?_))))))))))))))))
  ·
    refine .sg 1 [1,18,19] (bndO H fun x1 hv H => (.xi [1,18,20] Rule.av hv (.sg 5 [1,25] (.sp 25 (x1.Idle == 5) H (fun hb H => ?_) (fun hb H => ?_)))))
    ·
      refine .sg 1 [25,26] (bndO H fun x2 hv H => (.xi [25,27] Rule.av hv (.sg 5 [0] (.dn ?_))))
      obtain rfl := Option.some.inj H
      exact .ret Try.func16 hc0
    ·
      refine .sg 7 [0] (.dn ?_)
      obtain rfl := Option.some.inj H
      exact .ret Try.func16 hc0
  ·
    refine .sg 14 [0] (.dn ?_)
    obtain rfl := Option.some.inj H
    exact .ret Try.func16 hc0

theorem podestalaw06_answers_ok : ACalls Try.prog tab.S 16 [] [] (.sc (.bool true)) [] := podestalaw06_answers_walk true (by kernel_rfl)
theorem Act.beq_eq (x y : Act) : ((x.Kind == y.Kind) && ((x.Port == y.Port) && ((x.Field == y.Field) && (x.Value == y.Value)))) = (x == y) := by
  rw [Bool.eq_iff_iff]
  simp only [Bool.and_eq_true, beq_iff_eq]
  cases x; cases y
  simp

theorem zipAll_ne {α β : Type} (f : α → β → Bool) {a : List α} {b : List β} (h : ¬ a.length = b.length) : zipAll f a b = false := by
  rw [Bool.eq_false_iff]
  exact fun q => h (zipAll_len q)

/-! ### podestaref04.SameActs: function 28 -/
noncomputable def podestaref04_SameActs_F : Go.Sh.Fn := ⟨28, bodyOf Try.f28, 26⟩
def podestaref04_SameActs_l0s (b : List Act) : List Act → Nat → Option (Sum (Unit) (Bool))
  | [], i =>
    some (.inl ())
  | x :: rest, i =>
    (ixO b ((i : Nat) : Int)).bind fun x1 =>
    (bif (!((x.Kind == x1.Kind) && ((x.Port == x1.Port) && ((x.Field == x1.Field) && (x.Value == x1.Value))))) then
      some (.inr false)
    else
      podestaref04_SameActs_l0s b rest (i + 1) )
theorem podestaref04_SameActs_l0_walk (a : List Act) (b : List Act) (f_a : Bool) (f_b : Bool) (r : Bool) (c0 : Ctx) (hc0 : c0.m.length = 0) (res : Sum (Unit) (Bool)) (J : ∀ w : Unit, res = .inl w → AX Try.prog tab podestaref04_SameActs_F c0 (Rp tab.S c0 (.sc (.bool r)) []) (some ⟨[.code [1, 1, 1]], [], []⟩)) (Jr : ∀ w, res = .inr w → w = r) :
    ∀ (rest : List Act) (i : Nat) (z : Int) (hI : z = ((i : Nat) : Int)) (hd : a.drop i = rest) (H : podestaref04_SameActs_l0s b rest i = some res), AX Try.prog tab podestaref04_SameActs_F c0 (Rp tab.S c0 (.sc (.bool r)) []) (some ⟨[.code [1, 1, 0, 1, 0, 0], .loop [1, 1, 0, 1, 0], .blk 0, .code [1, 1, 1]], [(0, .sl 53 (List.map Act.av a) f_a), (1, .sl 53 (List.map Act.av b) f_b), (5, .sc (.int .i64 z))], []⟩) := by
  intro rest
  induction rest with
  | nil =>
    intro i z hI hd  H
    subst hI
    rw [podestaref04_SameActs_l0s] at H
    refine .facts 0 fun hf => ?_
    have hlen : a.length ≤ 9223372036854775807 := by have hq := len_ok hf.2.1; rw [List.length_map] at hq; exact hq
    have hge : a.length ≤ i := List.drop_eq_nil_iff.1 hd
    have hc : (decide (((i : Nat) : Int) < (((List.map Act.av a).length : Nat) : Int))) = false := by rw [List.length_map]; exact decide_eq_false (by omega)
    exact .sg 3 [0,1,5,14] (.cdF hc (.sg 1 [] (.kp [] (.to (J () (Option.some.inj H).symm)))))
  | cons x rest ih =>
    intro i z hI hd  H
    subst hI
    rw [podestaref04_SameActs_l0s] at H
    refine .facts 0 fun hf => ?_
    have hlen : a.length ≤ 9223372036854775807 := by have hq := len_ok hf.2.1; rw [List.length_map] at hq; exact hq
    obtain ⟨hlt, hv_i, hd2⟩ := drop_cons hd
    have hc : (decide (((i : Nat) : Int) < (((List.map Act.av a).length : Nat) : Int))) = true := by rw [List.length_map]; exact decide_eq_true (by omega)
    have hw : IntKind.i64.wrap (((i : Nat) : Int) + 1) = ((i + 1 : Nat) : Int) := wrapI_succ (by omega)
    refine .sg 3 [0,1,5,14] (.cdT hc (.sg 4 [0,1,5] (.rg (.sg 2 [0,1,5,17,18] (.xi [0,1,5,19] Act.av hv_i (.sg 3 [0,1,5,20,21,22] (bndO H fun x1 hv H => (.xi [0,1,5,20,23] Act.av hv (.sg 1 [0,1,5,20,24] (.eq_ [0,1,5,25] 9 (.dn (.cd (!((x.Kind == x1.Kind) && ((x.Port == x1.Port) && ((x.Field == x1.Field) && (x.Value == x1.Value))))) H (fun hb H => ?_) (fun hb H => ?_)))))))))))))
    ·
      refine .sg 2 [4] ?_
      obtain rfl := Option.some.inj H
      obtain rfl := Jr _ rfl
      exact .ret Try.func28 hc0
    ·
      exact .sg 3 [0,1,5] (.kp [0,1,5] (.into (.cl (ih (i + 1) _ hw hd2 H))))

def podestaref04_SameActs_raw (a : List Act) (b : List Act) : Option (Bool) :=
  (bif ((((List.map Act.av a).length : Nat) : Int) != (((List.map Act.av b).length : Nat) : Int)) then
    some false
  else
    loopO (podestaref04_SameActs_l0s b a 0) fun v =>
    some true)
theorem podestaref04_SameActs_walk (a : List Act) (b : List Act) (f_a : Bool) (f_b : Bool) (r : Bool) (H : podestaref04_SameActs_raw a b = some r) : ACalls Try.prog tab.S 28 [.sl 53 (List.map Act.av a) f_a, .sl 53 (List.map Act.av b) f_b] [] (.sc (.bool r)) [] := by
  refine .of_AX podestaref04_SameActs_F Try.func28 fun c0 hc0 => ?_
  rw [podestaref04_SameActs_raw] at H
  refine .sg 5 [0,1,10] (.cd ((((List.map Act.av a).length : Nat) : Int) != (((List.map Act.av b).length : Nat) : Int)) H (fun hb H => ?_) (fun hb H => ?_))
  ·
    refine .sg 2 [4] ?_
    obtain rfl := Option.some.inj H
    exact .ret Try.func28 hc0
  ·
    refine .sg 5 [0,1,5] ?_
    rcases loopO_some H with ⟨v, hv, H⟩ | hv
    case inr =>
      exact .into (.to (podestaref04_SameActs_l0_walk a b f_a f_b _ c0 hc0 (.inr _) (fun _ e => by cases e) (fun _ e => (Sum.inr.inj e).symm) a 0 _ rfl rfl hv))
    refine .into (.to (podestaref04_SameActs_l0_walk a b f_a f_b r c0 hc0 (.inl v) (fun w e => ?_) (fun _ e => by cases e) a 0 _ rfl rfl hv))
    have e := Sum.inl.inj e
    subst e
    refine .sg 2 [4] ?_
    obtain rfl := Option.some.inj H
    exact .ret Try.func28 hc0

theorem podestaref04_SameActs_ok (a b : List Act) (f_a f_b : Bool) : ACalls Try.prog tab.S 28 [.sl 53 (List.map Act.av a) f_a, .sl 53 (List.map Act.av b) f_b] [] (.sc (.bool (a == b))) [] := by
  refine podestaref04_SameActs_walk a b f_a f_b _ ?_
  rw [podestaref04_SameActs_raw, len_bne]
  by_cases h : a.length = b.length
  · simp only [h, decide_true, Bool.not_true, cond_false]
    rw [cmp_loop (v := false) (podestaref04_SameActs_l0s b) b (fun x y => x == y) (fun _ => rfl) (fun x r i => by rw [podestaref04_SameActs_l0s]; simp only [Act.beq_eq]) a 0 (by omega), List.drop_zero, zipAll_beq]
    cases a == b <;> rfl
  · have e : (a == b) = false := by
      rw [beq_eq_false_iff_ne]
      intro e
      exact h (by rw [e])
    rw [e]
    simp only [h, decide_false, Bool.not_false, cond_true]

/-! ### podestaref04.Key: function 44 -/
noncomputable def podestaref04_Key_F : Go.Sh.Fn := ⟨44, bodyOf Try.f44, 17⟩
def podestaref04_Key (a : Rule) (b : Rule) : Bool :=
  (((a.Match.Value == b.Match.Value) && (a.Match.Care == b.Match.Care)) && (a.Prio == b.Prio))
theorem podestaref04_Key_calls (a : Rule) (b : Rule) : ACalls Try.prog tab.S 44 [Rule.av a, Rule.av b] [] (.sc (.bool (podestaref04_Key a b))) [] := by
  generalize H : podestaref04_Key a b = r
  refine .of_AX podestaref04_Key_F Try.func44 fun c0 hc0 => ?_
  rw [podestaref04_Key] at H
  refine .sg 3 [2,3] (.rg (.sg 4 [2,3,6,8] (.eq_ [2,3,9] 9 (.sg 1 [2,3,10] (.mx 0 [16] (.sg 1 [4] (.dn ?_)))))))
  subst H
  exact .ret Try.func44 hc0

/-! ### podestaref04.Equal: function 33 -/
noncomputable def podestaref04_Equal_F : Go.Sh.Fn := ⟨33, bodyOf Try.f33, 57⟩
def podestaref04_Equal (a : Rule) (b : Rule) : Bool :=
  ((((((((podestaref04_Key a b) && (a.Acts == b.Acts)) && (a.Idle == b.Idle)) && (a.Hard == b.Hard)) && (a.Owner == b.Owner)) && (a.Hits == b.Hits)) && (a.Quiet == b.Quiet)) && (a.Age == b.Age))
theorem podestaref04_Equal_calls (a : Rule) (b : Rule) : ACalls Try.prog tab.S 33 [Rule.av a, Rule.av b] [] (.sc (.bool (podestaref04_Equal a b))) [] := by
  generalize H : podestaref04_Equal a b = r
  refine .of_AX podestaref04_Equal_F Try.func33 fun c0 hc0 => ?_
  rw [podestaref04_Equal] at H
  refine .sg 3 [2,3] (.rg (.sg 2 [2,3,5,6] (.cp [2,3,7] (podestaref04_Key_calls a b) (.sg 1 [2,3,8] (.mm 8 (podestaref04_Key a b) 6 [.pure, .pure, .read, .pure, .read, .pure] [2, 3, 14] 14 (fun z => .sc (.bool (z && (a.Acts == b.Acts)))) ?J1 (fun hb J => ?ht1) (fun hb J => ?hf1))))))
  case ht1 =>
    exact .sg 4 [2,3,8,10,12] (.cp [2,3,8,13] (podestaref04_SameActs_ok a.Acts b.Acts false false) (.sg 1 [2,3,14] (.cl J)))
  case hf1 =>
    exact .sg 6 [2,3,14] (.cl J)
  refine .sg 1 [2,3,15] (.mx 0 [2,3,21] (.sg 1 [2,3,22] (.mx 0 [2,3,28] (.sg 1 [2,3,29] (.mx 0 [2,3,35] (.sg 1 [2,3,36] (.mx 0 [2,3,42] (.sg 1 [2,3,43] (.mx 0 [2,3,49] (.sg 1 [2,3,50] (.mx 0 [56] (.sg 1 [4] (.dn ?_)))))))))))))
  subst H
  exact .ret Try.func33 hc0

/-! ### podestaref04.Same: function 18 -/
noncomputable def podestaref04_Same_F : Go.Sh.Fn := ⟨18, bodyOf Try.f18, 27⟩
def podestaref04_Same_l0s (b : List Rule) : List Rule → Nat → Option (Sum (Unit) (Bool))
  | [], i =>
    some (.inl ())
  | x :: rest, i =>
    (ixO b ((i : Nat) : Int)).bind fun x1 =>
    (bif (!(podestaref04_Equal x x1)) then
      some (.inr false)
    else
      podestaref04_Same_l0s b rest (i + 1) )
theorem podestaref04_Same_l0_walk (a : List Rule) (b : List Rule) (f_a : Bool) (f_b : Bool) (r : Bool) (c0 : Ctx) (hc0 : c0.m.length = 0) (res : Sum (Unit) (Bool)) (J : ∀ w : Unit, res = .inl w → AX Try.prog tab podestaref04_Same_F c0 (Rp tab.S c0 (.sc (.bool r)) []) (some ⟨[.code [1, 1, 1]], [], []⟩)) (Jr : ∀ w, res = .inr w → w = r) :
    ∀ (rest : List Rule) (i : Nat) (z : Int) (hI : z = ((i : Nat) : Int)) (hd : a.drop i = rest) (H : podestaref04_Same_l0s b rest i = some res), AX Try.prog tab podestaref04_Same_F c0 (Rp tab.S c0 (.sc (.bool r)) []) (some ⟨[.code [1, 1, 0, 1, 0, 0], .loop [1, 1, 0, 1, 0], .blk 0, .code [1, 1, 1]], [(0, .sl 48 (List.map Rule.av a) f_a), (1, .sl 48 (List.map Rule.av b) f_b), (5, .sc (.int .i64 z))], []⟩) := by
  intro rest
  induction rest with
  | nil =>
    intro i z hI hd  H
    subst hI
    rw [podestaref04_Same_l0s] at H
    refine .facts 0 fun hf => ?_
    have hlen : a.length ≤ 9223372036854775807 := by have hq := len_ok hf.2.1; rw [List.length_map] at hq; exact hq
    have hge : a.length ≤ i := List.drop_eq_nil_iff.1 hd
    have hc : (decide (((i : Nat) : Int) < (((List.map Rule.av a).length : Nat) : Int))) = false := by rw [List.length_map]; exact decide_eq_false (by omega)
    exact .sg 3 [0,1,5,14] (.cdF hc (.sg 1 [] (.kp [] (.to (J () (Option.some.inj H).symm)))))
  | cons x rest ih =>
    intro i z hI hd  H
    subst hI
    rw [podestaref04_Same_l0s] at H
    refine .facts 0 fun hf => ?_
    have hlen : a.length ≤ 9223372036854775807 := by have hq := len_ok hf.2.1; rw [List.length_map] at hq; exact hq
    obtain ⟨hlt, hv_i, hd2⟩ := drop_cons hd
    have hc : (decide (((i : Nat) : Int) < (((List.map Rule.av a).length : Nat) : Int))) = true := by rw [List.length_map]; exact decide_eq_true (by omega)
    have hw : IntKind.i64.wrap (((i : Nat) : Int) + 1) = ((i + 1 : Nat) : Int) := wrapI_succ (by omega)
    refine .sg 3 [0,1,5,14] (.cdT hc (.sg 4 [0,1,5] (.rg (.sg 2 [0,1,5,17,18] (.xi [0,1,5,19] Rule.av hv_i (.sg 3 [0,1,5,20,21,22] (bndO H fun x1 hv H => (.xi [0,1,5,20,23] Rule.av hv (.sg 1 [0,1,5,20,24] (.cp [0,1,5,25] (podestaref04_Equal_calls x x1) (.sg 1 [0,1,5,26] (.dn (.cd (!(podestaref04_Equal x x1)) H (fun hb H => ?_) (fun hb H => ?_))))))))))))))
    ·
      refine .sg 2 [4] ?_
      obtain rfl := Option.some.inj H
      obtain rfl := Jr _ rfl
      exact .ret Try.func18 hc0
    ·
      exact .sg 3 [0,1,5] (.kp [0,1,5] (.into (.cl (ih (i + 1) _ hw hd2 H))))

def podestaref04_Same_raw (a : List Rule) (b : List Rule) : Option (Bool) :=
  (bif ((((List.map Rule.av a).length : Nat) : Int) != (((List.map Rule.av b).length : Nat) : Int)) then
    some false
  else
    loopO (podestaref04_Same_l0s b a 0) fun v =>
    some true)
theorem podestaref04_Same_walk (a : List Rule) (b : List Rule) (f_a : Bool) (f_b : Bool) (r : Bool) (H : podestaref04_Same_raw a b = some r) : ACalls Try.prog tab.S 18 [.sl 48 (List.map Rule.av a) f_a, .sl 48 (List.map Rule.av b) f_b] [] (.sc (.bool r)) [] := by
  refine .of_AX podestaref04_Same_F Try.func18 fun c0 hc0 => ?_
  rw [podestaref04_Same_raw] at H
  refine .sg 5 [0,1,10] (.cd ((((List.map Rule.av a).length : Nat) : Int) != (((List.map Rule.av b).length : Nat) : Int)) H (fun hb H => ?_) (fun hb H => ?_))
  ·
    refine .sg 2 [4] ?_
    obtain rfl := Option.some.inj H
    exact .ret Try.func18 hc0
  ·
    refine .sg 5 [0,1,5] ?_
    rcases loopO_some H with ⟨v, hv, H⟩ | hv
    case inr =>
      exact .into (.to (podestaref04_Same_l0_walk a b f_a f_b _ c0 hc0 (.inr _) (fun _ e => by cases e) (fun _ e => (Sum.inr.inj e).symm) a 0 _ rfl rfl hv))
    refine .into (.to (podestaref04_Same_l0_walk a b f_a f_b r c0 hc0 (.inl v) (fun w e => ?_) (fun _ e => by cases e) a 0 _ rfl rfl hv))
    have e := Sum.inl.inj e
    subst e
    refine .sg 2 [4] ?_
    obtain rfl := Option.some.inj H
    exact .ret Try.func18 hc0

theorem podestaref04_Same_ok (a b : List Rule) (f_a f_b : Bool) : ACalls Try.prog tab.S 18 [.sl 48 (List.map Rule.av a) f_a, .sl 48 (List.map Rule.av b) f_b] [] (.sc (.bool (zipAll podestaref04_Equal a b))) [] := by
  refine podestaref04_Same_walk a b f_a f_b _ ?_
  rw [podestaref04_Same_raw, len_bne]
  by_cases h : a.length = b.length
  · simp only [h, decide_true, Bool.not_true, cond_false]
    rw [cmp_loop (v := false) (podestaref04_Same_l0s b) b podestaref04_Equal (fun _ => rfl) (fun x r i => by rw [podestaref04_Same_l0s]) a 0 (by omega), List.drop_zero]
    cases zipAll podestaref04_Equal a b <;> rfl
  · rw [zipAll_ne _ h]
    simp only [h, decide_false, Bool.not_false, cond_true]
theorem ref_Equal_eq (a b : Rule) : podestaref04_Equal a b = (a == b) := by
  obtain ⟨⟨v, c⟩, p, ac, i1, h1, o1, h2, q1, g1⟩ := a
  obtain ⟨⟨v', c'⟩, p', ac', i1', h1', o1', h2', q1', g1'⟩ := b
  rw [podestaref04_Equal, podestaref04_Key, Bool.eq_iff_iff]
  simp only [Bool.and_eq_true, beq_iff_eq, Rule.mk.injEq, Cube.mk.injEq]
  constructor
  · rintro ⟨⟨⟨⟨⟨⟨⟨⟨⟨a2, a3⟩, a4⟩, a1⟩, a5⟩, a6⟩, a7⟩, a8⟩, a9⟩, a10⟩
    exact ⟨⟨a2, a3⟩, a4, a1, a5, a6, a7, a8, a9, a10⟩
  · rintro ⟨⟨a2, a3⟩, a4, a1, a5, a6, a7, a8, a9, a10⟩
    exact ⟨⟨⟨⟨⟨⟨⟨⟨⟨a2, a3⟩, a4⟩, a1⟩, a5⟩, a6⟩, a7⟩, a8⟩, a9⟩, a10⟩
theorem ref_Same_eq (a b : List Rule) : zipAll podestaref04_Equal a b = (a == b) := by
  rw [← zipAll_beq]
  exact congrArg (fun f => zipAll f a b) (funext fun x => funext fun y => ref_Equal_eq x y)

end Go.Proofs.Ytjchejmakdkioab

set_option linter.unusedVariables false
set_option linter.unusedSimpArgs false
set_option maxRecDepth 100000
set_option maxHeartbeats 4000000
namespace Go.Proofs.Ytjchejmakdkioab
open Go.Sh
/-! ### podestaref04.more: function 34 -/
noncomputable def podestaref04_more_F : Go.Sh.Fn := ⟨34, bodyOf Try.f34, 19⟩
def podestaref04_more (a : Int) (n : Int) : Int :=
  (bif ((decide (a > 4611686018427387904)) || (decide (a > (IntKind.i64.wrap (4611686018427387904 - n))))) then
    (bif (decide (a > 4611686018427387904)) then
      a
    else
      4611686018427387904)
  else
    (IntKind.i64.wrap (a + n)))
theorem podestaref04_more_calls (a : Int) (n : Int) : ACalls Try.prog tab.S 34 [.sc (.int .i64 a), .sc (.int .i64 n)] [] (.sc (.int .i64 (podestaref04_more a n))) [] := by
  generalize H : podestaref04_more a n = r
  refine .of_AX podestaref04_more_F Try.func34 fun c0 hc0 => ?_
  rw [podestaref04_more] at H
  refine .sg 4 [0,1] (.rg (.sg 3 [0,1,7] (.mx 1 [0,1,12] (.dn (.cd ((decide (a > 4611686018427387904)) || (decide (a > (IntKind.i64.wrap (4611686018427387904 - n))))) H (fun hb H => ?_) (fun hb H => ?_))))))
  ·
    refine .sg 3 [0,14] (.cd (decide (a > 4611686018427387904)) H (fun hb H => ?_) (fun hb H => ?_))
    ·
      refine .sg 2 [4] ?_
      subst H
      exact .ret Try.func34 hc0
    ·
      refine .sg 3 [4] ?_
      subst H
      exact .ret Try.func34 hc0
  ·
    refine .sg 3 [4] ?_
    subst H
    exact .ret Try.func34 hc0

/-! ### podestaref04.Hit: function 19 -/
noncomputable def podestaref04_Hit_F : Go.Sh.Fn := ⟨19, bodyOf Try.f19, 32⟩
def podestaref04_Hit_raw (l : List Rule) (at_ : Int) : Option ((List Rule)) :=
  fitO (([] : List Rule).length + l.length) 272 (
  (bif ((decide (at_ ≥ 0)) && (decide (at_ < (((List.map Rule.av l).length : Nat) : Int)))) then
    (ixO (([] : List Rule) ++ l) at_).bind fun x =>
    some (((([] : List Rule) ++ l).set at_.toNat ({ x with Hits := (podestaref04_more x.Hits 1) } : Rule)).set at_.toNat ({ Match := ({ x with Hits := (podestaref04_more x.Hits 1) } : Rule).Match, Prio := ({ x with Hits := (podestaref04_more x.Hits 1) } : Rule).Prio, Acts := ({ x with Hits := (podestaref04_more x.Hits 1) } : Rule).Acts, Idle := ({ x with Hits := (podestaref04_more x.Hits 1) } : Rule).Idle, Hard := ({ x with Hits := (podestaref04_more x.Hits 1) } : Rule).Hard, Owner := ({ x with Hits := (podestaref04_more x.Hits 1) } : Rule).Owner, Hits := ({ x with Hits := (podestaref04_more x.Hits 1) } : Rule).Hits, Quiet := 0, Age := ({ x with Hits := (podestaref04_more x.Hits 1) } : Rule).Age } : Rule))
  else
    some (([] : List Rule) ++ l)))
theorem podestaref04_Hit_walk (l : List Rule) (at_ : Int) (f_l : Bool) (r : (List Rule)) (H : podestaref04_Hit_raw l at_ = some r) : ACalls Try.prog tab.S 19 [.sl 48 (List.map Rule.av l) f_l, .sc (.int .i64 at_)] [] (.sl 48 (List.map Rule.av r) false) [] := by
  refine .of_AX podestaref04_Hit_F Try.func19 fun c0 hc0 => ?_
  rw [podestaref04_Hit_raw] at H
  refine .sg 3 [0,1] (.rg (.sg 2 [0,1,6,7] (fitH H fun hfit H => (.ab [0,1,8] Rule.av hfit rfl (.sg 1 [0,1,5] (.dn (.sg 2 [0,1,5] (.rg (.sg 3 [0,1,5,11] (.mx 0 [1,5,16] (.dn (.cd ((decide (at_ ≥ 0)) && (decide (at_ < (((List.map Rule.av l).length : Nat) : Int)))) H (fun hb H => ?_) (fun hb H => ?_)))))))))))))
  ·
    refine .sg 1 [1,5] (.rg (.sg 4 [1,5,17,18,19,20] (bndO H fun x hv_x H => (.xo [1,5,17,18,21] (ixO_req hv_x Rule.av) (.sg 1 [1,5,17,18,22] (.lo [1,5,17,18,23] (ixO_map hv_x Rule.av).2 (.cp [1,5,17,18,24] (podestaref04_more_calls x.Hits 1) (.xo [1,5,24,25] (ixO_req hv_x Rule.av) (.sg 1 [1,5,24,26] (.st [1,5] Rule.av ({ x with Hits := (podestaref04_more x.Hits 1) } : Rule) (ixO_map hv_x Rule.av).2 (.dn (.rg (.sg 2 [5,27,28] (.xo [5,29] (set_req (ixO_req hv_x Rule.av) at_.toNat ({ x with Hits := (podestaref04_more x.Hits 1) } : Rule)) (.sg 1 [5,30] (.st [5] Rule.av ({ Match := ({ x with Hits := (podestaref04_more x.Hits 1) } : Rule).Match, Prio := ({ x with Hits := (podestaref04_more x.Hits 1) } : Rule).Prio, Acts := ({ x with Hits := (podestaref04_more x.Hits 1) } : Rule).Acts, Idle := ({ x with Hits := (podestaref04_more x.Hits 1) } : Rule).Idle, Hard := ({ x with Hits := (podestaref04_more x.Hits 1) } : Rule).Hard, Owner := ({ x with Hits := (podestaref04_more x.Hits 1) } : Rule).Owner, Hits := ({ x with Hits := (podestaref04_more x.Hits 1) } : Rule).Hits, Quiet := 0, Age := ({ x with Hits := (podestaref04_more x.Hits 1) } : Rule).Age } : Rule) (set_get (ixO_map hv_x Rule.av).2 ({ x with Hits := (podestaref04_more x.Hits 1) } : Rule)) (.dn (.sg 2 [4] ?_))))))))))))))))))
    obtain rfl := Option.some.inj H
    exact .ret Try.func19 hc0
  ·
    refine .sg 3 [4] ?_
    obtain rfl := Option.some.inj H
    exact .ret Try.func19 hc0

/-! ### podestalaw06.LapseHits: function 5 -/
noncomputable def podestalaw06_LapseHits_F : Go.Sh.Fn := ⟨5, bodyOf Try.f5, 54⟩
def podestalaw06_LapseHits_raw (l : List Rule) (at_ : Int) : Option (Bool) :=
  (bif (decide ((((List.map Rule.av l).length : Nat) : Int) > 60)) then
    some true
  else
    fitO (([] : List Rule).length + l.length) 272 (
    (lapse_Hit_raw (([] : List Rule) ++ l) at_).bind fun x =>
    (podestaref04_Hit_raw l at_).bind fun x1 =>
    (bif (!(zipAll podestaref04_Equal x x1)) then
      some false
    else
      (bif ((decide (at_ < 0)) || (decide (at_ ≥ (((List.map Rule.av l).length : Nat) : Int)))) then
        some true
      else
        (ixO x at_).bind fun x2 =>
        (bif (x2.Quiet == 0) then
          (ixO x at_).bind fun x3 =>
          (ixO l at_).bind fun x4 =>
          some (x3.Age == x4.Age)
        else
          some false)))))
theorem podestalaw06_LapseHits_walk (l : List Rule) (at_ : Int) (f_l : Bool) (r : Bool) (H : podestalaw06_LapseHits_raw l at_ = some r) : ACalls Try.prog tab.S 5 [.sl 48 (List.map Rule.av l) f_l, .sc (.int .i64 at_)] [] (.sc (.bool r)) [] := by
  refine .of_AX podestalaw06_LapseHits_F Try.func5 fun c0 hc0 => ?_
  rw [podestalaw06_LapseHits_raw] at H
  refine .sg 5 [0,1,8] (.cd (decide ((((List.map Rule.av l).length : Nat) : Int) > 60)) H (fun hb H => ?_) (fun hb H => ?_))
  ·
    refine .sg 1 [] (.rg (.cp [9] (podestalaw06_answers_ok) (.sg 1 [4] (.dn ?_))))
    obtain rfl := Option.some.inj H
    exact .ret Try.func5 hc0
  ·
    refine .sg 2 [0,1] (.rg (.sg 2 [0,1,10,11] (fitH H fun hfit H => (.ab [0,1,12] Rule.av hfit rfl (.sg 1 [0,1,12,13] (bndO H fun x hv H => (.cc [0,1,14] [0] (lapse_Hit_walk (([] : List Rule) ++ l) at_ false x hv) (.sg 1 [0,1,5] (.dn (.sg 2 [0,1,5] (.rg (.cp [0,1,5,15] (podestalaw06_answers_ok) (.sg 5 [0,1,5,17,18,19,20] (bndO H fun x1 hv H => (.cp [0,1,5,17,18,21] (podestaref04_Hit_walk l at_ f_l x1 hv) (.cp [0,1,5,17,22] (podestaref04_Same_ok x x1 false false) (.sg 2 [0,1,5,24] (.dn (.cd (!(zipAll podestaref04_Equal x x1)) H (fun hb H => ?_) (fun hb H => ?_))))))))))))))))))))
    ·
      refine .sg 2 [4] ?_
      obtain rfl := Option.some.inj H
      exact .ret Try.func5 hc0
    ·
      refine .sg 2 [0,1,5] (.rg (.sg 3 [0,1,5,27] (.mx 1 [0,1,5,32] (.sg 1 [0,1,5,33] (.sp 33 ((decide (at_ < 0)) || (decide (at_ ≥ (((List.map Rule.av l).length : Nat) : Int)))) H (fun hb H => ?_) (fun hb H => ?_))))))
      ·
        refine .sg 21 [4] (.dn ?_)
        obtain rfl := Option.some.inj H
        exact .ret Try.func5 hc0
      ·
        refine .sg 2 [0,1,5,33,34,35] (bndO H fun x2 hv H => (.xi [0,1,5,33,36] Rule.av hv (.sg 4 [0,1,5,33,40] (.sp 40 (x2.Quiet == 0) H (fun hb H => ?_) (fun hb H => ?_)))))
        ·
          refine .sg 2 [0,1,33,40,41,42] (bndO H fun x3 hv H => (.xi [0,1,33,40,43] Rule.av hv (.sg 4 [33,40,45,46,47] (bndO H fun x4 hv H => (.xi [33,40,45,48] Rule.av hv (.sg 6 [4] (.dn ?_)))))))
          obtain rfl := Option.some.inj H
          exact .ret Try.func5 hc0
        ·
          refine .sg 14 [4] (.dn ?_)
          obtain rfl := Option.some.inj H
          exact .ret Try.func5 hc0

end Go.Proofs.Ytjchejmakdkioab

set_option linter.unusedVariables false
set_option linter.unusedSimpArgs false
set_option maxRecDepth 100000
set_option maxHeartbeats 4000000
namespace Go.Proofs.Ytjchejmakdkioab
open Go.Sh
theorem more_eq (a : Int) : podestaref04_more a 1 = lapse_more a 1 := by
  have hw : IntKind.i64.wrap (4611686018427387904 - 1) = 4611686018427387903 := by rw [IntKind.wrap_i64]; rfl
  unfold podestaref04_more lapse_more
  rw [hw]
  by_cases h1 : a > 4611686018427387904
  · have e1 : decide (a > 4611686018427387904) = true := decide_eq_true h1
    have e2 : decide (a ≥ 4611686018427387903) = true := decide_eq_true (by omega)
    rw [e1, e2, Bool.true_or, cond_true, cond_true, cond_true, if_neg (by omega)]
  · have e1 : decide (a > 4611686018427387904) = false := decide_eq_false h1
    rw [e1, Bool.false_or, cond_false]
    by_cases h2 : a > 4611686018427387903
    · have e2 : decide (a > 4611686018427387903) = true := decide_eq_true h2
      have e3 : decide (a ≥ 4611686018427387903) = true := decide_eq_true (by omega)
      rw [e2, e3, cond_true, cond_true]
      split <;> omega
    · have e2 : decide (a > 4611686018427387903) = false := decide_eq_false h2
      rw [e2, cond_false]
      by_cases h3 : a ≥ 4611686018427387903
      · have e3 : decide (a ≥ 4611686018427387903) = true := decide_eq_true h3
        rw [e3, cond_true]
        have : a = 4611686018427387903 := by omega
        subst this
        rw [IntKind.wrap_i64]
        rfl
      · have e3 : decide (a ≥ 4611686018427387903) = false := decide_eq_false h3
        rw [e3, cond_false]
def hitR (x : Rule) : Rule := { x with Hits := lapse_more x.Hits 1, Quiet := 0 }
theorem LapseHits_true (l : List Rule) (at_ : Int) (_ : ∀ y ∈ l, Rule.wf y) (_ : intW .i64 at_) (_ : l.length * 272 ≤ 140737488355328) : podestalaw06_LapseHits_raw l at_ = some true := by
  unfold podestalaw06_LapseHits_raw
  cases hd : decide ((((List.map Rule.av l).length : Nat) : Int) > 60) with
  | true => rfl
  | false =>
    have hl : l.length ≤ 60 := by
      have := of_decide_eq_false hd
      rw [List.length_map] at this
      omega
    have hc : copyO l = some l := by
      unfold copyO
      rw [if_pos (by omega)]
    rw [cond_false, fitO_eq (by simp only [List.length_nil]; omega), nil_app]
    rw [lapse_Hit_raw, hc, Option.bind_some, podestaref04_Hit_raw, fitO_eq (by simp only [List.length_nil]; omega), nil_app, List.length_map]
    by_cases hb : 0 ≤ at_ ∧ at_ < l.length
    · obtain ⟨j, rfl⟩ := Int.eq_ofNat_of_zero_le hb.1
      have hj : j < l.length := by omega
      have b1 : decide ((j : Int) ≥ 0) = true := decide_eq_true hb.1
      have b2 : decide ((j : Int) < (l.length : Int)) = true := decide_eq_true hb.2
      have b3 : decide ((j : Int) < 0) = false := decide_eq_false (by omega)
      have b4 : decide ((j : Int) ≥ (l.length : Int)) = false := decide_eq_false (by omega)
      have hs : ∀ A : Rule, ixO ((l.set j A).set j (hitR l[j])) (j : Int) = some (hitR l[j]) := fun A => by
        rw [ixO_lt (by simpa using hj)]
        simp
      simp only [b1, b2, b3, b4, Bool.and_self, cond_true, Bool.or_self, cond_false, ixO_lt hj, Option.bind_some, more_eq, Int.toNat_natCast, ref_Same_eq, beq_self_eq_true, Bool.not_true]
      have := hs { l[j] with Hits := lapse_more l[j].Hits 1 }
      unfold hitR at this
      rw [this]
      simp
    · have b1 : (decide (at_ ≥ 0) && decide (at_ < (l.length : Int))) = false := by
        rw [Bool.eq_false_iff]
        intro h
        rw [Bool.and_eq_true, decide_eq_true_eq, decide_eq_true_eq] at h
        exact hb h
      have b2 : (decide (at_ < 0) || decide (at_ ≥ (l.length : Int))) = true := by
        rw [Bool.or_eq_true, decide_eq_true_eq, decide_eq_true_eq]
        omega
      simp only [b1, b2, cond_false, cond_true, Option.bind_some, ref_Same_eq, beq_self_eq_true, Bool.not_true]

end Go.Proofs.Ytjchejmakdkioab
