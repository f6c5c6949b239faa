import Derived.Test.YtjchejmakdkioabProg
import Derived.Test.YtjchejmakdkioabM1ActJoins
set_option linter.unusedVariables false
set_option linter.unusedSimpArgs false
set_option maxRecDepth 100000
set_option maxHeartbeats 4000000
namespace Go.Proofs.Ytjchejmakdkioab
open Go.Sh
def tab : Go.Sh.Tab := [
  (1, ⟨.other, 1, 8, [.sc .nilFunc]⟩),
  (2, ⟨.int .i64, 1, 8, [.sc (.int .i64 0)]⟩),
  (3, ⟨.int .i64, 1, 8, [.sc (.int .i64 0)]⟩),
  (4, ⟨.bool, 1, 1, [.sc (.bool false)]⟩),
  (5, ⟨.int .u8, 1, 1, [.sc (.int .u8 0)]⟩),
  (9, ⟨.str, 1, 16, [.sc (.string ⟨#[]⟩)]⟩),
  (12, ⟨.int .u64, 1, 8, [.sc (.int .u64 0)]⟩),
  (13, ⟨.struct [(0, 9), (1, 12)], 2, 24, [.sc (.string ⟨#[]⟩), .sc (.int .u64 0)]⟩),
  (21, ⟨.int .i32, 1, 4, [.sc (.int .i32 0)]⟩),
  (22, ⟨.slice 36, 1, 24, [.sl 0 [] true]⟩),
  (23, ⟨.struct [(0, 3), (1, 3), (2, 3), (3, 22)], 4, 48, [.sc (.int .i64 0), .sc (.int .i64 0), .sc (.int .i64 0), .sl 0 [] true]⟩),
  (24, ⟨.struct [(0, 3), (1, 3), (2, 3), (3, 22)], 4, 48, [.sc (.int .i64 0), .sc (.int .i64 0), .sc (.int .i64 0), .sl 0 [] true]⟩),
  (25, ⟨.struct [(0, 3), (1, 3)], 2, 16, [.sc (.int .i64 0), .sc (.int .i64 0)]⟩),
  (26, ⟨.struct [(0, 3), (1, 3)], 2, 16, [.sc (.int .i64 0), .sc (.int .i64 0)]⟩),
  (27, ⟨.other, 1, 8, [.sc .nilFunc]⟩),
  (29, ⟨.other, 1, 8, [.sc .nilFunc]⟩),
  (30, ⟨.slice 26, 1, 24, [.sl 0 [] true]⟩),
  (31, ⟨.other, 1, 8, [.sc .nilFunc]⟩),
  (32, ⟨.other, 1, 8, [.sc .nilFunc]⟩),
  (33, ⟨.int .i64, 1, 8, [.sc (.int .i64 0)]⟩),
  (34, ⟨.other, 1, 8, [.sc .nilFunc]⟩),
  (35, ⟨.struct [(0, 26), (2, 26)], 4, 32, [.sc (.int .i64 0), .sc (.int .i64 0), .sc (.int .i64 0), .sc (.int .i64 0)]⟩),
  (36, ⟨.struct [(0, 26), (2, 26)], 4, 32, [.sc (.int .i64 0), .sc (.int .i64 0), .sc (.int .i64 0), .sc (.int .i64 0)]⟩),
  (37, ⟨.other, 1, 8, [.sc .nilFunc]⟩),
  (38, ⟨.slice 48, 1, 24, [.sl 0 [] true]⟩),
  (39, ⟨.other, 1, 8, [.sc .nilFunc]⟩),
  (40, ⟨.other, 1, 8, [.sc .nilFunc]⟩),
  (41, ⟨.int .u64, 1, 8, [.sc (.int .u64 0)]⟩),
  (42, ⟨.arr 12 41, 12, 96, [.arr .u64 12 [0, 0, 0, 0, 0, 0, 0, 0, 0, 0, 0, 0]]⟩),
  (43, ⟨.arr 12 41, 12, 96, [.arr .u64 12 [0, 0, 0, 0, 0, 0, 0, 0, 0, 0, 0, 0]]⟩),
  (44, ⟨.struct [(0, 43), (12, 43)], 24, 192, [.arr .u64 12 [0, 0, 0, 0, 0, 0, 0, 0, 0, 0, 0, 0], .arr .u64 12 [0, 0, 0, 0, 0, 0, 0, 0, 0, 0, 0, 0]]⟩),
  (45, ⟨.struct [(0, 43), (12, 43)], 24, 192, [.arr .u64 12 [0, 0, 0, 0, 0, 0, 0, 0, 0, 0, 0, 0], .arr .u64 12 [0, 0, 0, 0, 0, 0, 0, 0, 0, 0, 0, 0]]⟩),
  (46, ⟨.slice 53, 1, 24, [.sl 0 [] true]⟩),
  (47, ⟨.struct [(0, 45), (24, 3), (25, 46), (26, 3), (27, 3), (28, 3), (29, 3), (30, 3), (31, 3)], 32, 272, [.arr .u64 12 [0, 0, 0, 0, 0, 0, 0, 0, 0, 0, 0, 0], .arr .u64 12 [0, 0, 0, 0, 0, 0, 0, 0, 0, 0, 0, 0], .sc (.int .i64 0), .sl 0 [] true, .sc (.int .i64 0), .sc (.int .i64 0), .sc (.int .i64 0), .sc (.int .i64 0), .sc (.int .i64 0), .sc (.int .i64 0)]⟩),
  (48, ⟨.struct [(0, 45), (24, 3), (25, 46), (26, 3), (27, 3), (28, 3), (29, 3), (30, 3), (31, 3)], 32, 272, [.arr .u64 12 [0, 0, 0, 0, 0, 0, 0, 0, 0, 0, 0, 0], .arr .u64 12 [0, 0, 0, 0, 0, 0, 0, 0, 0, 0, 0, 0], .sc (.int .i64 0), .sl 0 [] true, .sc (.int .i64 0), .sc (.int .i64 0), .sc (.int .i64 0), .sc (.int .i64 0), .sc (.int .i64 0), .sc (.int .i64 0)]⟩),
  (49, ⟨.other, 1, 8, [.sc .nilFunc]⟩),
  (51, ⟨.other, 1, 8, [.sc .nilFunc]⟩),
  (52, ⟨.struct [(0, 3), (1, 3), (2, 3), (3, 41)], 4, 32, [.sc (.int .i64 0), .sc (.int .i64 0), .sc (.int .i64 0), .sc (.int .u64 0)]⟩),
  (53, ⟨.struct [(0, 3), (1, 3), (2, 3), (3, 41)], 4, 32, [.sc (.int .i64 0), .sc (.int .i64 0), .sc (.int .i64 0), .sc (.int .u64 0)]⟩),
  (54, ⟨.slice 59, 1, 24, [.sl 0 [] true]⟩),
  (56, ⟨.other, 1, 8, [.sc .nilFunc]⟩),
  (57, ⟨.other, 1, 8, [.sc .nilFunc]⟩),
  (58, ⟨.struct [(0, 3), (1, 43)], 13, 104, [.sc (.int .i64 0), .arr .u64 12 [0, 0, 0, 0, 0, 0, 0, 0, 0, 0, 0, 0]]⟩),
  (59, ⟨.struct [(0, 3), (1, 43)], 13, 104, [.sc (.int .i64 0), .arr .u64 12 [0, 0, 0, 0, 0, 0, 0, 0, 0, 0, 0, 0]]⟩),
  (60, ⟨.other, 1, 8, [.sc .nilFunc]⟩),
  (61, ⟨.other, 1, 8, [.sc .nilFunc]⟩),
  (62, ⟨.other, 1, 8, [.sc .nilFunc]⟩),
  (63, ⟨.slice 5, 1, 24, [.sl 0 [] true]⟩),
  (64, ⟨.other, 1, 8, [.sc .nilFunc]⟩),
  (65, ⟨.other, 1, 8, [.sc .nilFunc]⟩),
  (66, ⟨.other, 1, 8, [.sc .nilFunc]⟩),
  (67, ⟨.other, 1, 8, [.sc (.map none)]⟩),
  (68, ⟨.other, 1, 8, [.sc .nilFunc]⟩),
  (69, ⟨.ptr 48, 1, 8, [.sc (.pointer none)]⟩),
  (70, ⟨.other, 1, 8, [.sc .nilFunc]⟩),
  (71, ⟨.other, 1, 8, [.sc .nilFunc]⟩),
  (72, ⟨.other, 1, 8, [.sc .nilFunc]⟩),
  (73, ⟨.other, 1, 8, [.sc .nilFunc]⟩),
  (74, ⟨.other, 1, 8, [.sc .nilFunc]⟩),
  (75, ⟨.other, 1, 8, [.sc .nilFunc]⟩),
  (76, ⟨.other, 1, 8, [.sc .nilFunc]⟩),
  (77, ⟨.other, 1, 8, [.sc .nilFunc]⟩),
  (78, ⟨.other, 1, 8, [.sc .nilFunc]⟩),
  (80, ⟨.other, 1, 8, [.sc .nilFunc]⟩),
  (81, ⟨.int .u64, 1, 8, [.sc (.int .u64 0)]⟩),
  (82, ⟨.slice 3, 1, 24, [.sl 0 [] true]⟩),
  (83, ⟨.other, 1, 8, [.sc .nilFunc]⟩),
  (84, ⟨.other, 1, 8, [.sc .nilFunc]⟩),
  (85, ⟨.other, 1, 8, [.sc .nilFunc]⟩),
  (86, ⟨.struct [(0, 9), (1, 3)], 2, 24, [.sc (.string ⟨#[]⟩), .sc (.int .i64 0)]⟩),
  (87, ⟨.struct [(0, 9), (1, 3)], 2, 24, [.sc (.string ⟨#[]⟩), .sc (.int .i64 0)]⟩),
  (88, ⟨.arr 12 87, 24, 288, [.sc (.string ⟨#[]⟩), .sc (.int .i64 0), .sc (.string ⟨#[]⟩), .sc (.int .i64 0), .sc (.string ⟨#[]⟩), .sc (.int .i64 0), .sc (.string ⟨#[]⟩), .sc (.int .i64 0), .sc (.string ⟨#[]⟩), .sc (.int .i64 0), .sc (.string ⟨#[]⟩), .sc (.int .i64 0), .sc (.string ⟨#[]⟩), .sc (.int .i64 0), .sc (.string ⟨#[]⟩), .sc (.int .i64 0), .sc (.string ⟨#[]⟩), .sc (.int .i64 0), .sc (.string ⟨#[]⟩), .sc (.int .i64 0), .sc (.string ⟨#[]⟩), .sc (.int .i64 0), .sc (.string ⟨#[]⟩), .sc (.int .i64 0)]⟩),
  (89, ⟨.other, 1, 8, [.sc .nilFunc]⟩),
  (90, ⟨.other, 1, 8, [.sc .nilFunc]⟩),
  (96, ⟨.other, 1, 8, [.sc .nilFunc]⟩),
  (97, ⟨.int .u32, 1, 4, [.sc (.int .u32 0)]⟩),
  (100, ⟨.other, 1, 8, [.sc .nilFunc]⟩),
  (101, ⟨.ptr 5, 1, 8, [.sc (.pointer none)]⟩)]

theorem tab_ok : tab.ok Try.prog := Tab.ok_of (by kernel_rfl)
theorem mixed : Try.prog.follows .mixedOrders = true := by kernel_rfl
end Go.Proofs.Ytjchejmakdkioab

set_option linter.unusedVariables false
set_option linter.unusedSimpArgs false
set_option maxRecDepth 100000
set_option maxHeartbeats 4000000
namespace Go.Proofs.Ytjchejmakdkioab
open Go.Sh
theorem wrap_eq {n : Int} (h1 : -9223372036854775808 ≤ n) (h2 : n ≤ 9223372036854775807) : IntKind.i64.wrap n = n := by
  rw [IntKind.wrap_i64]; omega
theorem wrap_succ {i : Nat} (h : i < 9223372036854775807) : IntKind.i64.wrap ((i : Int) + 1) = ((i + 1 : Nat) : Int) := by
  rw [wrap_eq (by omega) (by omega)]; rfl
theorem ixO_lt {α : Type} {xs : List α} {i : Nat} (h : i < xs.length) : ixO xs (i : Int) = some xs[i] := by
  unfold ixO
  rw [if_pos (by omega), Int.toNat_natCast, List.getElem?_eq_getElem h]
theorem fitO_eq {α : Type} {n b : Nat} {r : Option α} (h : n * b ≤ 140737488355328) : fitO n b r = r := by
  unfold fitO; rw [if_pos h]
theorem reqO_eq {α : Type} {b : Bool} {r : Option α} (h : b = true) : reqO b r = r := by
  subst h; rfl
theorem zero_nat : (0 : Int) = ((0 : Nat) : Int) := rfl
def idxF {α : Type} (f : α → Bool) (l : List α) : Int := match l.findIdx? f with | some i => (i : Int) | none => -1
theorem idxF_any {α : Type} (f : α → Bool) (l : List α) : decide (idxF f l ≥ 0) = l.any f := by
  unfold idxF
  cases h : l.findIdx? f with
  | none =>
    have : l.any f = false := by
      rw [Bool.eq_false_iff]
      intro ha
      obtain ⟨x, hx, hf⟩ := List.any_eq_true.1 ha
      have := List.findIdx?_eq_none_iff.1 h x hx
      rw [hf] at this
      cases this
    rw [this]
    rfl
  | some i =>
    have : l.any f = true := by
      obtain ⟨hlt, hp, _⟩ := List.findIdx?_eq_some_iff_getElem.1 h
      exact List.any_eq_true.2 ⟨l[i], List.getElem_mem hlt, hp⟩
    rw [this]
    simp
theorem findIdx_drop {α : Type} (f : α → Bool) {l : List α} {i : Nat} (h : i < l.length) : (l.drop i).findIdx? f = if f l[i] then some 0 else ((l.drop (i + 1)).findIdx? f).map (· + 1) := by
  rw [List.drop_eq_getElem_cons h, List.findIdx?_cons]
def zipAll {α β : Type} (f : α → β → Bool) : List α → List β → Bool
  | [], [] => true
  | x :: l, y :: r => f x y && zipAll f l r
  | _, _ => false
theorem zipAll_beq {α : Type} [DecidableEq α] : ∀ (l r : List α), zipAll (fun x y => x == y) l r = (l == r)
  | [], [] => rfl
  | x :: l, y :: r => by
      rw [zipAll, zipAll_beq l r]
      rfl
  | [], _ :: _ => rfl
  | _ :: _, [] => rfl
theorem zipAll_len {α β : Type} {f : α → β → Bool} : ∀ {l : List α} {r : List β}, zipAll f l r = true → l.length = r.length
  | [], [], _ => rfl
  | x :: l, y :: r, h => by
      rw [zipAll, Bool.and_eq_true] at h
      rw [List.length_cons, List.length_cons, zipAll_len h.2]
  | [], _ :: _, h => by cases h
  | _ :: _, [], h => by cases h
/-- two lists side by side -/
theorem cmp_loop {α β ε ρ : Type} {e : ε} {v : ρ} (L : List α → Nat → Option (Sum ε ρ)) (s2 : List β) (f : α → β → Bool) (h0 : ∀ i, L [] i = some (.inl e)) (h1 : ∀ x rest i, L (x :: rest) i = (ixO s2 ((i : Nat) : Int)).bind fun x1 => bif (!(f x x1)) then some (.inr v) else L rest (i + 1)) :
    ∀ (l : List α) (i : Nat), l.length + i = s2.length → L l i = some (if zipAll f l (s2.drop i) then .inl e else .inr v)
  | [], i, q => by
      rw [h0, List.drop_eq_nil_of_le (by simp at q; omega)]
      rfl
  | x :: l, i, q => by
      have hlt : i < s2.length := by simp at q; omega
      rw [h1, ixO_lt hlt, Option.bind_some, cmp_loop L s2 f h0 h1 l (i + 1) (by simp at q; omega), List.drop_eq_getElem_cons hlt, zipAll]
      cases f x s2[i]
      · rfl
      · simp only [Bool.not_true, cond_false, Bool.true_and]
theorem len_bne {α β : Type} (f : α → AV) (g : β → AV) (a : List α) (b : List β) : ((((List.map f a).length : Nat) : Int) != (((List.map g b).length : Nat) : Int)) = !decide (a.length = b.length) := by
  rw [List.length_map, List.length_map]
  by_cases h : a.length = b.length
  · rw [h]; simp
  · simp [h]; omega
theorem nil_app {α : Type} (l : List α) : ([] : List α) ++ l = l := rfl
theorem zipAll_refl {α : Type} {f : α → α → Bool} : ∀ {l : List α}, (∀ x ∈ l, f x x = true) → zipAll f l l = true
  | [], _ => rfl
  | x :: l, h => by
      rw [zipAll, h x (by simp), zipAll_refl fun y hy => h y (by simp [hy])]
      rfl

/-! ### The fields' sizes -/
def sizes : List Int := [16, 48, 48, 16, 12, 4, 32, 32, 8, 8, 12, 12]
def sizeT (n : Int) : Int := if 0 ≤ n ∧ n < 12 then sizes.getD n.toNat 0 else 0
theorem sizeT_cases (n : Int) : (¬ (0 ≤ n ∧ n < 12) ∧ sizeT n = 0) ∨ (0 ≤ n ∧ n < 12 ∧ ∃ k : Nat, n = k ∧ k < 12 ∧ sizeT n = sizes.getD k 0) := by
  by_cases h : 0 ≤ n ∧ n < 12
  · refine .inr ⟨h.1, h.2, n.toNat, by omega, by omega, ?_⟩
    unfold sizeT; rw [if_pos h]
  · refine .inl ⟨h, ?_⟩
    unfold sizeT; rw [if_neg h]
theorem sizes_in : ∀ k : Nat, 0 ≤ sizes.getD k 0 ∧ sizes.getD k 0 ≤ 48
  | 0 | 1 | 2 | 3 | 4 | 5 | 6 | 7 | 8 | 9 | 10 | 11 => by decide
  | n + 12 => by
    have : sizes.getD (n + 12) 0 = 0 := rfl
    rw [this]; decide
theorem sizeT_in (n : Int) : 0 ≤ sizeT n ∧ sizeT n ≤ 48 := by
  unfold sizeT
  split
  · exact sizes_in _
  · decide
/-- a number fits a field -/
def fitsT (n v : Int) : Bool := decide (v < 2 ^ (sizeT n).toNat)
theorem pow_le48 {k : Nat} (h : k ≤ 48) : (2 : Int) ^ k ≤ 281474976710656 := by
  have : (2 : Nat) ^ k ≤ 2 ^ 48 := Nat.pow_le_pow_right (by omega) h
  have e : ((2 ^ k : Nat) : Int) = (2 : Int) ^ k := by push_cast; rfl
  rw [← e]
  omega
theorem pow_pos2 (k : Nat) : (0 : Int) < (2 : Int) ^ k := Int.pow_pos (by decide)
theorem wrapU_eq {n : Int} (h1 : 0 ≤ n) (h2 : n < 18446744073709551616) : IntKind.u64.wrap n = n := by
  unfold IntKind.wrap
  simp only [IntKind.signed, IntKind.bits, Bool.false_and, Bool.false_eq_true, if_false]
  omega

structure Act where
  Kind : Int
  Port : Int
  Field : Int
  Value : Int
  deriving DecidableEq, Inhabited
def Act.ch (r : Act) : List AV := [.sc (.int .i64 r.Kind), .sc (.int .i64 r.Port), .sc (.int .i64 r.Field), .sc (.int .u64 r.Value)]
def Act.av (r : Act) : AV := .agg [.sc (.int .i64 r.Kind), .sc (.int .i64 r.Port), .sc (.int .i64 r.Field), .sc (.int .u64 r.Value)]
structure Send where
  Port : Int
  Head : List Int
  deriving DecidableEq, Inhabited
def Send.ch (r : Send) : List AV := [.sc (.int .i64 r.Port), .arr .u64 12 r.Head]
def Send.av (r : Send) : AV := .agg [.sc (.int .i64 r.Port), .arr .u64 12 r.Head]
structure Field where
  name : ByteArray
  size : Int
  deriving DecidableEq, Inhabited
def Field.ch (r : Field) : List AV := [.sc (.string r.name), .sc (.int .i64 r.size)]
def Field.av (r : Field) : AV := .agg [.sc (.string r.name), .sc (.int .i64 r.size)]

end Go.Proofs.Ytjchejmakdkioab

set_option linter.unusedVariables false
set_option linter.unusedSimpArgs false
set_option maxRecDepth 100000
set_option maxHeartbeats 4000000
namespace Go.Proofs.Ytjchejmakdkioab
open Go.Sh
/-! ### head.there: function 49 -/
noncomputable def head_there_F : Go.Sh.Fn := ⟨49, bodyOf Try.f49, 9⟩
def head_there_k0 : List Kd := [.pure, .pure, .pure, .pure, .pure, .pure, .pure]
def head_there (n : Int) : Bool :=
  ((decide (n ≥ 0)) && (decide (n < 12)))
theorem head_there_walk (n : Int) (r : Bool) (H : head_there n = r) :
    ACalls Try.prog tab.S 49 [.sc (.int .i64 n)] [] (.sc (.bool r)) [] := by
  have hG := tab_ok
  have hm := mixed
  refine ACalls.of_AR (G := tab) head_there_F (fn := Try.f49) Try.func49 (by kernel_rfl) (by kernel_rfl) (by kernel_rfl) (Nat.le_of_ble_eq_true (by kernel_rfl)) ?_
  intro c0 hc0
  replace hc0 : c0.m.length = 0 := hc0
  rw [head_there] at H
  refine AR.seg hG hm 3 [0] (k' := [.code [1, 0], .code [1, 1]]) (t' := [(0, .sc (.int .i64 n))]) (h' := []) (by kernel_rfl) ?_
  refine AR.reg hm head_there_k0 (by kernel_rfl) ?_
  refine DK.seg hG 3 [0, 5] (t' := [(0, .sc (.int .i64 n)), (5, .sc (.bool (decide (n ≥ 0))))]) (h' := []) (by kernel_rfl) rfl ?_
  refine DK.mux 5 (decide (n ≥ 0)) (j := 6) (h' := []) (by kernel_rfl) (fun z => [(8, .sc (.bool (z && (decide (n < 12)))))]) ?J1 (fun hb J => ?ht1) (fun hb J => ?hf1)
  case ht1 =>
    exact DK.seg hG 3 [8] (by kernel_rfl) rfl J
  case hf1 =>
    exact DK.seg hG 3 [8] (by kernel_rfl) rfl J
  refine DK.seg hG 1 [2] (t' := [(2, .sc (.bool ((decide (n ≥ 0)) && (decide (n < 12)))))]) (h' := []) (by kernel_rfl) rfl ?_
  refine DK.done (by kernel_rfl) (by kernel_rfl) ?_
  subst H
  exact AR.ret0 (fn := Try.f49) hG Try.func49 (by kernel_rfl) hc0 (r0 := .sc (.bool ((decide (n ≥ 0)) && (decide (n < 12))))) (by kernel_rfl) (WkV.refl _)
theorem head_there_calls (n : Int) : ACalls Try.prog tab.S 49 [.sc (.int .i64 n)] [] (.sc (.bool (head_there n))) [] := head_there_walk n _ rfl

/-! ### head.fields: function 52 -/
noncomputable def head_fields_F : Go.Sh.Fn := ⟨52, bodyOf Try.f52, 14⟩
def head_fields : (List Field) :=
  [({ name := (ByteArray.mk #[105, 110]), size := 16 } : Field), ({ name := (ByteArray.mk #[101, 115, 114, 99]), size := 48 } : Field), ({ name := (ByteArray.mk #[101, 100, 115, 116]), size := 48 } : Field), ({ name := (ByteArray.mk #[101, 116, 121, 112, 101]), size := 16 } : Field), ({ name := (ByteArray.mk #[118, 108, 97, 110]), size := 12 } : Field), ({ name := (ByteArray.mk #[112, 99, 112]), size := 4 } : Field), ({ name := (ByteArray.mk #[115, 114, 99]), size := 32 } : Field), ({ name := (ByteArray.mk #[100, 115, 116]), size := 32 } : Field), ({ name := (ByteArray.mk #[112, 114, 111, 116, 111]), size := 8 } : Field), ({ name := (ByteArray.mk #[116, 111, 115]), size := 8 } : Field), ({ name := (ByteArray.mk #[115, 112, 111, 114, 116]), size := 12 } : Field), ({ name := (ByteArray.mk #[100, 112, 111, 114, 116]), size := 12 } : Field)]
theorem head_fields_walk (r : (List Field)) (H : head_fields = r) :
    ACalls Try.prog tab.S 52 [] [] (.agg (List.flatMap Field.ch r)) [] := by
  have hG := tab_ok
  have hm := mixed
  refine ACalls.of_AR (G := tab) head_fields_F (fn := Try.f52) Try.func52 (by kernel_rfl) (by kernel_rfl) (by kernel_rfl) (Nat.le_of_ble_eq_true (by kernel_rfl)) ?_
  intro c0 hc0
  replace hc0 : c0.m.length = 0 := hc0
  rw [head_fields] at H
  refine AR.seg hG hm 4 [0] (k' := [.code [1, 1]]) (t' := [(0, .ptr 0 0 none)]) (h' := [.box 88 (List.flatMap Field.ch [({ name := (ByteArray.mk #[105, 110]), size := 16 } : Field), ({ name := (ByteArray.mk #[101, 115, 114, 99]), size := 48 } : Field), ({ name := (ByteArray.mk #[101, 100, 115, 116]), size := 48 } : Field), ({ name := (ByteArray.mk #[101, 116, 121, 112, 101]), size := 16 } : Field), ({ name := (ByteArray.mk #[118, 108, 97, 110]), size := 12 } : Field), ({ name := (ByteArray.mk #[112, 99, 112]), size := 4 } : Field), ({ name := (ByteArray.mk #[115, 114, 99]), size := 32 } : Field), ({ name := (ByteArray.mk #[100, 115, 116]), size := 32 } : Field), ({ name := (ByteArray.mk #[112, 114, 111, 116, 111]), size := 8 } : Field), ({ name := (ByteArray.mk #[116, 111, 115]), size := 8 } : Field), ({ name := (ByteArray.mk #[115, 112, 111, 114, 116]), size := 12 } : Field), ({ name := (ByteArray.mk #[100, 112, 111, 114, 116]), size := 12 } : Field)])]) (by kernel_rfl) ?_
  subst H
  exact AR.ret0 (fn := Try.f52) hG Try.func52 (by kernel_rfl) hc0 (r0 := .agg (List.flatMap Field.ch [({ name := (ByteArray.mk #[105, 110]), size := 16 } : Field), ({ name := (ByteArray.mk #[101, 115, 114, 99]), size := 48 } : Field), ({ name := (ByteArray.mk #[101, 100, 115, 116]), size := 48 } : Field), ({ name := (ByteArray.mk #[101, 116, 121, 112, 101]), size := 16 } : Field), ({ name := (ByteArray.mk #[118, 108, 97, 110]), size := 12 } : Field), ({ name := (ByteArray.mk #[112, 99, 112]), size := 4 } : Field), ({ name := (ByteArray.mk #[115, 114, 99]), size := 32 } : Field), ({ name := (ByteArray.mk #[100, 115, 116]), size := 32 } : Field), ({ name := (ByteArray.mk #[112, 114, 111, 116, 111]), size := 8 } : Field), ({ name := (ByteArray.mk #[116, 111, 115]), size := 8 } : Field), ({ name := (ByteArray.mk #[115, 112, 111, 114, 116]), size := 12 } : Field), ({ name := (ByteArray.mk #[100, 112, 111, 114, 116]), size := 12 } : Field)])) (by kernel_rfl) (WkV.refl _)
theorem head_fields_calls : ACalls Try.prog tab.S 52 [] [] (.agg (List.flatMap Field.ch (head_fields))) [] := head_fields_walk _ rfl

/-! ### head.Size: function 51 -/
noncomputable def head_Size_F : Go.Sh.Fn := ⟨51, bodyOf Try.f51, 10⟩
def head_Size_k1 : List Kd := [.pure, .pure, .pure, .pure, .pure]
def head_Size_k0 : List Kd := [.pure, .pure, .pure]
def head_Size_raw (n : Int) : Option (Int) :=
  (bif (!(head_there n)) then
    some 0
  else
    (ixO head_fields n).bind fun x =>
    some x.size)
theorem head_Size_walk (n : Int) (r : Int) (H : head_Size_raw n = some r) :
    ACalls Try.prog tab.S 51 [.sc (.int .i64 n)] [] (.sc (.int .i64 r)) [] := by
  have hG := tab_ok
  have hm := mixed
  refine ACalls.of_AR (G := tab) head_Size_F (fn := Try.f51) Try.func51 (by kernel_rfl) (by kernel_rfl) (by kernel_rfl) (Nat.le_of_ble_eq_true (by kernel_rfl)) ?_
  intro c0 hc0
  replace hc0 : c0.m.length = 0 := hc0
  rw [head_Size_raw] at H
  refine AR.seg hG hm 4 [0] (k' := [.code [1, 0, 0], .code [1, 0, 1], .code [1, 1]]) (t' := [(0, .sc (.int .i64 n))]) (h' := []) (by kernel_rfl) ?_
  refine AR.reg hm head_Size_k0 (by kernel_rfl) ?_
  refine DK.seg hG 1 [0, 3] (t' := [(0, .sc (.int .i64 n)), (3, .sc (.int .i64 n))]) (h' := []) (by kernel_rfl) rfl ?_
  refine DK.op' [0, 4] (t' := [(0, .sc (.int .i64 n)), (4, .sc (.bool (head_there n)))]) (h' := []) (LSpec.callP' (head_there_calls n) (by kernel_rfl)) (by kernel_rfl) rfl (by kernel_rfl) rfl ?_
  refine DK.seg hG 1 [0, 5] (t' := [(0, .sc (.int .i64 n)), (5, .sc (.bool (!(head_there n))))]) (h' := []) (by kernel_rfl) rfl ?_
  refine DK.done (by kernel_rfl) (by kernel_rfl) ?_
  refine AR.cond (.tmp 5) (!(head_there n)) (by kernel_rfl) (by kernel_rfl) (fun hb => ?ht1) (fun hb => ?hf1)
  case ht1 =>
    replace H := cond_t hb H
    refine AR.seg hG hm 2 [2] (k' := [.code [1, 0, 1, 0, 1], .code [1, 1]]) (t' := [(2, .sc (.int .i64 0))]) (h' := []) (by kernel_rfl) ?_
    obtain rfl := Option.some.inj H
    exact AR.ret0 (fn := Try.f51) hG Try.func51 (by kernel_rfl) hc0 (r0 := .sc (.int .i64 0)) (by kernel_rfl) (WkV.refl _)
  case hf1 =>
    replace H := cond_f hb H
    refine AR.seg hG hm 2 [0] (k' := [.code [1, 1, 0], .code [1, 1, 1]]) (t' := [(0, .sc (.int .i64 n))]) (h' := []) (by kernel_rfl) ?_
    refine AR.reg hm head_Size_k1 (by kernel_rfl) ?_
    refine DK.op' [0, 6] (t' := [(0, .sc (.int .i64 n)), (6, .agg (List.flatMap Field.ch head_fields))]) (h' := []) (LSpec.callP' (head_fields_calls) (by kernel_rfl)) (by kernel_rfl) rfl (by kernel_rfl) rfl ?_
    refine DK.seg hG 1 [6, 7] (t' := [(6, .agg (List.flatMap Field.ch head_fields)), (7, .sc (.int .i64 n))]) (h' := []) (by kernel_rfl) rfl ?_
    obtain ⟨x, hv, H⟩ := Option.bind_eq_some_iff.1 H
    refine DK.op' [8] (t' := [(8, Field.av x)]) (h' := []) (LSpec.idxRows' hG (rv := Field.av x) head_fields Field.ch 2 (m := 12) hv (by kernel_rfl) (by kernel_rfl) (by kernel_rfl) (by kernel_rfl)) (by kernel_rfl) rfl (by kernel_rfl) rfl ?_
    refine DK.op' [9] (t' := [(9, .sc (.int .i64 x.size))]) (h' := []) (LSpec.field (r := .sc (.int .i64 x.size)) hG (by kernel_rfl)) (by kernel_rfl) rfl (by kernel_rfl) rfl ?_
    refine DK.seg hG 1 [2] (t' := [(2, .sc (.int .i64 x.size))]) (h' := []) (by kernel_rfl) rfl ?_
    refine DK.done (by kernel_rfl) (by kernel_rfl) ?_
    obtain rfl := Option.some.inj H
    exact AR.ret0 (fn := Try.f51) hG Try.func51 (by kernel_rfl) hc0 (r0 := .sc (.int .i64 x.size)) (by kernel_rfl) (WkV.refl _)

theorem head_Size_ok (n : Int) : ACalls Try.prog tab.S 51 [.sc (.int .i64 n)] [] (.sc (.int .i64 (sizeT n))) [] := by
  refine head_Size_walk n (sizeT n) ?_
  rw [head_Size_raw, head_there]
  rcases sizeT_cases n with ⟨h, e⟩ | ⟨h1, h2, k, rfl, hk, e⟩
  · rw [e]
    have : (decide (n ≥ 0) && decide (n < 12)) = false := by
      rw [Bool.and_eq_false_iff, decide_eq_false_iff_not, decide_eq_false_iff_not]; omega
    rw [this]
    rfl
  · rw [e, decide_eq_true h1, decide_eq_true h2]
    match k, hk with
    | 0, _ | 1, _ | 2, _ | 3, _ | 4, _ | 5, _ | 6, _ | 7, _ | 8, _ | 9, _ | 10, _ | 11, _ => rfl

/-! ### head.fits: function 50 -/
noncomputable def head_fits_F : Go.Sh.Fn := ⟨50, bodyOf Try.f50, 10⟩
def head_fits_k0 : List Kd := [.pure, .pure, .pure, .pure, .pure, .pure]
def head_fits_raw (n : Int) (v : Int) : Option (Bool) :=
  reqO (decide (0 ≤ (sizeT n))) (
  some ((Int.fdiv v (2 ^ (min ((sizeT n)).toNat (IntKind.u64).bits))) == 0))
theorem head_fits_walk (n : Int) (v : Int) (r : Bool) (H : head_fits_raw n v = some r) :
    ACalls Try.prog tab.S 50 [.sc (.int .i64 n), .sc (.int .u64 v)] [] (.sc (.bool r)) [] := by
  have hG := tab_ok
  have hm := mixed
  refine ACalls.of_AR (G := tab) head_fits_F (fn := Try.f50) Try.func50 (by kernel_rfl) (by kernel_rfl) (by kernel_rfl) (Nat.le_of_ble_eq_true (by kernel_rfl)) ?_
  intro c0 hc0
  replace hc0 : c0.m.length = 0 := hc0
  rw [head_fits_raw] at H
  refine AR.seg hG hm 3 [0, 1] (k' := [.code [1, 0], .code [1, 1]]) (t' := [(0, .sc (.int .i64 n)), (1, .sc (.int .u64 v))]) (h' := []) (by kernel_rfl) ?_
  refine AR.reg hm head_fits_k0 (by kernel_rfl) ?_
  refine DK.seg hG 2 [5, 6] (t' := [(5, .sc (.int .u64 v)), (6, .sc (.int .i64 n))]) (h' := []) (by kernel_rfl) rfl ?_
  refine DK.op' [5, 7] (t' := [(5, .sc (.int .u64 v)), (7, .sc (.int .i64 (sizeT n)))]) (h' := []) (LSpec.callP' (head_Size_ok n) (by kernel_rfl)) (by kernel_rfl) rfl (by kernel_rfl) rfl ?_
  obtain ⟨hreq, H⟩ := reqO_some H
  refine DK.op' [8] (t' := [(8, .sc (.int .u64 (Int.fdiv v (2 ^ (min ((sizeT n)).toNat (IntKind.u64).bits)))))]) (h' := []) (LSpec.shr (k := .u64) (a := v) (k' := .i64) (b := (sizeT n)) hreq (by kernel_rfl)) (by kernel_rfl) rfl (by kernel_rfl) rfl ?_
  refine DK.seg hG 2 [4] (t' := [(4, .sc (.bool ((Int.fdiv v (2 ^ (min ((sizeT n)).toNat (IntKind.u64).bits))) == 0)))]) (h' := []) (by kernel_rfl) rfl ?_
  refine DK.done (by kernel_rfl) (by kernel_rfl) ?_
  obtain rfl := Option.some.inj H
  exact AR.ret0 (fn := Try.f50) hG Try.func50 (by kernel_rfl) hc0 (r0 := .sc (.bool ((Int.fdiv v (2 ^ (min ((sizeT n)).toNat (IntKind.u64).bits))) == 0))) (by kernel_rfl) (WkV.refl _)

theorem fits_fdiv {n v : Int} : (Int.fdiv v (2 ^ (min (sizeT n).toNat (IntKind.u64).bits)) == 0) = (decide (0 ≤ v) && fitsT n v) := by
  have hs := sizeT_in n
  have hm : min (sizeT n).toNat (IntKind.u64).bits = (sizeT n).toNat := Nat.min_eq_left (by show _ ≤ 64; omega)
  rw [hm]
  have hp := pow_pos2 (sizeT n).toNat
  unfold fitsT
  rw [Bool.eq_iff_iff, Bool.and_eq_true, decide_eq_true_eq, decide_eq_true_eq, beq_iff_eq]
  rw [Int.fdiv_eq_ediv_of_nonneg _ (Int.le_of_lt hp)]
  constructor
  · intro h
    have h1 := Int.mul_ediv_add_emod v ((2 : Int) ^ (sizeT n).toNat)
    have h2 := Int.emod_nonneg v (Int.ne_of_gt hp)
    have h3 := Int.emod_lt_of_pos v hp
    rw [h, Int.mul_zero, Int.zero_add] at h1
    rw [h1] at h2 h3
    exact ⟨h2, h3⟩
  · intro h
    exact Int.ediv_eq_zero_of_lt h.1 h.2
def fitsH (n v : Int) : Bool := decide (0 ≤ v) && fitsT n v
theorem head_fits_ok (n v : Int) : ACalls Try.prog tab.S 50 [.sc (.int .i64 n), .sc (.int .u64 v)] [] (.sc (.bool (fitsH n v))) [] := by
  refine head_fits_walk n v _ ?_
  rw [head_fits_raw, reqO_eq (decide_eq_true (sizeT_in n).1), fits_fdiv]
  rfl

/-! ### head.Set: function 46 -/
noncomputable def head_Set_F : Go.Sh.Fn := ⟨46, bodyOf Try.f46, 23⟩
def head_Set_k2 : List Kd := [.pure, .pure, .pure, .loud]
def head_Set_k1 : List Kd := [.pure, .pure, .pure, .pure, .pure]
def head_Set_k0 : List Kd := [.pure, .pure, .pure, .pure]
def head_Set_raw (h1 : List Int) (n : Int) (v : Int) : Option ((List Int) × Int) :=
  (bif (!(head_there n)) then
    some ([0, 0, 0, 0, 0, 0, 0, 0, 0, 0, 0, 0], 1)
  else
    (bif (!(fitsH n v)) then
      some ([0, 0, 0, 0, 0, 0, 0, 0, 0, 0, 0, 0], 13)
    else
      reqO (decide (0 ≤ n) && decide (n < ((12 : Nat) : Int))) (
      some ((h1.set (n.toNat) v), 0))))
theorem head_Set_walk (h1 : List Int) (n : Int) (v : Int) (r : (List Int) × Int) (H : head_Set_raw h1 n v = some r) :
    ACalls Try.prog tab.S 46 [.arr .u64 12 h1, .sc (.int .i64 n), .sc (.int .u64 v)] [] (.tup [.arr .u64 12 r.1, .sc (.int .i64 r.2)]) [] := by
  have hG := tab_ok
  have hm := mixed
  refine ACalls.of_AR (G := tab) head_Set_F (fn := Try.f46) Try.func46 (by kernel_rfl) (by kernel_rfl) (by kernel_rfl) (Nat.le_of_ble_eq_true (by kernel_rfl)) ?_
  intro c0 hc0
  replace hc0 : c0.m.length = 0 := hc0
  rw [head_Set_raw] at H
  refine AR.seg hG hm 5 [1, 2, 3, 6] (k' := [.code [1, 0, 0, 0], .code [1, 0, 0, 1], .blk 0, .code [1, 1]]) (t' := [(1, .sc (.int .i64 n)), (2, .sc (.int .u64 v)), (3, .ptr 0 0 none), (6, .ptr 1 0 none)]) (h' := [.box 43 [.arr .u64 12 h1], .box 43 [.arr .u64 12 [0, 0, 0, 0, 0, 0, 0, 0, 0, 0, 0, 0]]]) (by kernel_rfl) ?_
  refine AR.reg hm head_Set_k0 (by kernel_rfl) ?_
  refine DK.seg hG 1 [1, 2, 3, 6, 9] (t' := [(1, .sc (.int .i64 n)), (2, .sc (.int .u64 v)), (3, .ptr 0 0 none), (6, .ptr 1 0 none), (9, .sc (.int .i64 n))]) (h' := [.box 43 [.arr .u64 12 h1], .box 43 [.arr .u64 12 [0, 0, 0, 0, 0, 0, 0, 0, 0, 0, 0, 0]]]) (by kernel_rfl) rfl ?_
  refine DK.op' [1, 2, 3, 6, 10] (t' := [(1, .sc (.int .i64 n)), (2, .sc (.int .u64 v)), (3, .ptr 0 0 none), (6, .ptr 1 0 none), (10, .sc (.bool (head_there n)))]) (h' := [.box 43 [.arr .u64 12 h1], .box 43 [.arr .u64 12 [0, 0, 0, 0, 0, 0, 0, 0, 0, 0, 0, 0]]]) (LSpec.callP' (head_there_calls n) (by kernel_rfl)) (by kernel_rfl) rfl (by kernel_rfl) rfl ?_
  refine DK.seg hG 2 [1, 2, 3, 6, 8] (t' := [(1, .sc (.int .i64 n)), (2, .sc (.int .u64 v)), (3, .ptr 0 0 none), (6, .ptr 1 0 none), (8, .sc (.bool (!(head_there n))))]) (h' := [.box 43 [.arr .u64 12 h1], .box 43 [.arr .u64 12 [0, 0, 0, 0, 0, 0, 0, 0, 0, 0, 0, 0]]]) (by kernel_rfl) rfl ?_
  refine DK.done (by kernel_rfl) (by kernel_rfl) ?_
  refine AR.cond (.tmp 8) (!(head_there n)) (by kernel_rfl) (by kernel_rfl) (fun hb => ?ht1) (fun hb => ?hf1)
  case ht1 =>
    replace H := cond_t hb H
    refine AR.seg hG hm 2 [6, 7] (k' := [.code [1, 0, 0, 1, 0, 1], .blk 0, .code [1, 1]]) (t' := [(6, .ptr 1 0 none), (7, .sc (.int .i64 1))]) (h' := [.box 43 [.arr .u64 12 h1], .box 43 [.arr .u64 12 [0, 0, 0, 0, 0, 0, 0, 0, 0, 0, 0, 0]]]) (by kernel_rfl) ?_
    obtain rfl := Option.some.inj H
    exact AR.ret0 (fn := Try.f46) hG Try.func46 (by kernel_rfl) hc0 (r0 := .tup [.arr .u64 12 [0, 0, 0, 0, 0, 0, 0, 0, 0, 0, 0, 0], .sc (.int .i64 1)]) (by kernel_rfl) (WkV.refl _)
  case hf1 =>
    replace H := cond_f hb H
    refine AR.seg hG hm 1 [1, 2, 3, 6] (k' := [.code [1, 0, 0, 1, 1, 0], .code [1, 0, 0, 1, 1, 1], .blk 0, .code [1, 1]]) (t' := [(1, .sc (.int .i64 n)), (2, .sc (.int .u64 v)), (3, .ptr 0 0 none), (6, .ptr 1 0 none)]) (h' := [.box 43 [.arr .u64 12 h1], .box 43 [.arr .u64 12 [0, 0, 0, 0, 0, 0, 0, 0, 0, 0, 0, 0]]]) (by kernel_rfl) ?_
    refine AR.reg hm head_Set_k1 (by kernel_rfl) ?_
    refine DK.seg hG 2 [1, 2, 3, 6, 14, 15] (t' := [(1, .sc (.int .i64 n)), (2, .sc (.int .u64 v)), (3, .ptr 0 0 none), (6, .ptr 1 0 none), (14, .sc (.int .i64 n)), (15, .sc (.int .u64 v))]) (h' := [.box 43 [.arr .u64 12 h1], .box 43 [.arr .u64 12 [0, 0, 0, 0, 0, 0, 0, 0, 0, 0, 0, 0]]]) (by kernel_rfl) rfl ?_
    refine DK.op' [1, 2, 3, 6, 16] (t' := [(1, .sc (.int .i64 n)), (2, .sc (.int .u64 v)), (3, .ptr 0 0 none), (6, .ptr 1 0 none), (16, .sc (.bool (fitsH n v)))]) (h' := [.box 43 [.arr .u64 12 h1], .box 43 [.arr .u64 12 [0, 0, 0, 0, 0, 0, 0, 0, 0, 0, 0, 0]]]) (LSpec.callP' (head_fits_ok n v) (by kernel_rfl)) (by kernel_rfl) rfl (by kernel_rfl) rfl ?_
    refine DK.seg hG 2 [1, 2, 3, 6, 13] (t' := [(1, .sc (.int .i64 n)), (2, .sc (.int .u64 v)), (3, .ptr 0 0 none), (6, .ptr 1 0 none), (13, .sc (.bool (!(fitsH n v))))]) (h' := [.box 43 [.arr .u64 12 h1], .box 43 [.arr .u64 12 [0, 0, 0, 0, 0, 0, 0, 0, 0, 0, 0, 0]]]) (by kernel_rfl) rfl ?_
    refine DK.done (by kernel_rfl) (by kernel_rfl) ?_
    refine AR.cond (.tmp 13) (!(fitsH n v)) (by kernel_rfl) (by kernel_rfl) (fun hb => ?ht2) (fun hb => ?hf2)
    case ht2 =>
      replace H := cond_t hb H
      refine AR.seg hG hm 2 [6, 7] (k' := [.code [1, 0, 0, 1, 1, 1, 0, 1], .blk 0, .code [1, 1]]) (t' := [(6, .ptr 1 0 none), (7, .sc (.int .i64 13))]) (h' := [.box 43 [.arr .u64 12 h1], .box 43 [.arr .u64 12 [0, 0, 0, 0, 0, 0, 0, 0, 0, 0, 0, 0]]]) (by kernel_rfl) ?_
      obtain rfl := Option.some.inj H
      exact AR.ret0 (fn := Try.f46) hG Try.func46 (by kernel_rfl) hc0 (r0 := .tup [.arr .u64 12 [0, 0, 0, 0, 0, 0, 0, 0, 0, 0, 0, 0], .sc (.int .i64 13)]) (by kernel_rfl) (WkV.refl _)
    case hf2 =>
      replace H := cond_f hb H
      refine AR.seg hG hm 3 [1, 2, 3, 6] (k' := [.code [1, 1, 0], .code [1, 1, 1]]) (t' := [(1, .sc (.int .i64 n)), (2, .sc (.int .u64 v)), (3, .ptr 0 0 none), (6, .ptr 1 0 none)]) (h' := [.box 43 [.arr .u64 12 h1], .box 43 [.arr .u64 12 [0, 0, 0, 0, 0, 0, 0, 0, 0, 0, 0, 0]]]) (by kernel_rfl) ?_
      refine AR.reg hm head_Set_k2 (by kernel_rfl) ?_
      refine DK.seg hG 2 [3, 6, 19, 20] (t' := [(3, .ptr 0 0 none), (6, .ptr 1 0 none), (19, .sc (.int .i64 n)), (20, .sc (.int .u64 v))]) (h' := [.box 43 [.arr .u64 12 h1], .box 43 [.arr .u64 12 [0, 0, 0, 0, 0, 0, 0, 0, 0, 0, 0, 0]]]) (by kernel_rfl) rfl ?_
      obtain ⟨hreq, H⟩ := reqO_some H
      refine DK.op' [3, 6, 20, 21] (t' := [(3, .ptr 0 0 none), (6, .ptr 1 0 none), (20, .sc (.int .u64 v)), (21, .ptr 0 0 (some (n.toNat, 12)))]) (h' := [.box 43 [.arr .u64 12 h1], .box 43 [.arr .u64 12 [0, 0, 0, 0, 0, 0, 0, 0, 0, 0, 0, 0]]]) (LSpec.idxPtr (o := 0) (off := 0) (m := 12) (j := n) hG hreq (by kernel_rfl)) (by kernel_rfl) rfl (by kernel_rfl) rfl ?_
      refine DK.seg hG 1 [3, 6] (t' := [(3, .ptr 0 0 none), (6, .ptr 1 0 none)]) (h' := [.box 43 [.arr .u64 12 (h1.set (n.toNat) v)], .box 43 [.arr .u64 12 [0, 0, 0, 0, 0, 0, 0, 0, 0, 0, 0, 0]]]) (by kernel_rfl) rfl ?_
      refine DK.done (by kernel_rfl) (by kernel_rfl) ?_
      refine AR.seg hG hm 2 [6, 7] (k' := [.code [1, 1, 1, 1]]) (t' := [(6, .ptr 1 0 none), (7, .sc (.int .i64 0))]) (h' := [.box 43 [.arr .u64 12 (h1.set (n.toNat) v)], .box 43 [.arr .u64 12 (h1.set (n.toNat) v)]]) (by kernel_rfl) ?_
      obtain rfl := Option.some.inj H
      exact AR.ret0 (fn := Try.f46) hG Try.func46 (by kernel_rfl) hc0 (r0 := .tup [.arr .u64 12 (h1.set (n.toNat) v), .sc (.int .i64 0)]) (by kernel_rfl) (WkV.refl _)

def setT_ (h : List Int) (n v : Int) : List Int × Int :=
  if head_there n then (if fitsH n v then (h.set n.toNat v, 0) else ([0, 0, 0, 0, 0, 0, 0, 0, 0, 0, 0, 0], 13)) else ([0, 0, 0, 0, 0, 0, 0, 0, 0, 0, 0, 0], 1)
theorem head_Set_ok (h : List Int) (n v : Int) : ACalls Try.prog tab.S 46 [.arr .u64 12 h, .sc (.int .i64 n), .sc (.int .u64 v)] [] (.tup [.arr .u64 12 (setT_ h n v).1, .sc (.int .i64 (setT_ h n v).2)]) [] := by
  refine head_Set_walk h n v (setT_ h n v) ?_
  rw [head_Set_raw]
  unfold setT_
  cases ht : head_there n
  · rfl
  · cases hf : fitsH n v
    · rfl
    · have hn : (decide (0 ≤ n) && decide (n < ((12 : Nat) : Int))) = true := ht
      simp only [Bool.not_true, cond_false, if_true]
      rw [reqO_eq hn]

end Go.Proofs.Ytjchejmakdkioab

set_option linter.unusedVariables false
set_option linter.unusedSimpArgs false
set_option maxRecDepth 100000
set_option maxHeartbeats 4000000
namespace Go.Proofs.Ytjchejmakdkioab
open Go.Sh
/-! ### podestaref01.Size: function 40 -/
noncomputable def podestaref01_Size_F : Go.Sh.Fn := ⟨40, bodyOf Try.f40, 13⟩
def podestaref01_Size_k1 : List Kd := [.pure, .pure, .pure, .pure, .pure]
def podestaref01_Size_k0 : List Kd := [.pure, .pure, .pure, .pure, .pure, .pure]
def podestaref01_Size_raw (field : Int) : Option (Int) :=
  (bif ((decide (field < 0)) || (decide (field > 11))) then
    some 0
  else
    (ixO [16, 48, 48, 16, 12, 4, 32, 32, 8, 8, 12, 12] field).bind fun x =>
    some x)
theorem podestaref01_Size_walk (field : Int) (r : Int) (H : podestaref01_Size_raw field = some r) :
    ACalls Try.prog tab.S 40 [.sc (.int .i64 field)] [] (.sc (.int .i64 r)) [] := by
  have hG := tab_ok
  have hm := mixed
  refine ACalls.of_AR (G := tab) podestaref01_Size_F (fn := Try.f40) Try.func40 (by kernel_rfl) (by kernel_rfl) (by kernel_rfl) (Nat.le_of_ble_eq_true (by kernel_rfl)) ?_
  intro c0 hc0
  replace hc0 : c0.m.length = 0 := hc0
  rw [podestaref01_Size_raw] at H
  refine AR.seg hG hm 4 [0] (k' := [.code [1, 0, 0], .code [1, 0, 1], .code [1, 1]]) (t' := [(0, .sc (.int .i64 field))]) (h' := []) (by kernel_rfl) ?_
  refine AR.reg hm podestaref01_Size_k0 (by kernel_rfl) ?_
  refine DK.seg hG 3 [0, 5] (t' := [(0, .sc (.int .i64 field)), (5, .sc (.bool (decide (field < 0))))]) (h' := []) (by kernel_rfl) rfl ?_
  refine DK.mux 5 (decide (field < 0)) (j := 6) (h' := []) (by kernel_rfl) (fun z => [(0, .sc (.int .i64 field)), (8, .sc (.bool (z || (decide (field > 11)))))]) ?J1 (fun hb J => ?ht1) (fun hb J => ?hf1)
  case ht1 =>
    exact DK.seg hG 3 [0, 8] (by kernel_rfl) rfl J
  case hf1 =>
    exact DK.seg hG 3 [0, 8] (by kernel_rfl) rfl J
  refine DK.done (by kernel_rfl) (by kernel_rfl) ?_
  refine AR.cond (.tmp 8) ((decide (field < 0)) || (decide (field > 11))) (by kernel_rfl) (by kernel_rfl) (fun hb => ?ht2) (fun hb => ?hf2)
  case ht2 =>
    replace H := cond_t hb H
    refine AR.seg hG hm 2 [2] (k' := [.code [1, 0, 1, 0, 1], .code [1, 1]]) (t' := [(2, .sc (.int .i64 0))]) (h' := []) (by kernel_rfl) ?_
    obtain rfl := Option.some.inj H
    exact AR.ret0 (fn := Try.f40) hG Try.func40 (by kernel_rfl) hc0 (r0 := .sc (.int .i64 0)) (by kernel_rfl) (WkV.refl _)
  case hf2 =>
    replace H := cond_f hb H
    refine AR.seg hG hm 2 [0] (k' := [.code [1, 1, 0], .code [1, 1, 1]]) (t' := [(0, .sc (.int .i64 field))]) (h' := []) (by kernel_rfl) ?_
    refine AR.reg hm podestaref01_Size_k1 (by kernel_rfl) ?_
    refine DK.seg hG 2 [9, 10] (t' := [(9, .sl 3 (List.map (intA .i64) [16, 48, 48, 16, 12, 4, 32, 32, 8, 8, 12, 12]) true), (10, .sc (.int .i64 field))]) (h' := []) (by kernel_rfl) rfl ?_
    obtain ⟨x, hv, H⟩ := Option.bind_eq_some_iff.1 H
    refine DK.op' [11] (t' := [(11, .ep [.sc (.int .i64 x)] 0 none)]) (h' := []) (LSpec.index' (r := .sc (.int .i64 x)) (fs := [.sc (.int .i64 x)]) hG (rows := List.map (intA .i64) [16, 48, 48, 16, 12, 4, 32, 32, 8, 8, 12, 12]) (j := field) (by kernel_rfl) (ixO_map hv _) (by kernel_rfl)) (by kernel_rfl) rfl (by kernel_rfl) rfl ?_
    refine DK.seg hG 2 [2] (t' := [(2, .sc (.int .i64 x))]) (h' := []) (by kernel_rfl) rfl ?_
    refine DK.done (by kernel_rfl) (by kernel_rfl) ?_
    obtain rfl := Option.some.inj H
    exact AR.ret0 (fn := Try.f40) hG Try.func40 (by kernel_rfl) hc0 (r0 := .sc (.int .i64 x)) (by kernel_rfl) (WkV.refl _)

theorem podestaref01_Size_ok (n : Int) : ACalls Try.prog tab.S 40 [.sc (.int .i64 n)] [] (.sc (.int .i64 (sizeT n))) [] := by
  refine podestaref01_Size_walk n (sizeT n) ?_
  rw [podestaref01_Size_raw]
  rcases sizeT_cases n with ⟨h, e⟩ | ⟨h1, h2, k, rfl, hk, e⟩
  · rw [e]
    have : ((decide (n < 0)) || (decide (n > 11))) = true := by
      rw [Bool.or_eq_true, decide_eq_true_eq, decide_eq_true_eq]; omega
    rw [this]
    rfl
  · rw [e, decide_eq_false (by omega), decide_eq_false (by omega)]
    match k, hk with
    | 0, _ | 1, _ | 2, _ | 3, _ | 4, _ | 5, _ | 6, _ | 7, _ | 8, _ | 9, _ | 10, _ | 11, _ => rfl

/-! ### podestaref01.Fits: function 39 -/
noncomputable def podestaref01_Fits_F : Go.Sh.Fn := ⟨39, bodyOf Try.f39, 10⟩
def podestaref01_Fits_k0 : List Kd := [.pure, .pure, .pure, .pure, .pure, .pure]
def podestaref01_Fits (v : Int) (size : Int) : Bool :=
  (decide (v < (IntKind.u64.wrap (1 * 2 ^ (min ((IntKind.u64.wrap size)).toNat (IntKind.u64).bits)))))
theorem podestaref01_Fits_walk (v : Int) (size : Int) (r : Bool) (H : podestaref01_Fits v size = r) :
    ACalls Try.prog tab.S 39 [.sc (.int .u64 v), .sc (.int .i64 size)] [] (.sc (.bool r)) [] := by
  have hG := tab_ok
  have hm := mixed
  refine ACalls.of_AR (G := tab) podestaref01_Fits_F (fn := Try.f39) Try.func39 (by kernel_rfl) (by kernel_rfl) (by kernel_rfl) (Nat.le_of_ble_eq_true (by kernel_rfl)) ?_
  intro c0 hc0
  replace hc0 : c0.m.length = 0 := hc0
  rw [podestaref01_Fits] at H
  refine AR.seg hG hm 3 [0, 1] (k' := [.code [1, 0], .code [1, 1]]) (t' := [(0, .sc (.int .u64 v)), (1, .sc (.int .i64 size))]) (h' := []) (by kernel_rfl) ?_
  refine AR.reg hm podestaref01_Fits_k0 (by kernel_rfl) ?_
  refine DK.seg hG 3 [5, 7] (t' := [(5, .sc (.int .u64 v)), (7, .sc (.int .u64 (IntKind.u64.wrap size)))]) (h' := []) (by kernel_rfl) rfl ?_
  refine DK.op' [5, 8] (t' := [(5, .sc (.int .u64 v)), (8, .sc (.int .u64 (IntKind.u64.wrap (1 * 2 ^ (min ((IntKind.u64.wrap size)).toNat (IntKind.u64).bits)))))]) (h' := []) (LSpec.shl (k := .u64) (a := 1) (k' := .u64) (b := (IntKind.u64.wrap size)) (wrapU_nonneg _) (by kernel_rfl)) (by kernel_rfl) rfl (by kernel_rfl) rfl ?_
  refine DK.seg hG 2 [4] (t' := [(4, .sc (.bool (decide (v < (IntKind.u64.wrap (1 * 2 ^ (min ((IntKind.u64.wrap size)).toNat (IntKind.u64).bits)))))))]) (h' := []) (by kernel_rfl) rfl ?_
  refine DK.done (by kernel_rfl) (by kernel_rfl) ?_
  subst H
  exact AR.ret0 (fn := Try.f39) hG Try.func39 (by kernel_rfl) hc0 (r0 := .sc (.bool (decide (v < (IntKind.u64.wrap (1 * 2 ^ (min ((IntKind.u64.wrap size)).toNat (IntKind.u64).bits))))))) (by kernel_rfl) (WkV.refl _)
theorem podestaref01_Fits_calls (v : Int) (size : Int) : ACalls Try.prog tab.S 39 [.sc (.int .u64 v), .sc (.int .i64 size)] [] (.sc (.bool (podestaref01_Fits v size))) [] := podestaref01_Fits_walk v size _ rfl

theorem refFits_eq (n v : Int) : podestaref01_Fits v (sizeT n) = fitsT n v := by
  have hs := sizeT_in n
  unfold podestaref01_Fits fitsT
  have h1 : IntKind.u64.wrap (sizeT n) = sizeT n := wrapU_eq hs.1 (by omega)
  have hm : min (sizeT n).toNat (IntKind.u64).bits = (sizeT n).toNat := Nat.min_eq_left (by show _ ≤ 64; omega)
  have hp := pow_le48 (k := (sizeT n).toNat) (by omega)
  have hq := pow_pos2 (sizeT n).toNat
  rw [h1, hm, Int.one_mul, wrapU_eq (by omega) (by omega)]

/-! ### podestaref04.Acts: function 25 -/
noncomputable def podestaref04_Acts_F : Go.Sh.Fn := ⟨25, bodyOf Try.f25, 81⟩
def podestaref04_Acts_k1 : List Kd := [.pure, .read, .pure, .pure, .pure, .read, .pure, .pure, .pure, .pure, .read, .pure, .pure, .pure, .pure, .read, .pure, .pure, .pure]
def podestaref04_Acts_k2 : List Kd := [.pure, .read, .pure, .pure, .pure, .read, .pure, .pure, .pure, .pure, .read, .pure, .pure, .pure, .pure, .read, .pure, .read, .pure, .pure, .pure, .pure]
def podestaref04_Acts_k3 : List Kd := [.pure, .read, .pure, .pure, .pure, .read, .pure, .pure, .pure, .pure, .read, .pure, .pure, .pure]
def podestaref04_Acts_k0 : List Kd := [.pure, .pure, .pure, .pure, .loud, .loud]
def podestaref04_Acts_l0s : List Act → Sum (Unit) (Bool)
  | [] =>
    (.inl ())
  | x :: rest =>
    (bif (!(bif (x.Kind == 1) then ((((decide (x.Port ≥ 1)) && (decide (x.Port ≤ 16))) && (x.Field == 0)) && (x.Value == 0)) else (bif (x.Kind == 2) then ((((x.Port == 0) && (decide (x.Field ≥ 0))) && (decide (x.Field < 12))) && (podestaref01_Fits x.Value (sizeT x.Field))) else ((x.Kind == 3) && (((x.Port == 0) && (x.Field == 0)) && (x.Value == 0)))))) then
      (.inr false)
    else
      podestaref04_Acts_l0s rest )
theorem podestaref04_Acts_l0_walk (l : List Act) (f_l : Bool) (r : Bool) (c0 : Ctx) (hc0 : c0.m.length = 0) (res : Sum (Unit) (Bool)) (J : ∀ w : Unit, res = .inl w → AR Try.prog tab podestaref04_Acts_F c0 (Rp tab.S c0 (.sc (.bool r)) []) [.code [1, 1]] [(0, .sl 53 (List.map Act.av l) f_l)] []) (Jr : ∀ w, res = .inr w → w = r) :
    ∀ (rest : List Act) (i : Nat) (hd : l.drop i = rest) (H : podestaref04_Acts_l0s rest = res), AR Try.prog tab podestaref04_Acts_F c0 (Rp tab.S c0 (.sc (.bool r)) []) [.code [1, 0, 1, 0, 0], .loop [1, 0, 1, 0], .blk 0, .code [1, 1]] [(0, .sl 53 (List.map Act.av l) f_l), (3, .sc (.int .i64 ((i : Nat) : Int)))] [] := by
  have hG := tab_ok
  have hm := mixed
  intro rest
  induction rest with
  | nil =>
    intro i hd  H
    rw [podestaref04_Acts_l0s] at H
    refine AR.facts 0 rfl fun hf => ?_
    have hlen : l.length ≤ 9223372036854775807 := by have hq := len_ok hf.2.1; rw [List.length_map] at hq; exact hq
    have hge : l.length ≤ i := List.drop_eq_nil_iff.1 hd
    have hc : (decide (((i : Nat) : Int) < (((List.map Act.av l).length : Nat) : Int))) = false := by rw [List.length_map]; exact decide_eq_false (by omega)
    refine AR.seg hG hm 3 [0, 3, 9] (k' := [.code [1, 0, 1, 0, 0, 0, 1], .code [1, 0, 1, 0, 0, 1], .loop [1, 0, 1, 0], .blk 0, .code [1, 1]]) (t' := [(0, .sl 53 (List.map Act.av l) f_l), (3, .sc (.int .i64 ((i : Nat) : Int))), (9, .sc (.bool (decide (((i : Nat) : Int) < (((List.map Act.av l).length : Nat) : Int)))))]) (h' := []) (by kernel_rfl) ?_
    refine AR.cond (.tmp 9) (decide (((i : Nat) : Int) < (((List.map Act.av l).length : Nat) : Int))) (by kernel_rfl) (by kernel_rfl) (fun hb => ?ht130) (fun hb => ?hf130)
    case ht130 => exact absurd (hb.symm.trans hc) (by decide)
    case hf130 =>
      refine AR.seg hG hm 1 [0] (k' := [.code [1, 1]]) (t' := [(0, .sl 53 (List.map Act.av l) f_l)]) (h' := []) (by kernel_rfl) ?_
      refine AR.keep [0] (t' := [(0, .sl 53 (List.map Act.av l) f_l)]) (by kernel_rfl) ?_
      exact J () H.symm
  | cons x rest ih =>
    intro i hd  H
    rw [podestaref04_Acts_l0s] at H
    refine AR.facts 0 rfl fun hf => ?_
    have hlen : l.length ≤ 9223372036854775807 := by have hq := len_ok hf.2.1; rw [List.length_map] at hq; exact hq
    obtain ⟨hlt, hv_i, hd2⟩ := drop_cons hd
    have hc : (decide (((i : Nat) : Int) < (((List.map Act.av l).length : Nat) : Int))) = true := by rw [List.length_map]; exact decide_eq_true (by omega)
    have hw : IntKind.i64.wrap (((i : Nat) : Int) + 1) = ((i + 1 : Nat) : Int) := wrapI_succ (by omega)
    refine AR.seg hG hm 3 [0, 3, 9] (k' := [.code [1, 0, 1, 0, 0, 0, 1], .code [1, 0, 1, 0, 0, 1], .loop [1, 0, 1, 0], .blk 0, .code [1, 1]]) (t' := [(0, .sl 53 (List.map Act.av l) f_l), (3, .sc (.int .i64 ((i : Nat) : Int))), (9, .sc (.bool (decide (((i : Nat) : Int) < (((List.map Act.av l).length : Nat) : Int)))))]) (h' := []) (by kernel_rfl) ?_
    refine AR.cond (.tmp 9) (decide (((i : Nat) : Int) < (((List.map Act.av l).length : Nat) : Int))) (by kernel_rfl) (by kernel_rfl) (fun hb => ?ht131) (fun hb => ?hf131)
    case ht131 =>
      refine AR.seg hG hm 4 [0, 3] (k' := [.code [1, 0, 1, 0, 0, 1, 0, 0, 0], .code [1, 0, 1, 0, 0, 1, 0, 0, 1], .blk 1, .code [1, 0, 1, 0, 0, 1, 1], .loop [1, 0, 1, 0], .blk 0, .code [1, 1]]) (t' := [(0, .sl 53 (List.map Act.av l) f_l), (3, .sc (.int .i64 ((i : Nat) : Int)))]) (h' := []) (by kernel_rfl) ?_
      refine AR.reg hm podestaref04_Acts_k0 (by kernel_rfl) ?_
      refine DK.seg hG 2 [0, 3, 12, 13] (t' := [(0, .sl 53 (List.map Act.av l) f_l), (3, .sc (.int .i64 ((i : Nat) : Int))), (12, .sl 53 (List.map Act.av l) f_l), (13, .sc (.int .i64 ((i : Nat) : Int)))]) (h' := []) (by kernel_rfl) rfl ?_
      refine DK.op' [0, 3, 14] (t' := [(0, .sl 53 (List.map Act.av l) f_l), (3, .sc (.int .i64 ((i : Nat) : Int))), (14, .ep [.sc (.int .i64 x.Kind), .sc (.int .i64 x.Port), .sc (.int .i64 x.Field), .sc (.int .u64 x.Value)] 0 none)]) (h' := []) (LSpec.index' (r := Act.av x) (fs := [.sc (.int .i64 x.Kind), .sc (.int .i64 x.Port), .sc (.int .i64 x.Field), .sc (.int .u64 x.Value)]) hG (rows := List.map Act.av l) (j := ((i : Nat) : Int)) (by kernel_rfl) (ixO_map hv_i _) (by kernel_rfl)) (by kernel_rfl) rfl (by kernel_rfl) rfl ?_
      refine DK.seg hG 3 [0, 3, 4] (t' := [(0, .sl 53 (List.map Act.av l) f_l), (3, .sc (.int .i64 ((i : Nat) : Int))), (4, .ptr 0 0 none)]) (h' := [.box 53 [.sc (.int .i64 x.Kind), .sc (.int .i64 x.Port), .sc (.int .i64 x.Field), .sc (.int .u64 x.Value)]]) (by kernel_rfl) rfl ?_
      refine DK.done (by kernel_rfl) (by kernel_rfl) ?_
      refine AR.seg hG hm 8 [0, 3, 4, 5, 17, 18] (k' := [.code [1, 0, 1, 0, 0, 1, 0, 0, 1, 1, 0, 1, 0, 1], .blk 2, .code [1, 0, 1, 0, 0, 1, 0, 0, 1, 1, 1], .blk 1, .code [1, 0, 1, 0, 0, 1, 1], .loop [1, 0, 1, 0], .blk 0, .code [1, 1]]) (t' := [(0, .sl 53 (List.map Act.av l) f_l), (3, .sc (.int .i64 ((i : Nat) : Int))), (4, .ptr 0 0 none), (5, .sc (.bool false)), (17, .sc (.int .i64 x.Kind)), (18, .sc (.bool (x.Kind == 1)))]) (h' := [.box 53 [.sc (.int .i64 x.Kind), .sc (.int .i64 x.Port), .sc (.int .i64 x.Field), .sc (.int .u64 x.Value)]]) (by kernel_rfl) ?_
      refine AR.join (.tmp 18) (x.Kind == 1) (k' := [.blk 2, .code [1, 0, 1, 0, 0, 1, 0, 0, 1, 1, 1], .blk 1, .code [1, 0, 1, 0, 0, 1, 1], .loop [1, 0, 1, 0], .blk 0, .code [1, 1]]) (h' := [.box 53 [.sc (.int .i64 x.Kind), .sc (.int .i64 x.Port), .sc (.int .i64 x.Field), .sc (.int .u64 x.Value)]]) (by kernel_rfl) (by kernel_rfl) (fun z => [(0, .sl 53 (List.map Act.av l) f_l), (3, .sc (.int .i64 ((i : Nat) : Int))), (5, .sc (.bool (bif z then ((((decide (x.Port ≥ 1)) && (decide (x.Port ≤ 16))) && (x.Field == 0)) && (x.Value == 0)) else (bif (x.Kind == 2) then ((((x.Port == 0) && (decide (x.Field ≥ 0))) && (decide (x.Field < 12))) && (podestaref01_Fits x.Value (sizeT x.Field))) else ((x.Kind == 3) && (((x.Port == 0) && (x.Field == 0)) && (x.Value == 0)))))))]) ?J152 (fun hb J => ?ht152) (fun hb J => ?hf152)
      case ht152 =>
        refine AR.reg hm podestaref04_Acts_k1 (by kernel_rfl) ?_
        refine DK.seg hG 4 [0, 3, 4, 23] (t' := [(0, .sl 53 (List.map Act.av l) f_l), (3, .sc (.int .i64 ((i : Nat) : Int))), (4, .ptr 0 0 none), (23, .sc (.bool (decide (x.Port ≥ 1))))]) (h' := [.box 53 [.sc (.int .i64 x.Kind), .sc (.int .i64 x.Port), .sc (.int .i64 x.Field), .sc (.int .u64 x.Value)]]) (by kernel_rfl) rfl ?_
        refine DK.mux 23 (decide (x.Port ≥ 1)) (j := 8) (h' := [.box 53 [.sc (.int .i64 x.Kind), .sc (.int .i64 x.Port), .sc (.int .i64 x.Field), .sc (.int .u64 x.Value)]]) (by kernel_rfl) (fun z => [(0, .sl 53 (List.map Act.av l) f_l), (3, .sc (.int .i64 ((i : Nat) : Int))), (4, .ptr 0 0 none), (27, .sc (.bool (z && (decide (x.Port ≤ 16)))))]) ?J153 (fun hb J => ?ht153) (fun hb J => ?hf153)
        case ht153 =>
          exact DK.seg hG 4 [0, 3, 4, 27] (by kernel_rfl) rfl J
        case hf153 =>
          exact DK.seg hG 4 [0, 3, 4, 27] (by kernel_rfl) rfl J
        refine DK.seg hG 1 [0, 3, 4, 28] (t' := [(0, .sl 53 (List.map Act.av l) f_l), (3, .sc (.int .i64 ((i : Nat) : Int))), (4, .ptr 0 0 none), (28, .sc (.bool ((decide (x.Port ≥ 1)) && (decide (x.Port ≤ 16)))))]) (h' := [.box 53 [.sc (.int .i64 x.Kind), .sc (.int .i64 x.Port), .sc (.int .i64 x.Field), .sc (.int .u64 x.Value)]]) (by kernel_rfl) rfl ?_
        refine DK.mux 28 ((decide (x.Port ≥ 1)) && (decide (x.Port ≤ 16))) (j := 13) (h' := [.box 53 [.sc (.int .i64 x.Kind), .sc (.int .i64 x.Port), .sc (.int .i64 x.Field), .sc (.int .u64 x.Value)]]) (by kernel_rfl) (fun z => [(0, .sl 53 (List.map Act.av l) f_l), (3, .sc (.int .i64 ((i : Nat) : Int))), (4, .ptr 0 0 none), (32, .sc (.bool (z && (x.Field == 0))))]) ?J154 (fun hb J => ?ht154) (fun hb J => ?hf154)
        case ht154 =>
          exact DK.seg hG 4 [0, 3, 4, 32] (by kernel_rfl) rfl J
        case hf154 =>
          exact DK.seg hG 4 [0, 3, 4, 32] (by kernel_rfl) rfl J
        refine DK.seg hG 1 [0, 3, 4, 33] (t' := [(0, .sl 53 (List.map Act.av l) f_l), (3, .sc (.int .i64 ((i : Nat) : Int))), (4, .ptr 0 0 none), (33, .sc (.bool (((decide (x.Port ≥ 1)) && (decide (x.Port ≤ 16))) && (x.Field == 0))))]) (h' := [.box 53 [.sc (.int .i64 x.Kind), .sc (.int .i64 x.Port), .sc (.int .i64 x.Field), .sc (.int .u64 x.Value)]]) (by kernel_rfl) rfl ?_
        refine DK.mux 33 (((decide (x.Port ≥ 1)) && (decide (x.Port ≤ 16))) && (x.Field == 0)) (j := 18) (h' := [.box 53 [.sc (.int .i64 x.Kind), .sc (.int .i64 x.Port), .sc (.int .i64 x.Field), .sc (.int .u64 x.Value)]]) (by kernel_rfl) (fun z => [(0, .sl 53 (List.map Act.av l) f_l), (3, .sc (.int .i64 ((i : Nat) : Int))), (37, .sc (.bool (z && (x.Value == 0))))]) ?J155 (fun hb J => ?ht155) (fun hb J => ?hf155)
        case ht155 =>
          exact DK.seg hG 4 [0, 3, 37] (by kernel_rfl) rfl J
        case hf155 =>
          exact DK.seg hG 4 [0, 3, 37] (by kernel_rfl) rfl J
        refine DK.seg hG 1 [0, 3, 5] (t' := [(0, .sl 53 (List.map Act.av l) f_l), (3, .sc (.int .i64 ((i : Nat) : Int))), (5, .sc (.bool ((((decide (x.Port ≥ 1)) && (decide (x.Port ≤ 16))) && (x.Field == 0)) && (x.Value == 0))))]) (h' := [.box 53 [.sc (.int .i64 x.Kind), .sc (.int .i64 x.Port), .sc (.int .i64 x.Field), .sc (.int .u64 x.Value)]]) (by kernel_rfl) rfl ?_
        refine DK.done (by kernel_rfl) (by kernel_rfl) ?_
        exact AR.seg hG hm 0 [0, 3, 5] (by kernel_rfl) J
      case hf152 =>
        refine AR.seg hG hm 2 [0, 3, 4, 5, 17, 38] (k' := [.code [1, 0, 1, 0, 0, 1, 0, 0, 1, 1, 0, 1, 0, 1, 1, 1], .blk 2, .code [1, 0, 1, 0, 0, 1, 0, 0, 1, 1, 1], .blk 1, .code [1, 0, 1, 0, 0, 1, 1], .loop [1, 0, 1, 0], .blk 0, .code [1, 1]]) (t' := [(0, .sl 53 (List.map Act.av l) f_l), (3, .sc (.int .i64 ((i : Nat) : Int))), (4, .ptr 0 0 none), (5, .sc (.bool false)), (17, .sc (.int .i64 x.Kind)), (38, .sc (.bool (x.Kind == 2)))]) (h' := [.box 53 [.sc (.int .i64 x.Kind), .sc (.int .i64 x.Port), .sc (.int .i64 x.Field), .sc (.int .u64 x.Value)]]) (by kernel_rfl) ?_
        refine AR.join (.tmp 38) (x.Kind == 2) (k' := [.blk 2, .code [1, 0, 1, 0, 0, 1, 0, 0, 1, 1, 1], .blk 1, .code [1, 0, 1, 0, 0, 1, 1], .loop [1, 0, 1, 0], .blk 0, .code [1, 1]]) (h' := [.box 53 [.sc (.int .i64 x.Kind), .sc (.int .i64 x.Port), .sc (.int .i64 x.Field), .sc (.int .u64 x.Value)]]) (by kernel_rfl) (by kernel_rfl) (fun z => [(0, .sl 53 (List.map Act.av l) f_l), (3, .sc (.int .i64 ((i : Nat) : Int))), (5, .sc (.bool (bif z then ((((x.Port == 0) && (decide (x.Field ≥ 0))) && (decide (x.Field < 12))) && (podestaref01_Fits x.Value (sizeT x.Field))) else ((x.Kind == 3) && (((x.Port == 0) && (x.Field == 0)) && (x.Value == 0))))))]) ?J164 (fun hb J => ?ht164) (fun hb J => ?hf164)
        case ht164 =>
          refine AR.reg hm podestaref04_Acts_k2 (by kernel_rfl) ?_
          refine DK.seg hG 4 [0, 3, 4, 43] (t' := [(0, .sl 53 (List.map Act.av l) f_l), (3, .sc (.int .i64 ((i : Nat) : Int))), (4, .ptr 0 0 none), (43, .sc (.bool (x.Port == 0)))]) (h' := [.box 53 [.sc (.int .i64 x.Kind), .sc (.int .i64 x.Port), .sc (.int .i64 x.Field), .sc (.int .u64 x.Value)]]) (by kernel_rfl) rfl ?_
          refine DK.mux 43 (x.Port == 0) (j := 8) (h' := [.box 53 [.sc (.int .i64 x.Kind), .sc (.int .i64 x.Port), .sc (.int .i64 x.Field), .sc (.int .u64 x.Value)]]) (by kernel_rfl) (fun z => [(0, .sl 53 (List.map Act.av l) f_l), (3, .sc (.int .i64 ((i : Nat) : Int))), (4, .ptr 0 0 none), (47, .sc (.bool (z && (decide (x.Field ≥ 0)))))]) ?J165 (fun hb J => ?ht165) (fun hb J => ?hf165)
          case ht165 =>
            exact DK.seg hG 4 [0, 3, 4, 47] (by kernel_rfl) rfl J
          case hf165 =>
            exact DK.seg hG 4 [0, 3, 4, 47] (by kernel_rfl) rfl J
          refine DK.seg hG 1 [0, 3, 4, 48] (t' := [(0, .sl 53 (List.map Act.av l) f_l), (3, .sc (.int .i64 ((i : Nat) : Int))), (4, .ptr 0 0 none), (48, .sc (.bool ((x.Port == 0) && (decide (x.Field ≥ 0)))))]) (h' := [.box 53 [.sc (.int .i64 x.Kind), .sc (.int .i64 x.Port), .sc (.int .i64 x.Field), .sc (.int .u64 x.Value)]]) (by kernel_rfl) rfl ?_
          refine DK.mux 48 ((x.Port == 0) && (decide (x.Field ≥ 0))) (j := 13) (h' := [.box 53 [.sc (.int .i64 x.Kind), .sc (.int .i64 x.Port), .sc (.int .i64 x.Field), .sc (.int .u64 x.Value)]]) (by kernel_rfl) (fun z => [(0, .sl 53 (List.map Act.av l) f_l), (3, .sc (.int .i64 ((i : Nat) : Int))), (4, .ptr 0 0 none), (52, .sc (.bool (z && (decide (x.Field < 12)))))]) ?J166 (fun hb J => ?ht166) (fun hb J => ?hf166)
          case ht166 =>
            exact DK.seg hG 4 [0, 3, 4, 52] (by kernel_rfl) rfl J
          case hf166 =>
            exact DK.seg hG 4 [0, 3, 4, 52] (by kernel_rfl) rfl J
          refine DK.seg hG 1 [0, 3, 4, 53] (t' := [(0, .sl 53 (List.map Act.av l) f_l), (3, .sc (.int .i64 ((i : Nat) : Int))), (4, .ptr 0 0 none), (53, .sc (.bool (((x.Port == 0) && (decide (x.Field ≥ 0))) && (decide (x.Field < 12)))))]) (h' := [.box 53 [.sc (.int .i64 x.Kind), .sc (.int .i64 x.Port), .sc (.int .i64 x.Field), .sc (.int .u64 x.Value)]]) (by kernel_rfl) rfl ?_
          refine DK.mux 53 (((x.Port == 0) && (decide (x.Field ≥ 0))) && (decide (x.Field < 12))) (j := 21) (h' := [.box 53 [.sc (.int .i64 x.Kind), .sc (.int .i64 x.Port), .sc (.int .i64 x.Field), .sc (.int .u64 x.Value)]]) (by kernel_rfl) (fun z => [(0, .sl 53 (List.map Act.av l) f_l), (3, .sc (.int .i64 ((i : Nat) : Int))), (60, .sc (.bool (z && (podestaref01_Fits x.Value (sizeT x.Field)))))]) ?J167 (fun hb J => ?ht167) (fun hb J => ?hf167)
          case ht167 =>
            refine DK.seg hG 4 [0, 3, 53, 55, 57] (t' := [(0, .sl 53 (List.map Act.av l) f_l), (3, .sc (.int .i64 ((i : Nat) : Int))), (53, .sc (.bool true)), (55, .sc (.int .u64 x.Value)), (57, .sc (.int .i64 x.Field))]) (h' := [.box 53 [.sc (.int .i64 x.Kind), .sc (.int .i64 x.Port), .sc (.int .i64 x.Field), .sc (.int .u64 x.Value)]]) (by kernel_rfl) rfl ?_
            refine DK.op' [0, 3, 53, 55, 58] (t' := [(0, .sl 53 (List.map Act.av l) f_l), (3, .sc (.int .i64 ((i : Nat) : Int))), (53, .sc (.bool true)), (55, .sc (.int .u64 x.Value)), (58, .sc (.int .i64 (sizeT x.Field)))]) (h' := [.box 53 [.sc (.int .i64 x.Kind), .sc (.int .i64 x.Port), .sc (.int .i64 x.Field), .sc (.int .u64 x.Value)]]) (LSpec.callP' (podestaref01_Size_ok x.Field) (by kernel_rfl)) (by kernel_rfl) rfl (by kernel_rfl) rfl ?_
            refine DK.op' [0, 3, 53, 59] (t' := [(0, .sl 53 (List.map Act.av l) f_l), (3, .sc (.int .i64 ((i : Nat) : Int))), (53, .sc (.bool true)), (59, .sc (.bool (podestaref01_Fits x.Value (sizeT x.Field))))]) (h' := [.box 53 [.sc (.int .i64 x.Kind), .sc (.int .i64 x.Port), .sc (.int .i64 x.Field), .sc (.int .u64 x.Value)]]) (LSpec.callP' (podestaref01_Fits_calls x.Value (sizeT x.Field)) (by kernel_rfl)) (by kernel_rfl) rfl (by kernel_rfl) rfl ?_
            exact DK.seg hG 1 [0, 3, 60] (by kernel_rfl) rfl J
          case hf167 =>
            exact DK.seg hG 7 [0, 3, 60] (by kernel_rfl) rfl J
          refine DK.seg hG 1 [0, 3, 5] (t' := [(0, .sl 53 (List.map Act.av l) f_l), (3, .sc (.int .i64 ((i : Nat) : Int))), (5, .sc (.bool ((((x.Port == 0) && (decide (x.Field ≥ 0))) && (decide (x.Field < 12))) && (podestaref01_Fits x.Value (sizeT x.Field)))))]) (h' := [.box 53 [.sc (.int .i64 x.Kind), .sc (.int .i64 x.Port), .sc (.int .i64 x.Field), .sc (.int .u64 x.Value)]]) (by kernel_rfl) rfl ?_
          refine DK.done (by kernel_rfl) (by kernel_rfl) ?_
          exact AR.seg hG hm 0 [0, 3, 5] (by kernel_rfl) J
        case hf164 =>
          refine AR.seg hG hm 2 [0, 3, 4, 5, 61] (k' := [.code [1, 0, 1, 0, 0, 1, 0, 0, 1, 1, 0, 1, 0, 1, 1, 1, 1, 1], .blk 2, .code [1, 0, 1, 0, 0, 1, 0, 0, 1, 1, 1], .blk 1, .code [1, 0, 1, 0, 0, 1, 1], .loop [1, 0, 1, 0], .blk 0, .code [1, 1]]) (t' := [(0, .sl 53 (List.map Act.av l) f_l), (3, .sc (.int .i64 ((i : Nat) : Int))), (4, .ptr 0 0 none), (5, .sc (.bool false)), (61, .sc (.bool (x.Kind == 3)))]) (h' := [.box 53 [.sc (.int .i64 x.Kind), .sc (.int .i64 x.Port), .sc (.int .i64 x.Field), .sc (.int .u64 x.Value)]]) (by kernel_rfl) ?_
          refine AR.join (.tmp 61) (x.Kind == 3) (k' := [.blk 2, .code [1, 0, 1, 0, 0, 1, 0, 0, 1, 1, 1], .blk 1, .code [1, 0, 1, 0, 0, 1, 1], .loop [1, 0, 1, 0], .blk 0, .code [1, 1]]) (h' := [.box 53 [.sc (.int .i64 x.Kind), .sc (.int .i64 x.Port), .sc (.int .i64 x.Field), .sc (.int .u64 x.Value)]]) (by kernel_rfl) (by kernel_rfl) (fun z => [(0, .sl 53 (List.map Act.av l) f_l), (3, .sc (.int .i64 ((i : Nat) : Int))), (5, .sc (.bool (z && (((x.Port == 0) && (x.Field == 0)) && (x.Value == 0)))))]) ?J170 (fun hb J => ?ht170) (fun hb J => ?hf170)
          case ht170 =>
            refine AR.reg hm podestaref04_Acts_k3 (by kernel_rfl) ?_
            refine DK.seg hG 4 [0, 3, 4, 66] (t' := [(0, .sl 53 (List.map Act.av l) f_l), (3, .sc (.int .i64 ((i : Nat) : Int))), (4, .ptr 0 0 none), (66, .sc (.bool (x.Port == 0)))]) (h' := [.box 53 [.sc (.int .i64 x.Kind), .sc (.int .i64 x.Port), .sc (.int .i64 x.Field), .sc (.int .u64 x.Value)]]) (by kernel_rfl) rfl ?_
            refine DK.mux 66 (x.Port == 0) (j := 8) (h' := [.box 53 [.sc (.int .i64 x.Kind), .sc (.int .i64 x.Port), .sc (.int .i64 x.Field), .sc (.int .u64 x.Value)]]) (by kernel_rfl) (fun z => [(0, .sl 53 (List.map Act.av l) f_l), (3, .sc (.int .i64 ((i : Nat) : Int))), (4, .ptr 0 0 none), (70, .sc (.bool (z && (x.Field == 0))))]) ?J171 (fun hb J => ?ht171) (fun hb J => ?hf171)
            case ht171 =>
              exact DK.seg hG 4 [0, 3, 4, 70] (by kernel_rfl) rfl J
            case hf171 =>
              exact DK.seg hG 4 [0, 3, 4, 70] (by kernel_rfl) rfl J
            refine DK.seg hG 1 [0, 3, 4, 71] (t' := [(0, .sl 53 (List.map Act.av l) f_l), (3, .sc (.int .i64 ((i : Nat) : Int))), (4, .ptr 0 0 none), (71, .sc (.bool ((x.Port == 0) && (x.Field == 0))))]) (h' := [.box 53 [.sc (.int .i64 x.Kind), .sc (.int .i64 x.Port), .sc (.int .i64 x.Field), .sc (.int .u64 x.Value)]]) (by kernel_rfl) rfl ?_
            refine DK.mux 71 ((x.Port == 0) && (x.Field == 0)) (j := 13) (h' := [.box 53 [.sc (.int .i64 x.Kind), .sc (.int .i64 x.Port), .sc (.int .i64 x.Field), .sc (.int .u64 x.Value)]]) (by kernel_rfl) (fun z => [(0, .sl 53 (List.map Act.av l) f_l), (3, .sc (.int .i64 ((i : Nat) : Int))), (75, .sc (.bool (z && (x.Value == 0))))]) ?J172 (fun hb J => ?ht172) (fun hb J => ?hf172)
            case ht172 =>
              exact DK.seg hG 4 [0, 3, 75] (by kernel_rfl) rfl J
            case hf172 =>
              exact DK.seg hG 4 [0, 3, 75] (by kernel_rfl) rfl J
            refine DK.seg hG 1 [0, 3, 5] (t' := [(0, .sl 53 (List.map Act.av l) f_l), (3, .sc (.int .i64 ((i : Nat) : Int))), (5, .sc (.bool (((x.Port == 0) && (x.Field == 0)) && (x.Value == 0))))]) (h' := [.box 53 [.sc (.int .i64 x.Kind), .sc (.int .i64 x.Port), .sc (.int .i64 x.Field), .sc (.int .u64 x.Value)]]) (by kernel_rfl) rfl ?_
            refine DK.done (by kernel_rfl) (by kernel_rfl) ?_
            exact AR.seg hG hm 0 [0, 3, 5] (by kernel_rfl) J
          case hf170 =>
            exact AR.seg hG hm 1 [0, 3, 5] (by kernel_rfl) J
          exact AR.seg hG hm 0 [0, 3, 5] (by kernel_rfl) J
        exact AR.seg hG hm 0 [0, 3, 5] (by kernel_rfl) J
      refine AR.seg hG hm 3 [0, 3, 77] (k' := [.code [1, 0, 1, 0, 0, 1, 0, 0, 1, 1, 1, 1], .blk 1, .code [1, 0, 1, 0, 0, 1, 1], .loop [1, 0, 1, 0], .blk 0, .code [1, 1]]) (t' := [(0, .sl 53 (List.map Act.av l) f_l), (3, .sc (.int .i64 ((i : Nat) : Int))), (77, .sc (.bool (!(bif (x.Kind == 1) then ((((decide (x.Port ≥ 1)) && (decide (x.Port ≤ 16))) && (x.Field == 0)) && (x.Value == 0)) else (bif (x.Kind == 2) then ((((x.Port == 0) && (decide (x.Field ≥ 0))) && (decide (x.Field < 12))) && (podestaref01_Fits x.Value (sizeT x.Field))) else ((x.Kind == 3) && (((x.Port == 0) && (x.Field == 0)) && (x.Value == 0))))))))]) (h' := [.box 53 [.sc (.int .i64 x.Kind), .sc (.int .i64 x.Port), .sc (.int .i64 x.Field), .sc (.int .u64 x.Value)]]) (by kernel_rfl) ?_
      refine AR.cond (.tmp 77) (!(bif (x.Kind == 1) then ((((decide (x.Port ≥ 1)) && (decide (x.Port ≤ 16))) && (x.Field == 0)) && (x.Value == 0)) else (bif (x.Kind == 2) then ((((x.Port == 0) && (decide (x.Field ≥ 0))) && (decide (x.Field < 12))) && (podestaref01_Fits x.Value (sizeT x.Field))) else ((x.Kind == 3) && (((x.Port == 0) && (x.Field == 0)) && (x.Value == 0)))))) (by kernel_rfl) (by kernel_rfl) (fun hb => ?ht173) (fun hb => ?hf173)
      case ht173 =>
        replace H := cond_t hb H
        refine AR.seg hG hm 2 [2] (k' := [.code [1, 0, 1, 0, 0, 1, 0, 0, 1, 1, 1, 1, 0, 1], .blk 1, .code [1, 0, 1, 0, 0, 1, 1], .loop [1, 0, 1, 0], .blk 0, .code [1, 1]]) (t' := [(2, .sc (.bool false))]) (h' := [.box 53 [.sc (.int .i64 x.Kind), .sc (.int .i64 x.Port), .sc (.int .i64 x.Field), .sc (.int .u64 x.Value)]]) (by kernel_rfl) ?_
        subst H
        obtain rfl := Jr _ rfl
        exact AR.ret0 (fn := Try.f25) hG Try.func25 (by kernel_rfl) hc0 (r0 := .sc (.bool false)) (by kernel_rfl) (WkV.refl _)
      case hf173 =>
        replace H := cond_f hb H
        refine AR.seg hG hm 3 [0, 3] (k' := [.loop [1, 0, 1, 0], .blk 0, .code [1, 1]]) (t' := [(0, .sl 53 (List.map Act.av l) f_l), (3, .sc (.int .i64 (IntKind.i64.wrap (((i : Nat) : Int) + 1))))]) (h' := [.box 53 [.sc (.int .i64 x.Kind), .sc (.int .i64 x.Port), .sc (.int .i64 x.Field), .sc (.int .u64 x.Value)]]) (by kernel_rfl) ?_
        refine AR.keep [0, 3] (t' := [(0, .sl 53 (List.map Act.av l) f_l), (3, .sc (.int .i64 (IntKind.i64.wrap (((i : Nat) : Int) + 1))))]) (by kernel_rfl) ?_
        refine AR.drop' 0 hc0 (t' := [(0, .sl 53 (List.map Act.av l) f_l), (3, .sc (.int .i64 (IntKind.i64.wrap (((i : Nat) : Int) + 1))))]) (h' := []) (by kernel_rfl) ?_
        refine AR.loop_round ?_
        rw [hw]
        exact ih (i + 1) hd2 H
    case hf131 => exact absurd (hc.symm.trans hb) (by decide)

def podestaref04_Acts (l : List Act) : Bool :=
  sumG (fun q => q) (podestaref04_Acts_l0s l) fun v =>
  (decide ((((List.map Act.av l).length : Nat) : Int) ≤ 8))
theorem podestaref04_Acts_walk (l : List Act) (f_l : Bool) (r : Bool) (H : podestaref04_Acts l = r) :
    ACalls Try.prog tab.S 25 [.sl 53 (List.map Act.av l) f_l] [] (.sc (.bool r)) [] := by
  have hG := tab_ok
  have hm := mixed
  refine ACalls.of_AR (G := tab) podestaref04_Acts_F (fn := Try.f25) Try.func25 (by kernel_rfl) (by kernel_rfl) (by kernel_rfl) (Nat.le_of_ble_eq_true (by kernel_rfl)) ?_
  intro c0 hc0
  replace hc0 : c0.m.length = 0 := hc0
  rw [podestaref04_Acts] at H
  refine AR.seg hG hm 6 [0, 3] (k' := [.code [1, 0, 1, 0], .blk 0, .code [1, 1]]) (t' := [(0, .sl 53 (List.map Act.av l) f_l), (3, .sc (.int .i64 0))]) (h' := []) (by kernel_rfl) ?_
  rcases sumG_eq H with ⟨v, hv, H⟩ | ⟨r1, hv, hr1⟩
  case inr =>
    refine AR.into (by kernel_rfl) ?_
    replace hr1 : r1 = r := hr1
    subst hr1
    exact podestaref04_Acts_l0_walk l f_l _ c0 hc0 (.inr _) (fun _ e => by cases e) (fun _ e => (Sum.inr.inj e).symm) l 0 rfl hv
  refine AR.into (by kernel_rfl) ?_
  refine podestaref04_Acts_l0_walk l f_l r c0 hc0 (.inl v) (fun w e => ?_) (fun _ e => by cases e) l 0 rfl hv
  have e := Sum.inl.inj e
  subst e
  refine AR.seg hG hm 2 [2] (k' := [.code [1, 1, 1]]) (t' := [(2, .sc (.bool (decide ((((List.map Act.av l).length : Nat) : Int) ≤ 8))))]) (h' := []) (by kernel_rfl) ?_
  subst H
  exact AR.ret0 (fn := Try.f25) hG Try.func25 (by kernel_rfl) hc0 (r0 := .sc (.bool (decide ((((List.map Act.av l).length : Nat) : Int) ≤ 8)))) (by kernel_rfl) (WkV.refl _)
theorem podestaref04_Acts_calls (l : List Act) (f_l : Bool) : ACalls Try.prog tab.S 25 [.sl 53 (List.map Act.av l) f_l] [] (.sc (.bool (podestaref04_Acts l))) [] := podestaref04_Acts_walk l f_l _ rfl

theorem Act.beq_eq (x y : Act) : ((x.Kind == y.Kind) && ((x.Port == y.Port) && ((x.Field == y.Field) && (x.Value == y.Value)))) = (x == y) := by
  rw [Bool.eq_iff_iff]
  simp only [Bool.and_eq_true, beq_iff_eq]
  cases x; cases y
  simp
def actOk (x : Act) : Bool := (bif (x.Kind == 1) then ((((decide (x.Port ≥ 1)) && (decide (x.Port ≤ 16))) && (x.Field == 0)) && (x.Value == 0)) else (bif (x.Kind == 2) then ((((x.Port == 0) && (decide (x.Field ≥ 0))) && (decide (x.Field < 12))) && (fitsT x.Field x.Value)) else ((x.Kind == 3) && (((x.Port == 0) && (x.Field == 0)) && (x.Value == 0)))))
def ActsOk (l : List Act) : Bool := l.all actOk && decide (l.length ≤ 8)
theorem refActs_l0s_eq : ∀ (l : List Act), podestaref04_Acts_l0s l = if l.all actOk then .inl () else .inr false
  | [] => rfl
  | x :: l => by
      rw [podestaref04_Acts_l0s, refActs_l0s_eq l, List.all_cons]
      simp only [refFits_eq]
      show (bif (!(actOk x)) then _ else _) = _
      cases actOk x
      · rfl
      · simp only [Bool.not_true, cond_false, Bool.true_and]
theorem refActs_eq (l : List Act) : podestaref04_Acts l = ActsOk l := by
  unfold podestaref04_Acts ActsOk
  rw [refActs_l0s_eq, List.length_map]
  cases l.all actOk
  · rfl
  · simp only [if_true, sumG, Bool.true_and]
    rw [Bool.eq_iff_iff, decide_eq_true_eq, decide_eq_true_eq]
    omega

end Go.Proofs.Ytjchejmakdkioab

set_option linter.unusedVariables false
set_option linter.unusedSimpArgs false
set_option maxRecDepth 100000
set_option maxHeartbeats 4000000
namespace Go.Proofs.Ytjchejmakdkioab
open Go.Sh
/-! ### act.sound: function 38 -/
noncomputable def act_sound_F : Go.Sh.Fn := ⟨38, bodyOf Try.f38, 48⟩
def act_sound_k0 : List Kd := [.pure, .read, .pure, .pure, .pure, .read, .pure, .pure, .pure, .pure, .read, .pure, .pure, .pure, .pure, .read, .pure, .pure, .pure]
def act_sound_k2 : List Kd := [.pure, .pure, .pure, .pure, .read, .pure, .pure, .pure]
def act_sound_k1 : List Kd := [.pure, .pure, .read, .pure, .read, .pure, .pure, .pure, .pure, .loud, .loud, .pure]
def act_sound_k3 : List Kd := [.read, .pure, .pure, .pure]
def act_sound (a : Act) : Bool :=
  (bif (a.Kind == 1) then
    ((((decide (a.Port ≥ 1)) && (decide (a.Port ≤ 16))) && (a.Field == 0)) && (a.Value == 0))
  else
    (bif (a.Kind == 2) then
      (((setT_ [0, 0, 0, 0, 0, 0, 0, 0, 0, 0, 0, 0] a.Field a.Value).2 == 0) && (a.Port == 0))
    else
      ((a.Kind == 3) && ((a.Port == 0) && ((a.Field == 0) && (a.Value == 0))))))
theorem act_sound_walk (a : Act) (r : Bool) (H : act_sound a = r) :
    ACalls Try.prog tab.S 38 [Act.av a] [] (.sc (.bool r)) [] := by
  have hG := tab_ok
  have hm := mixed
  refine ACalls.of_AR (G := tab) act_sound_F (fn := Try.f38) Try.func38 (by kernel_rfl) (by kernel_rfl) (by kernel_rfl) (Nat.le_of_ble_eq_true (by kernel_rfl)) ?_
  intro c0 hc0
  replace hc0 : c0.m.length = 0 := hc0
  rw [act_sound] at H
  refine AR.seg hG hm 8 [1, 6, 7] (k' := [.code [1, 0, 1, 0, 1], .blk 0, .code [1, 1]]) (t' := [(1, .ptr 0 0 none), (6, .sc (.int .i64 a.Kind)), (7, .sc (.bool (a.Kind == 1)))]) (h' := [.box 53 [.sc (.int .i64 a.Kind), .sc (.int .i64 a.Port), .sc (.int .i64 a.Field), .sc (.int .u64 a.Value)]]) (by kernel_rfl) ?_
  refine AR.cond (.tmp 7) (a.Kind == 1) (by kernel_rfl) (by kernel_rfl) (fun hb => ?ht4) (fun hb => ?hf4)
  case ht4 =>
    replace H := cond_t hb H
    refine AR.seg hG hm 1 [1] (k' := [.code [1, 0, 1, 0, 1, 0, 0], .code [1, 0, 1, 0, 1, 0, 1], .blk 0, .code [1, 1]]) (t' := [(1, .ptr 0 0 none)]) (h' := [.box 53 [.sc (.int .i64 a.Kind), .sc (.int .i64 a.Port), .sc (.int .i64 a.Field), .sc (.int .u64 a.Value)]]) (by kernel_rfl) ?_
    refine AR.reg hm act_sound_k0 (by kernel_rfl) ?_
    refine DK.seg hG 4 [1, 12] (t' := [(1, .ptr 0 0 none), (12, .sc (.bool (decide (a.Port ≥ 1))))]) (h' := [.box 53 [.sc (.int .i64 a.Kind), .sc (.int .i64 a.Port), .sc (.int .i64 a.Field), .sc (.int .u64 a.Value)]]) (by kernel_rfl) rfl ?_
    refine DK.mux 12 (decide (a.Port ≥ 1)) (j := 8) (h' := [.box 53 [.sc (.int .i64 a.Kind), .sc (.int .i64 a.Port), .sc (.int .i64 a.Field), .sc (.int .u64 a.Value)]]) (by kernel_rfl) (fun z => [(1, .ptr 0 0 none), (16, .sc (.bool (z && (decide (a.Port ≤ 16)))))]) ?J5 (fun hb J => ?ht5) (fun hb J => ?hf5)
    case ht5 =>
      exact DK.seg hG 4 [1, 16] (by kernel_rfl) rfl J
    case hf5 =>
      exact DK.seg hG 4 [1, 16] (by kernel_rfl) rfl J
    refine DK.seg hG 1 [1, 17] (t' := [(1, .ptr 0 0 none), (17, .sc (.bool ((decide (a.Port ≥ 1)) && (decide (a.Port ≤ 16)))))]) (h' := [.box 53 [.sc (.int .i64 a.Kind), .sc (.int .i64 a.Port), .sc (.int .i64 a.Field), .sc (.int .u64 a.Value)]]) (by kernel_rfl) rfl ?_
    refine DK.mux 17 ((decide (a.Port ≥ 1)) && (decide (a.Port ≤ 16))) (j := 13) (h' := [.box 53 [.sc (.int .i64 a.Kind), .sc (.int .i64 a.Port), .sc (.int .i64 a.Field), .sc (.int .u64 a.Value)]]) (by kernel_rfl) (fun z => [(1, .ptr 0 0 none), (21, .sc (.bool (z && (a.Field == 0))))]) ?J6 (fun hb J => ?ht6) (fun hb J => ?hf6)
    case ht6 =>
      exact DK.seg hG 4 [1, 21] (by kernel_rfl) rfl J
    case hf6 =>
      exact DK.seg hG 4 [1, 21] (by kernel_rfl) rfl J
    refine DK.seg hG 1 [1, 22] (t' := [(1, .ptr 0 0 none), (22, .sc (.bool (((decide (a.Port ≥ 1)) && (decide (a.Port ≤ 16))) && (a.Field == 0))))]) (h' := [.box 53 [.sc (.int .i64 a.Kind), .sc (.int .i64 a.Port), .sc (.int .i64 a.Field), .sc (.int .u64 a.Value)]]) (by kernel_rfl) rfl ?_
    refine DK.mux 22 (((decide (a.Port ≥ 1)) && (decide (a.Port ≤ 16))) && (a.Field == 0)) (j := 18) (h' := [.box 53 [.sc (.int .i64 a.Kind), .sc (.int .i64 a.Port), .sc (.int .i64 a.Field), .sc (.int .u64 a.Value)]]) (by kernel_rfl) (fun z => [(26, .sc (.bool (z && (a.Value == 0))))]) ?J7 (fun hb J => ?ht7) (fun hb J => ?hf7)
    case ht7 =>
      exact DK.seg hG 4 [26] (by kernel_rfl) rfl J
    case hf7 =>
      exact DK.seg hG 4 [26] (by kernel_rfl) rfl J
    refine DK.seg hG 1 [2] (t' := [(2, .sc (.bool ((((decide (a.Port ≥ 1)) && (decide (a.Port ≤ 16))) && (a.Field == 0)) && (a.Value == 0))))]) (h' := [.box 53 [.sc (.int .i64 a.Kind), .sc (.int .i64 a.Port), .sc (.int .i64 a.Field), .sc (.int .u64 a.Value)]]) (by kernel_rfl) rfl ?_
    refine DK.done (by kernel_rfl) (by kernel_rfl) ?_
    subst H
    exact AR.ret0 (fn := Try.f38) hG Try.func38 (by kernel_rfl) hc0 (r0 := .sc (.bool ((((decide (a.Port ≥ 1)) && (decide (a.Port ≤ 16))) && (a.Field == 0)) && (a.Value == 0)))) (by kernel_rfl) (WkV.refl _)
  case hf4 =>
    replace H := cond_f hb H
    refine AR.seg hG hm 2 [1, 27] (k' := [.code [1, 0, 1, 0, 1, 1, 1], .blk 0, .code [1, 1]]) (t' := [(1, .ptr 0 0 none), (27, .sc (.bool (a.Kind == 2)))]) (h' := [.box 53 [.sc (.int .i64 a.Kind), .sc (.int .i64 a.Port), .sc (.int .i64 a.Field), .sc (.int .u64 a.Value)]]) (by kernel_rfl) ?_
    refine AR.cond (.tmp 27) (a.Kind == 2) (by kernel_rfl) (by kernel_rfl) (fun hb => ?ht9) (fun hb => ?hf9)
    case ht9 =>
      replace H := cond_t hb H
      refine AR.seg hG hm 1 [1] (k' := [.code [1, 0, 1, 0, 1, 1, 1, 0, 0], .code [1, 0, 1, 0, 1, 1, 1, 0, 1], .blk 0, .code [1, 1]]) (t' := [(1, .ptr 0 0 none)]) (h' := [.box 53 [.sc (.int .i64 a.Kind), .sc (.int .i64 a.Port), .sc (.int .i64 a.Field), .sc (.int .u64 a.Value)]]) (by kernel_rfl) ?_
      refine AR.reg hm act_sound_k1 (by kernel_rfl) ?_
      refine DK.seg hG 5 [1, 30, 32, 34] (t' := [(1, .ptr 0 0 none), (30, .arr .u64 12 [0, 0, 0, 0, 0, 0, 0, 0, 0, 0, 0, 0]), (32, .sc (.int .i64 a.Field)), (34, .sc (.int .u64 a.Value))]) (h' := [.box 53 [.sc (.int .i64 a.Kind), .sc (.int .i64 a.Port), .sc (.int .i64 a.Field), .sc (.int .u64 a.Value)]]) (by kernel_rfl) rfl ?_
      refine DK.op' [1, 35] (t' := [(1, .ptr 0 0 none), (35, .tup [.arr .u64 12 ((setT_ [0, 0, 0, 0, 0, 0, 0, 0, 0, 0, 0, 0] a.Field a.Value).1), .sc (.int .i64 ((setT_ [0, 0, 0, 0, 0, 0, 0, 0, 0, 0, 0, 0] a.Field a.Value).2))])]) (h' := [.box 53 [.sc (.int .i64 a.Kind), .sc (.int .i64 a.Port), .sc (.int .i64 a.Field), .sc (.int .u64 a.Value)]]) (LSpec.callP' (head_Set_ok [0, 0, 0, 0, 0, 0, 0, 0, 0, 0, 0, 0] a.Field a.Value) (by kernel_rfl)) (by kernel_rfl) rfl (by kernel_rfl) rfl ?_
      refine DK.seg hG 6 [1, 4] (t' := [(1, .ptr 0 0 none), (4, .sc (.int .i64 ((setT_ [0, 0, 0, 0, 0, 0, 0, 0, 0, 0, 0, 0] a.Field a.Value).2)))]) (h' := [.box 53 [.sc (.int .i64 a.Kind), .sc (.int .i64 a.Port), .sc (.int .i64 a.Field), .sc (.int .u64 a.Value)], .box 43 [.arr .u64 12 ((setT_ [0, 0, 0, 0, 0, 0, 0, 0, 0, 0, 0, 0] a.Field a.Value).1)]]) (by kernel_rfl) rfl ?_
      refine DK.done (by kernel_rfl) (by kernel_rfl) ?_
      refine AR.seg hG hm 1 [1, 4] (k' := [.code [1, 0, 1, 0, 1, 1, 1, 0, 1, 0], .code [1, 0, 1, 0, 1, 1, 1, 0, 1, 1], .blk 0, .code [1, 1]]) (t' := [(1, .ptr 0 0 none), (4, .sc (.int .i64 ((setT_ [0, 0, 0, 0, 0, 0, 0, 0, 0, 0, 0, 0] a.Field a.Value).2)))]) (h' := [.box 53 [.sc (.int .i64 a.Kind), .sc (.int .i64 a.Port), .sc (.int .i64 a.Field), .sc (.int .u64 a.Value)], .box 43 [.arr .u64 12 ((setT_ [0, 0, 0, 0, 0, 0, 0, 0, 0, 0, 0, 0] a.Field a.Value).1)]]) (by kernel_rfl) ?_
      refine AR.reg hm act_sound_k2 (by kernel_rfl) ?_
      refine DK.seg hG 3 [1, 40] (t' := [(1, .ptr 0 0 none), (40, .sc (.bool ((setT_ [0, 0, 0, 0, 0, 0, 0, 0, 0, 0, 0, 0] a.Field a.Value).2 == 0)))]) (h' := [.box 53 [.sc (.int .i64 a.Kind), .sc (.int .i64 a.Port), .sc (.int .i64 a.Field), .sc (.int .u64 a.Value)], .box 43 [.arr .u64 12 ((setT_ [0, 0, 0, 0, 0, 0, 0, 0, 0, 0, 0, 0] a.Field a.Value).1)]]) (by kernel_rfl) rfl ?_
      refine DK.mux 40 ((setT_ [0, 0, 0, 0, 0, 0, 0, 0, 0, 0, 0, 0] a.Field a.Value).2 == 0) (j := 7) (h' := [.box 53 [.sc (.int .i64 a.Kind), .sc (.int .i64 a.Port), .sc (.int .i64 a.Field), .sc (.int .u64 a.Value)], .box 43 [.arr .u64 12 ((setT_ [0, 0, 0, 0, 0, 0, 0, 0, 0, 0, 0, 0] a.Field a.Value).1)]]) (by kernel_rfl) (fun z => [(44, .sc (.bool (z && (a.Port == 0))))]) ?J10 (fun hb J => ?ht10) (fun hb J => ?hf10)
      case ht10 =>
        exact DK.seg hG 4 [44] (by kernel_rfl) rfl J
      case hf10 =>
        exact DK.seg hG 4 [44] (by kernel_rfl) rfl J
      refine DK.seg hG 1 [2] (t' := [(2, .sc (.bool (((setT_ [0, 0, 0, 0, 0, 0, 0, 0, 0, 0, 0, 0] a.Field a.Value).2 == 0) && (a.Port == 0))))]) (h' := [.box 53 [.sc (.int .i64 a.Kind), .sc (.int .i64 a.Port), .sc (.int .i64 a.Field), .sc (.int .u64 a.Value)], .box 43 [.arr .u64 12 ((setT_ [0, 0, 0, 0, 0, 0, 0, 0, 0, 0, 0, 0] a.Field a.Value).1)]]) (by kernel_rfl) rfl ?_
      refine DK.done (by kernel_rfl) (by kernel_rfl) ?_
      subst H
      exact AR.ret0 (fn := Try.f38) hG Try.func38 (by kernel_rfl) hc0 (r0 := .sc (.bool (((setT_ [0, 0, 0, 0, 0, 0, 0, 0, 0, 0, 0, 0] a.Field a.Value).2 == 0) && (a.Port == 0)))) (by kernel_rfl) (WkV.refl _)
    case hf9 =>
      replace H := cond_f hb H
      refine AR.seg hG hm 3 [1] (k' := [.code [1, 1, 0], .code [1, 1, 1]]) (t' := [(1, .ptr 0 0 none)]) (h' := [.box 53 [.sc (.int .i64 a.Kind), .sc (.int .i64 a.Port), .sc (.int .i64 a.Field), .sc (.int .u64 a.Value)]]) (by kernel_rfl) ?_
      refine AR.reg hm act_sound_k3 (by kernel_rfl) ?_
      refine DK.seg hG 2 [45, 46] (t' := [(45, Act.av a), (46, .agg [.sc (.int .i64 3), .sc (.int .i64 0), .sc (.int .i64 0), .sc (.int .u64 0)])]) (h' := [.box 53 [.sc (.int .i64 a.Kind), .sc (.int .i64 a.Port), .sc (.int .i64 a.Field), .sc (.int .u64 a.Value)]]) (by kernel_rfl) rfl ?_
      refine DK.op' [47] (t' := [(47, .sc (.bool ((a.Kind == 3) && ((a.Port == 0) && ((a.Field == 0) && (a.Value == 0))))))]) (h' := [.box 53 [.sc (.int .i64 a.Kind), .sc (.int .i64 a.Port), .sc (.int .i64 a.Field), .sc (.int .u64 a.Value)]]) (LSpec.eq' 9 (r := ((a.Kind == 3) && ((a.Port == 0) && ((a.Field == 0) && (a.Value == 0))))) (by kernel_rfl)) (by kernel_rfl) rfl (by kernel_rfl) rfl ?_
      refine DK.seg hG 1 [2] (t' := [(2, .sc (.bool ((a.Kind == 3) && ((a.Port == 0) && ((a.Field == 0) && (a.Value == 0))))))]) (h' := [.box 53 [.sc (.int .i64 a.Kind), .sc (.int .i64 a.Port), .sc (.int .i64 a.Field), .sc (.int .u64 a.Value)]]) (by kernel_rfl) rfl ?_
      refine DK.done (by kernel_rfl) (by kernel_rfl) ?_
      subst H
      exact AR.ret0 (fn := Try.f38) hG Try.func38 (by kernel_rfl) hc0 (r0 := .sc (.bool ((a.Kind == 3) && ((a.Port == 0) && ((a.Field == 0) && (a.Value == 0)))))) (by kernel_rfl) (WkV.refl _)
theorem act_sound_calls (a : Act) : ACalls Try.prog tab.S 38 [Act.av a] [] (.sc (.bool (act_sound a))) [] := act_sound_walk a _ rfl

/-! ### slices.IndexFunc: function 45 -/
noncomputable def slices_IndexFunc__api_Act_F : Go.Sh.Fn := ⟨45, bodyOf Try.f45, 19⟩
def slices_IndexFunc__api_Act_k0 : List Kd := [.pure, .pure, .pure, .pure, .pure, .pure]
def slices_IndexFunc__api_Act_l0s (f : Act → Bool) : List Act → Nat → Sum (Unit) (Int)
  | [], t8 =>
    (.inl ())
  | x :: rest, t8 =>
    (bif (f x) then
      (.inr ((t8 : Nat) : Int))
    else
      slices_IndexFunc__api_Act_l0s f rest (t8 + 1) )
theorem slices_IndexFunc__api_Act_l0_walk (s : List Act) (F_f : FuncId) (C_f : List AV) (f : Act → Bool) (P_f : plainL C_f = true) (O_f : C_f.all oneA = true) (H_f : ∀ (y0 : Act), ACalls Try.prog tab.S F_f ([Act.av y0] ++ C_f) [] (.sc (.bool (f y0))) []) (f_s : Bool) (r : Int) (c0 : Ctx) (hc0 : c0.m.length = 0) (res : Sum (Unit) (Int)) (J : ∀ w : Unit, res = .inl w → AR Try.prog tab slices_IndexFunc__api_Act_F c0 (Rp tab.S c0 (.sc (.int .i64 r)) []) [.code [1, 1]] [] []) (Jr : ∀ w, res = .inr w → w = r) :
    ∀ (rest : List Act) (t8 : Nat) (hd : s.drop t8 = rest) (H : slices_IndexFunc__api_Act_l0s f rest t8 = res), AR Try.prog tab slices_IndexFunc__api_Act_F c0 (Rp tab.S c0 (.sc (.int .i64 r)) []) [.code [1, 0, 1, 0, 0], .loop [1, 0, 1, 0], .blk 0, .code [1, 1]] [(0, .sl 53 (List.map Act.av s) f_s), (1, .fn F_f C_f), (7, .sc (.int .i64 (((List.map Act.av s).length : Nat) : Int))), (8, .sc (.int .i64 ((t8 : Nat) : Int)))] [] := by
  have hG := tab_ok
  have hm := mixed
  intro rest
  induction rest with
  | nil =>
    intro t8 hd  H
    rw [slices_IndexFunc__api_Act_l0s] at H
    refine AR.facts 0 rfl fun hf => ?_
    have hlen : s.length ≤ 9223372036854775807 := by have hq := len_ok hf.2.1; rw [List.length_map] at hq; exact hq
    have hge : s.length ≤ t8 := List.drop_eq_nil_iff.1 hd
    have hc : (decide (((t8 : Nat) : Int) < (((List.map Act.av s).length : Nat) : Int))) = false := by rw [List.length_map]; exact decide_eq_false (by omega)
    refine AR.seg hG hm 3 [0, 1, 7, 8, 9] (k' := [.code [1, 0, 1, 0, 0, 1, 0], .code [1, 0, 1, 0, 0, 1, 1], .loop [1, 0, 1, 0], .blk 0, .code [1, 1]]) (t' := [(0, .sl 53 (List.map Act.av s) f_s), (1, .fn F_f C_f), (7, .sc (.int .i64 (((List.map Act.av s).length : Nat) : Int))), (8, .sc (.int .i64 ((t8 : Nat) : Int))), (9, .sc (.bool (decide (((t8 : Nat) : Int) < (((List.map Act.av s).length : Nat) : Int)))))]) (h' := []) (by kernel_rfl) ?_
    refine AR.cond (.tmp 9) (decide (((t8 : Nat) : Int) < (((List.map Act.av s).length : Nat) : Int))) (by kernel_rfl) (by kernel_rfl) (fun hb => ?ht7) (fun hb => ?hf7)
    case ht7 => exact absurd (hb.symm.trans hc) (by decide)
    case hf7 =>
      refine AR.seg hG hm 1 [] (k' := [.code [1, 1]]) (t' := []) (h' := []) (by kernel_rfl) ?_
      refine AR.keep [] (t' := []) (by kernel_rfl) ?_
      exact J () H.symm
  | cons x rest ih =>
    intro t8 hd  H
    rw [slices_IndexFunc__api_Act_l0s] at H
    refine AR.facts 0 rfl fun hf => ?_
    have hlen : s.length ≤ 9223372036854775807 := by have hq := len_ok hf.2.1; rw [List.length_map] at hq; exact hq
    obtain ⟨hlt, hv_t8, hd2⟩ := drop_cons hd
    have hc : (decide (((t8 : Nat) : Int) < (((List.map Act.av s).length : Nat) : Int))) = true := by rw [List.length_map]; exact decide_eq_true (by omega)
    have hw : IntKind.i64.wrap (((t8 : Nat) : Int) + 1) = ((t8 + 1 : Nat) : Int) := wrapI_succ (by omega)
    refine AR.seg hG hm 3 [0, 1, 7, 8, 9] (k' := [.code [1, 0, 1, 0, 0, 1, 0], .code [1, 0, 1, 0, 0, 1, 1], .loop [1, 0, 1, 0], .blk 0, .code [1, 1]]) (t' := [(0, .sl 53 (List.map Act.av s) f_s), (1, .fn F_f C_f), (7, .sc (.int .i64 (((List.map Act.av s).length : Nat) : Int))), (8, .sc (.int .i64 ((t8 : Nat) : Int))), (9, .sc (.bool (decide (((t8 : Nat) : Int) < (((List.map Act.av s).length : Nat) : Int)))))]) (h' := []) (by kernel_rfl) ?_
    refine AR.cond (.tmp 9) (decide (((t8 : Nat) : Int) < (((List.map Act.av s).length : Nat) : Int))) (by kernel_rfl) (by kernel_rfl) (fun hb => ?ht8) (fun hb => ?hf8)
    case ht8 =>
      refine AR.seg hG hm 6 [0, 1, 5, 7, 8] (k' := [.code [1, 0, 1, 0, 0, 1, 1, 0, 0, 1, 0], .code [1, 0, 1, 0, 0, 1, 1, 0, 0, 1, 1], .blk 1, .code [1, 0, 1, 0, 0, 1, 1, 1], .loop [1, 0, 1, 0], .blk 0, .code [1, 1]]) (t' := [(0, .sl 53 (List.map Act.av s) f_s), (1, .fn F_f C_f), (5, .sc (.int .i64 ((t8 : Nat) : Int))), (7, .sc (.int .i64 (((List.map Act.av s).length : Nat) : Int))), (8, .sc (.int .i64 ((t8 : Nat) : Int)))]) (h' := []) (by kernel_rfl) ?_
      refine AR.reg hm slices_IndexFunc__api_Act_k0 (by kernel_rfl) ?_
      refine DK.seg hG 3 [0, 1, 5, 7, 8, 11, 12, 13] (t' := [(0, .sl 53 (List.map Act.av s) f_s), (1, .fn F_f C_f), (5, .sc (.int .i64 ((t8 : Nat) : Int))), (7, .sc (.int .i64 (((List.map Act.av s).length : Nat) : Int))), (8, .sc (.int .i64 ((t8 : Nat) : Int))), (11, .fn F_f C_f), (12, .sl 53 (List.map Act.av s) f_s), (13, .sc (.int .i64 ((t8 : Nat) : Int)))]) (h' := []) (by kernel_rfl) rfl ?_
      refine DK.op' [0, 1, 5, 7, 8, 11, 14] (t' := [(0, .sl 53 (List.map Act.av s) f_s), (1, .fn F_f C_f), (5, .sc (.int .i64 ((t8 : Nat) : Int))), (7, .sc (.int .i64 (((List.map Act.av s).length : Nat) : Int))), (8, .sc (.int .i64 ((t8 : Nat) : Int))), (11, .fn F_f C_f), (14, .ep [.sc (.int .i64 x.Kind), .sc (.int .i64 x.Port), .sc (.int .i64 x.Field), .sc (.int .u64 x.Value)] 0 none)]) (h' := []) (LSpec.index' (r := Act.av x) (fs := [.sc (.int .i64 x.Kind), .sc (.int .i64 x.Port), .sc (.int .i64 x.Field), .sc (.int .u64 x.Value)]) hG (rows := List.map Act.av s) (j := ((t8 : Nat) : Int)) (by kernel_rfl) (ixO_map hv_t8 _) (by kernel_rfl)) (by kernel_rfl) rfl (by kernel_rfl) rfl ?_
      refine DK.seg hG 1 [0, 1, 5, 7, 8, 11, 15] (t' := [(0, .sl 53 (List.map Act.av s) f_s), (1, .fn F_f C_f), (5, .sc (.int .i64 ((t8 : Nat) : Int))), (7, .sc (.int .i64 (((List.map Act.av s).length : Nat) : Int))), (8, .sc (.int .i64 ((t8 : Nat) : Int))), (11, .fn F_f C_f), (15, Act.av x)]) (h' := []) (by kernel_rfl) rfl ?_
      refine DK.op' [0, 1, 5, 7, 8, 16] (t' := [(0, .sl 53 (List.map Act.av s) f_s), (1, .fn F_f C_f), (5, .sc (.int .i64 ((t8 : Nat) : Int))), (7, .sc (.int .i64 (((List.map Act.av s).length : Nat) : Int))), (8, .sc (.int .i64 ((t8 : Nat) : Int))), (16, .sc (.bool (f x)))]) (h' := []) (LSpec.callFP' (H_f x) (by kernel_rfl) P_f O_f) (by kernel_rfl) rfl (by kernel_rfl) rfl ?_
      refine DK.done (by kernel_rfl) (by kernel_rfl) ?_
      refine AR.cond (.tmp 16) (f x) (by kernel_rfl) (by kernel_rfl) (fun hb => ?ht9) (fun hb => ?hf9)
      case ht9 =>
        replace H := cond_t hb H
        refine AR.seg hG hm 2 [4] (k' := [.code [1, 0, 1, 0, 0, 1, 1, 0, 0, 1, 1, 0, 1], .blk 1, .code [1, 0, 1, 0, 0, 1, 1, 1], .loop [1, 0, 1, 0], .blk 0, .code [1, 1]]) (t' := [(4, .sc (.int .i64 ((t8 : Nat) : Int)))]) (h' := []) (by kernel_rfl) ?_
        subst H
        obtain rfl := Jr _ rfl
        exact AR.ret0 (fn := Try.f45) hG Try.func45 (by kernel_rfl) hc0 (r0 := .sc (.int .i64 ((t8 : Nat) : Int))) (by kernel_rfl) (WkV.refl _)
      case hf9 =>
        replace H := cond_f hb H
        refine AR.seg hG hm 3 [0, 1, 7, 8] (k' := [.loop [1, 0, 1, 0], .blk 0, .code [1, 1]]) (t' := [(0, .sl 53 (List.map Act.av s) f_s), (1, .fn F_f C_f), (7, .sc (.int .i64 (((List.map Act.av s).length : Nat) : Int))), (8, .sc (.int .i64 (IntKind.i64.wrap (((t8 : Nat) : Int) + 1))))]) (h' := []) (by kernel_rfl) ?_
        refine AR.keep [0, 1, 7, 8] (t' := [(0, .sl 53 (List.map Act.av s) f_s), (1, .fn F_f C_f), (7, .sc (.int .i64 (((List.map Act.av s).length : Nat) : Int))), (8, .sc (.int .i64 (IntKind.i64.wrap (((t8 : Nat) : Int) + 1))))]) (by kernel_rfl) ?_
        refine AR.loop_round ?_
        rw [hw]
        exact ih (t8 + 1) hd2 H
    case hf8 => exact absurd (hc.symm.trans hb) (by decide)

def slices_IndexFunc__api_Act (s : List Act) (f : Act → Bool) : Int :=
  sumG (fun q => q) (slices_IndexFunc__api_Act_l0s f s 0) fun v =>
  (-1)
theorem slices_IndexFunc__api_Act_walk (s : List Act) (F_f : FuncId) (C_f : List AV) (f : Act → Bool) (P_f : plainL C_f = true) (O_f : C_f.all oneA = true) (H_f : ∀ (y0 : Act), ACalls Try.prog tab.S F_f ([Act.av y0] ++ C_f) [] (.sc (.bool (f y0))) []) (f_s : Bool) (r : Int) (H : slices_IndexFunc__api_Act s f = r) :
    ACalls Try.prog tab.S 45 [.sl 53 (List.map Act.av s) f_s, .fn F_f C_f] [] (.sc (.int .i64 r)) [] := by
  have hG := tab_ok
  have hm := mixed
  refine ACalls.of_AR (G := tab) slices_IndexFunc__api_Act_F (fn := Try.f45) Try.func45 (by kernel_rfl) (by kernel_rfl) (by kernel_rfl) (Nat.le_of_ble_eq_true (by kernel_rfl)) ?_
  intro c0 hc0
  replace hc0 : c0.m.length = 0 := hc0
  rw [slices_IndexFunc__api_Act] at H
  refine AR.seg hG hm 6 [0, 1, 7, 8] (k' := [.code [1, 0, 1, 0], .blk 0, .code [1, 1]]) (t' := [(0, .sl 53 (List.map Act.av s) f_s), (1, .fn F_f C_f), (7, .sc (.int .i64 (((List.map Act.av s).length : Nat) : Int))), (8, .sc (.int .i64 0))]) (h' := []) (by kernel_rfl) ?_
  rcases sumG_eq H with ⟨v, hv, H⟩ | ⟨r1, hv, hr1⟩
  case inr =>
    refine AR.into (by kernel_rfl) ?_
    replace hr1 : r1 = r := hr1
    subst hr1
    exact slices_IndexFunc__api_Act_l0_walk s F_f C_f f P_f O_f H_f f_s _ c0 hc0 (.inr _) (fun _ e => by cases e) (fun _ e => (Sum.inr.inj e).symm) s 0 rfl hv
  refine AR.into (by kernel_rfl) ?_
  refine slices_IndexFunc__api_Act_l0_walk s F_f C_f f P_f O_f H_f f_s r c0 hc0 (.inl v) (fun w e => ?_) (fun _ e => by cases e) s 0 rfl hv
  have e := Sum.inl.inj e
  subst e
  refine AR.seg hG hm 2 [4] (k' := [.code [1, 1, 1]]) (t' := [(4, .sc (.int .i64 (-1)))]) (h' := []) (by kernel_rfl) ?_
  subst H
  exact AR.ret0 (fn := Try.f45) hG Try.func45 (by kernel_rfl) hc0 (r0 := .sc (.int .i64 (-1))) (by kernel_rfl) (WkV.refl _)
theorem slices_IndexFunc__api_Act_calls (s : List Act) (F_f : FuncId) (C_f : List AV) (f : Act → Bool) (P_f : plainL C_f = true) (O_f : C_f.all oneA = true) (H_f : ∀ (y0 : Act), ACalls Try.prog tab.S F_f ([Act.av y0] ++ C_f) [] (.sc (.bool (f y0))) []) (f_s : Bool) : ACalls Try.prog tab.S 45 [.sl 53 (List.map Act.av s) f_s, .fn F_f C_f] [] (.sc (.int .i64 (slices_IndexFunc__api_Act s f))) [] := slices_IndexFunc__api_Act_walk s F_f C_f f P_f O_f H_f f_s _ rfl

theorem slices_IndexFunc__api_Act_l0s_eq (f : Act → Bool) : ∀ (l : List Act) (i : Nat), slices_IndexFunc__api_Act_l0s f l i = match l.findIdx? f with | some k => .inr ((i + k : Nat) : Int) | none => .inl ()
  | [], i => rfl
  | x :: l, i => by
      rw [slices_IndexFunc__api_Act_l0s, List.findIdx?_cons, slices_IndexFunc__api_Act_l0s_eq f l (i + 1)]
      cases f x
      · simp only [cond_false, Bool.false_eq_true, if_false]
        cases l.findIdx? f with
        | none => rfl
        | some k => simp only [Option.map_some]; rw [show i + 1 + k = i + (k + 1) by omega]
      · rfl
theorem slices_IndexFunc__api_Act_idx (s : List Act) (f : Act → Bool) : slices_IndexFunc__api_Act s f = idxF f s := by
  rw [slices_IndexFunc__api_Act, slices_IndexFunc__api_Act_l0s_eq]
  unfold idxF sumG
  cases s.findIdx? f with
  | none => rfl
  | some k => simp only [Nat.zero_add]

/-! ### slices.ContainsFunc: function 36 -/
noncomputable def slices_ContainsFunc__api_Act_F : Go.Sh.Fn := ⟨36, bodyOf Try.f36, 9⟩
def slices_ContainsFunc__api_Act_k0 : List Kd := [.pure, .pure, .read, .pure, .pure]
def slices_ContainsFunc__api_Act (s : List Act) (f : Act → Bool) : Bool :=
  (decide ((slices_IndexFunc__api_Act s f) ≥ 0))
theorem slices_ContainsFunc__api_Act_walk (s : List Act) (F_f : FuncId) (C_f : List AV) (f : Act → Bool) (P_f : plainL C_f = true) (O_f : C_f.all oneA = true) (H_f : ∀ (y0 : Act), ACalls Try.prog tab.S F_f ([Act.av y0] ++ C_f) [] (.sc (.bool (f y0))) []) (f_s : Bool) (r : Bool) (H : slices_ContainsFunc__api_Act s f = r) :
    ACalls Try.prog tab.S 36 [.sl 53 (List.map Act.av s) f_s, .fn F_f C_f] [] (.sc (.bool r)) [] := by
  have hG := tab_ok
  have hm := mixed
  refine ACalls.of_AR (G := tab) slices_ContainsFunc__api_Act_F (fn := Try.f36) Try.func36 (by kernel_rfl) (by kernel_rfl) (by kernel_rfl) (Nat.le_of_ble_eq_true (by kernel_rfl)) ?_
  intro c0 hc0
  replace hc0 : c0.m.length = 0 := hc0
  rw [slices_ContainsFunc__api_Act] at H
  refine AR.seg hG hm 3 [0, 1] (k' := [.code [1, 0], .code [1, 1]]) (t' := [(0, .sl 53 (List.map Act.av s) f_s), (1, .fn F_f C_f)]) (h' := []) (by kernel_rfl) ?_
  refine AR.reg hm slices_ContainsFunc__api_Act_k0 (by kernel_rfl) ?_
  refine DK.seg hG 2 [5, 6] (t' := [(5, .sl 53 (List.map Act.av s) f_s), (6, .fn F_f C_f)]) (h' := []) (by kernel_rfl) rfl ?_
  refine DK.op' [7] (t' := [(7, .sc (.int .i64 (slices_IndexFunc__api_Act s f)))]) (h' := []) (LSpec.callF' (caps := []) (slices_IndexFunc__api_Act_calls s F_f C_f f P_f O_f H_f f_s) (by kernel_rfl) (.same rfl (.fn (caps := C_f) (lendC_plain C_f P_f) .nil)) (by kernel_rfl) rfl rfl) (by kernel_rfl) rfl (by kernel_rfl) rfl ?_
  refine DK.seg hG 2 [4] (t' := [(4, .sc (.bool (decide ((slices_IndexFunc__api_Act s f) ≥ 0))))]) (h' := []) (by kernel_rfl) rfl ?_
  refine DK.done (by kernel_rfl) (by kernel_rfl) ?_
  subst H
  exact AR.ret0 (fn := Try.f36) hG Try.func36 (by kernel_rfl) hc0 (r0 := .sc (.bool (decide ((slices_IndexFunc__api_Act s f) ≥ 0)))) (by kernel_rfl) (WkV.refl _)
theorem slices_ContainsFunc__api_Act_calls (s : List Act) (F_f : FuncId) (C_f : List AV) (f : Act → Bool) (P_f : plainL C_f = true) (O_f : C_f.all oneA = true) (H_f : ∀ (y0 : Act), ACalls Try.prog tab.S F_f ([Act.av y0] ++ C_f) [] (.sc (.bool (f y0))) []) (f_s : Bool) : ACalls Try.prog tab.S 36 [.sl 53 (List.map Act.av s) f_s, .fn F_f C_f] [] (.sc (.bool (slices_ContainsFunc__api_Act s f))) [] := slices_ContainsFunc__api_Act_walk s F_f C_f f P_f O_f H_f f_s _ rfl

theorem slices_ContainsFunc__api_Act_any (s : List Act) (f : Act → Bool) : slices_ContainsFunc__api_Act s f = s.any f := by
  rw [slices_ContainsFunc__api_Act, slices_IndexFunc__api_Act_idx, idxF_any]

/-! ### act.Sound$1: function 37 -/
noncomputable def act_Sound_1_F : Go.Sh.Fn := ⟨37, bodyOf Try.f37, 6⟩
def act_Sound_1_k0 : List Kd := [.read, .pure, .pure, .pure]
def act_Sound_1 (a : Act) : Bool :=
  (!(act_sound a))
theorem act_Sound_1_walk (a : Act) (r : Bool) (H : act_Sound_1 a = r) :
    ACalls Try.prog tab.S 37 [Act.av a] [] (.sc (.bool r)) [] := by
  have hG := tab_ok
  have hm := mixed
  refine ACalls.of_AR (G := tab) act_Sound_1_F (fn := Try.f37) Try.func37 (by kernel_rfl) (by kernel_rfl) (by kernel_rfl) (Nat.le_of_ble_eq_true (by kernel_rfl)) ?_
  intro c0 hc0
  replace hc0 : c0.m.length = 0 := hc0
  rw [act_Sound_1] at H
  refine AR.seg hG hm 3 [1] (k' := [.code [1, 0], .code [1, 1]]) (t' := [(1, .ptr 0 0 none)]) (h' := [.box 53 [.sc (.int .i64 a.Kind), .sc (.int .i64 a.Port), .sc (.int .i64 a.Field), .sc (.int .u64 a.Value)]]) (by kernel_rfl) ?_
  refine AR.reg hm act_Sound_1_k0 (by kernel_rfl) ?_
  refine DK.seg hG 1 [3] (t' := [(3, Act.av a)]) (h' := [.box 53 [.sc (.int .i64 a.Kind), .sc (.int .i64 a.Port), .sc (.int .i64 a.Field), .sc (.int .u64 a.Value)]]) (by kernel_rfl) rfl ?_
  refine DK.op' [4] (t' := [(4, .sc (.bool (act_sound a)))]) (h' := [.box 53 [.sc (.int .i64 a.Kind), .sc (.int .i64 a.Port), .sc (.int .i64 a.Field), .sc (.int .u64 a.Value)]]) (LSpec.callP' (act_sound_calls a) (by kernel_rfl)) (by kernel_rfl) rfl (by kernel_rfl) rfl ?_
  refine DK.seg hG 2 [2] (t' := [(2, .sc (.bool (!(act_sound a))))]) (h' := [.box 53 [.sc (.int .i64 a.Kind), .sc (.int .i64 a.Port), .sc (.int .i64 a.Field), .sc (.int .u64 a.Value)]]) (by kernel_rfl) rfl ?_
  refine DK.done (by kernel_rfl) (by kernel_rfl) ?_
  subst H
  exact AR.ret0 (fn := Try.f37) hG Try.func37 (by kernel_rfl) hc0 (r0 := .sc (.bool (!(act_sound a)))) (by kernel_rfl) (WkV.refl _)
theorem act_Sound_1_calls (a : Act) : ACalls Try.prog tab.S 37 [Act.av a] [] (.sc (.bool (act_Sound_1 a))) [] := act_Sound_1_walk a _ rfl

/-! ### act.Sound: function 24 -/
noncomputable def act_Sound_F : Go.Sh.Fn := ⟨24, bodyOf Try.f24, 11⟩
def act_Sound_k0 : List Kd := [.pure, .pure, .pure, .pure, .pure, .read, .pure, .pure, .pure]
def act_Sound (list : List Act) : Bool :=
  ((decide ((((List.map Act.av list).length : Nat) : Int) ≤ 8)) && (!(slices_ContainsFunc__api_Act list act_Sound_1)))
theorem act_Sound_walk (list : List Act) (f_list : Bool) (r : Bool) (H : act_Sound list = r) :
    ACalls Try.prog tab.S 24 [.sl 53 (List.map Act.av list) f_list] [] (.sc (.bool r)) [] := by
  have hG := tab_ok
  have hm := mixed
  refine ACalls.of_AR (G := tab) act_Sound_F (fn := Try.f24) Try.func24 (by kernel_rfl) (by kernel_rfl) (by kernel_rfl) (Nat.le_of_ble_eq_true (by kernel_rfl)) ?_
  intro c0 hc0
  replace hc0 : c0.m.length = 0 := hc0
  rw [act_Sound] at H
  refine AR.seg hG hm 3 [0] (k' := [.code [1, 0], .code [1, 1]]) (t' := [(0, .sl 53 (List.map Act.av list) f_list)]) (h' := []) (by kernel_rfl) ?_
  refine AR.reg hm act_Sound_k0 (by kernel_rfl) ?_
  refine DK.seg hG 4 [0, 6] (t' := [(0, .sl 53 (List.map Act.av list) f_list), (6, .sc (.bool (decide ((((List.map Act.av list).length : Nat) : Int) ≤ 8))))]) (h' := []) (by kernel_rfl) rfl ?_
  refine DK.mux 6 (decide ((((List.map Act.av list).length : Nat) : Int) ≤ 8)) (j := 8) (h' := []) (by kernel_rfl) (fun z => [(10, .sc (.bool (z && (!(slices_ContainsFunc__api_Act list act_Sound_1)))))]) ?J1 (fun hb J => ?ht1) (fun hb J => ?hf1)
  case ht1 =>
    refine DK.seg hG 1 [6, 7] (t' := [(6, .sc (.bool true)), (7, .sl 53 (List.map Act.av list) f_list)]) (h' := []) (by kernel_rfl) rfl ?_
    refine DK.op' [6, 8] (t' := [(6, .sc (.bool true)), (8, .sc (.bool (slices_ContainsFunc__api_Act list act_Sound_1)))]) (h' := []) (LSpec.callF' (caps := []) (slices_ContainsFunc__api_Act_calls list 37 [] act_Sound_1 rfl rfl (fun y0 => act_Sound_1_calls y0) f_list) (by kernel_rfl) (.same rfl (.fn (caps := []) (by kernel_rfl) .nil)) (by kernel_rfl) rfl rfl) (by kernel_rfl) rfl (by kernel_rfl) rfl ?_
    exact DK.seg hG 2 [10] (by kernel_rfl) rfl J
  case hf1 =>
    exact DK.seg hG 4 [10] (by kernel_rfl) rfl J
  refine DK.seg hG 1 [2] (t' := [(2, .sc (.bool ((decide ((((List.map Act.av list).length : Nat) : Int) ≤ 8)) && (!(slices_ContainsFunc__api_Act list act_Sound_1)))))]) (h' := []) (by kernel_rfl) rfl ?_
  refine DK.done (by kernel_rfl) (by kernel_rfl) ?_
  subst H
  exact AR.ret0 (fn := Try.f24) hG Try.func24 (by kernel_rfl) hc0 (r0 := .sc (.bool ((decide ((((List.map Act.av list).length : Nat) : Int) ≤ 8)) && (!(slices_ContainsFunc__api_Act list act_Sound_1))))) (by kernel_rfl) (WkV.refl _)
theorem act_Sound_calls (list : List Act) (f_list : Bool) : ACalls Try.prog tab.S 24 [.sl 53 (List.map Act.av list) f_list] [] (.sc (.bool (act_Sound list))) [] := act_Sound_walk list f_list _ rfl

/-! ### act.Run: function 22 -/
noncomputable def act_Run_F : Go.Sh.Fn := ⟨22, bodyOf Try.f22, 40⟩
def act_Run_k2 : List Kd := [.pure, .pure, .read, .read, .pure, .pure, .loud, .pure]
def act_Run_k3 : List Kd := [.pure, .read, .pure, .read, .pure, .loud]
def act_Run_k1 : List Kd := [.pure, .pure, .loud, .loud]
def act_Run_k0 : List Kd := [.pure, .pure, .pure]
def act_Run_l0s : List Act → Bool → List Int → List Send → Option (Bool × (List Int) × (List Send))
  | [], tell, h2, out =>
    some (tell, h2, out)
  | x :: rest, tell, h2, out =>
    (bif (x.Kind == 1) then
      fitO (out.length + [({ Port := x.Port, Head := h2 } : Send)].length) 104 (
      act_Run_l0s rest tell h2 (out ++ [({ Port := x.Port, Head := h2 } : Send)]))
    else
      (bif (x.Kind == 2) then
        reqO (decide (0 ≤ x.Field) && decide (x.Field < ((12 : Nat) : Int))) (
        act_Run_l0s rest tell (h2.set (x.Field.toNat) x.Value) out)
      else
        act_Run_l0s rest ((x.Kind == 3) || tell) h2 out))
theorem act_Run_l0_walk (list : List Act) (h1 : List Int) (f_list : Bool) (r : (List Send) × Bool) (c0 : Ctx) (hc0 : c0.m.length = 0) (res : Bool × (List Int) × (List Send)) (J : AR Try.prog tab act_Run_F c0 (Rp tab.S c0 (.tup [.sl 59 (List.map Send.av r.1) false, .sc (.bool r.2)]) []) [.code [1, 1, 1]] [(4, .own 1 1000000), (5, .sc (.bool res.1))] [.box 43 [.arr .u64 12 res.2.1], .row 59 (List.map Send.av res.2.2) 1000000 true]) :
    ∀ (rest : List Act) (t13 : Nat) (hd : list.drop t13 = rest) (tell : Bool) (h2 : List Int) (out : List Send) (H : act_Run_l0s rest tell h2 out = some res), AR Try.prog tab act_Run_F c0 (Rp tab.S c0 (.tup [.sl 59 (List.map Send.av r.1) false, .sc (.bool r.2)]) []) [.code [1, 1, 0, 1, 0, 0], .loop [1, 1, 0, 1, 0], .blk 0, .code [1, 1, 1]] [(3, .ptr 0 0 none), (4, .own 1 1000000), (5, .sc (.bool tell)), (11, .sl 53 (List.map Act.av list) f_list), (12, .sc (.int .i64 (((List.map Act.av list).length : Nat) : Int))), (13, .sc (.int .i64 ((t13 : Nat) : Int)))] [.box 43 [.arr .u64 12 h2], .row 59 (List.map Send.av out) 1000000 true] := by
  have hG := tab_ok
  have hm := mixed
  intro rest
  induction rest with
  | nil =>
    intro t13 hd tell h2 out H
    rw [act_Run_l0s] at H
    refine AR.facts 11 rfl fun hf => ?_
    have hlen : list.length ≤ 9223372036854775807 := by have hq := len_ok hf.2.1; rw [List.length_map] at hq; exact hq
    have hge : list.length ≤ t13 := List.drop_eq_nil_iff.1 hd
    have hc : (decide (((t13 : Nat) : Int) < (((List.map Act.av list).length : Nat) : Int))) = false := by rw [List.length_map]; exact decide_eq_false (by omega)
    refine AR.seg hG hm 3 [3, 4, 5, 11, 12, 13, 14] (k' := [.code [1, 1, 0, 1, 0, 0, 1, 0], .code [1, 1, 0, 1, 0, 0, 1, 1], .loop [1, 1, 0, 1, 0], .blk 0, .code [1, 1, 1]]) (t' := [(3, .ptr 0 0 none), (4, .own 1 1000000), (5, .sc (.bool tell)), (11, .sl 53 (List.map Act.av list) f_list), (12, .sc (.int .i64 (((List.map Act.av list).length : Nat) : Int))), (13, .sc (.int .i64 ((t13 : Nat) : Int))), (14, .sc (.bool (decide (((t13 : Nat) : Int) < (((List.map Act.av list).length : Nat) : Int)))))]) (h' := [.box 43 [.arr .u64 12 h2], .row 59 (List.map Send.av out) 1000000 true]) (by kernel_rfl) ?_
    refine AR.cond (.tmp 14) (decide (((t13 : Nat) : Int) < (((List.map Act.av list).length : Nat) : Int))) (by kernel_rfl) (by kernel_rfl) (fun hb => ?ht16) (fun hb => ?hf16)
    case ht16 => exact absurd (hb.symm.trans hc) (by decide)
    case hf16 =>
      refine AR.seg hG hm 1 [4, 5] (k' := [.code [1, 1, 1]]) (t' := [(4, .own 1 1000000), (5, .sc (.bool tell))]) (h' := [.box 43 [.arr .u64 12 h2], .row 59 (List.map Send.av out) 1000000 true]) (by kernel_rfl) ?_
      refine AR.keep [4, 5] (t' := [(4, .own 1 1000000), (5, .sc (.bool tell))]) (by kernel_rfl) ?_
      obtain rfl := Option.some.inj H
      exact J
  | cons x rest ih =>
    intro t13 hd tell h2 out H
    rw [act_Run_l0s] at H
    refine AR.facts 11 rfl fun hf => ?_
    have hlen : list.length ≤ 9223372036854775807 := by have hq := len_ok hf.2.1; rw [List.length_map] at hq; exact hq
    obtain ⟨hlt, hv_t13, hd2⟩ := drop_cons hd
    have hc : (decide (((t13 : Nat) : Int) < (((List.map Act.av list).length : Nat) : Int))) = true := by rw [List.length_map]; exact decide_eq_true (by omega)
    have hw : IntKind.i64.wrap (((t13 : Nat) : Int) + 1) = ((t13 + 1 : Nat) : Int) := wrapI_succ (by omega)
    refine AR.seg hG hm 3 [3, 4, 5, 11, 12, 13, 14] (k' := [.code [1, 1, 0, 1, 0, 0, 1, 0], .code [1, 1, 0, 1, 0, 0, 1, 1], .loop [1, 1, 0, 1, 0], .blk 0, .code [1, 1, 1]]) (t' := [(3, .ptr 0 0 none), (4, .own 1 1000000), (5, .sc (.bool tell)), (11, .sl 53 (List.map Act.av list) f_list), (12, .sc (.int .i64 (((List.map Act.av list).length : Nat) : Int))), (13, .sc (.int .i64 ((t13 : Nat) : Int))), (14, .sc (.bool (decide (((t13 : Nat) : Int) < (((List.map Act.av list).length : Nat) : Int)))))]) (h' := [.box 43 [.arr .u64 12 h2], .row 59 (List.map Send.av out) 1000000 true]) (by kernel_rfl) ?_
    refine AR.cond (.tmp 14) (decide (((t13 : Nat) : Int) < (((List.map Act.av list).length : Nat) : Int))) (by kernel_rfl) (by kernel_rfl) (fun hb => ?ht17) (fun hb => ?hf17)
    case ht17 =>
      refine AR.seg hG hm 4 [3, 4, 5, 11, 12, 13] (k' := [.code [1, 1, 0, 1, 0, 0, 1, 1, 0, 0, 0], .code [1, 1, 0, 1, 0, 0, 1, 1, 0, 0, 1], .blk 1, .code [1, 1, 0, 1, 0, 0, 1, 1, 1], .loop [1, 1, 0, 1, 0], .blk 0, .code [1, 1, 1]]) (t' := [(3, .ptr 0 0 none), (4, .own 1 1000000), (5, .sc (.bool tell)), (11, .sl 53 (List.map Act.av list) f_list), (12, .sc (.int .i64 (((List.map Act.av list).length : Nat) : Int))), (13, .sc (.int .i64 ((t13 : Nat) : Int)))]) (h' := [.box 43 [.arr .u64 12 h2], .row 59 (List.map Send.av out) 1000000 true]) (by kernel_rfl) ?_
      refine AR.reg hm act_Run_k1 (by kernel_rfl) ?_
      refine DK.op' [3, 4, 5, 11, 12, 13, 15] (t' := [(3, .ptr 0 0 none), (4, .own 1 1000000), (5, .sc (.bool tell)), (11, .sl 53 (List.map Act.av list) f_list), (12, .sc (.int .i64 (((List.map Act.av list).length : Nat) : Int))), (13, .sc (.int .i64 ((t13 : Nat) : Int))), (15, .ep [.sc (.int .i64 x.Kind), .sc (.int .i64 x.Port), .sc (.int .i64 x.Field), .sc (.int .u64 x.Value)] 0 none)]) (h' := [.box 43 [.arr .u64 12 h2], .row 59 (List.map Send.av out) 1000000 true]) (LSpec.index' (r := Act.av x) (fs := [.sc (.int .i64 x.Kind), .sc (.int .i64 x.Port), .sc (.int .i64 x.Field), .sc (.int .u64 x.Value)]) hG (rows := List.map Act.av list) (j := ((t13 : Nat) : Int)) (by kernel_rfl) (ixO_map hv_t13 _) (by kernel_rfl)) (by kernel_rfl) rfl (by kernel_rfl) rfl ?_
      refine DK.seg hG 3 [3, 4, 5, 7, 11, 12, 13] (t' := [(3, .ptr 0 0 none), (4, .own 1 1000000), (5, .sc (.bool tell)), (7, .ptr 2 0 none), (11, .sl 53 (List.map Act.av list) f_list), (12, .sc (.int .i64 (((List.map Act.av list).length : Nat) : Int))), (13, .sc (.int .i64 ((t13 : Nat) : Int)))]) (h' := [.box 43 [.arr .u64 12 h2], .row 59 (List.map Send.av out) 1000000 true, .box 53 [.sc (.int .i64 x.Kind), .sc (.int .i64 x.Port), .sc (.int .i64 x.Field), .sc (.int .u64 x.Value)]]) (by kernel_rfl) rfl ?_
      refine DK.done (by kernel_rfl) (by kernel_rfl) ?_
      refine AR.seg hG hm 5 [3, 4, 5, 7, 11, 12, 13, 18, 19] (k' := [.code [1, 1, 0, 1, 0, 0, 1, 1, 0, 0, 1, 1, 0, 1], .blk 2, .blk 1, .code [1, 1, 0, 1, 0, 0, 1, 1, 1], .loop [1, 1, 0, 1, 0], .blk 0, .code [1, 1, 1]]) (t' := [(3, .ptr 0 0 none), (4, .own 1 1000000), (5, .sc (.bool tell)), (7, .ptr 2 0 none), (11, .sl 53 (List.map Act.av list) f_list), (12, .sc (.int .i64 (((List.map Act.av list).length : Nat) : Int))), (13, .sc (.int .i64 ((t13 : Nat) : Int))), (18, .sc (.int .i64 x.Kind)), (19, .sc (.bool (x.Kind == 1)))]) (h' := [.box 43 [.arr .u64 12 h2], .row 59 (List.map Send.av out) 1000000 true, .box 53 [.sc (.int .i64 x.Kind), .sc (.int .i64 x.Port), .sc (.int .i64 x.Field), .sc (.int .u64 x.Value)]]) (by kernel_rfl) ?_
      refine AR.cond (.tmp 19) (x.Kind == 1) (by kernel_rfl) (by kernel_rfl) (fun hb => ?ht18) (fun hb => ?hf18)
      case ht18 =>
        replace H := cond_t hb H
        refine AR.reg hm act_Run_k2 (by kernel_rfl) ?_
        refine DK.seg hG 6 [3, 5, 11, 12, 13, 21, 26] (t' := [(3, .ptr 0 0 none), (5, .sc (.bool tell)), (11, .sl 53 (List.map Act.av list) f_list), (12, .sc (.int .i64 (((List.map Act.av list).length : Nat) : Int))), (13, .sc (.int .i64 ((t13 : Nat) : Int))), (21, .own 1 1000000), (26, .sl 59 (List.map Send.av [({ Port := x.Port, Head := h2 } : Send)]) true)]) (h' := [.box 43 [.arr .u64 12 h2], .row 59 (List.map Send.av out) 1000000 true, .box 53 [.sc (.int .i64 x.Kind), .sc (.int .i64 x.Port), .sc (.int .i64 x.Field), .sc (.int .u64 x.Value)]]) (by kernel_rfl) rfl ?_
        obtain ⟨hfit, H⟩ := fitO_some H
        refine DK.op' [3, 5, 11, 12, 13, 27] (t' := [(3, .ptr 0 0 none), (5, .sc (.bool tell)), (11, .sl 53 (List.map Act.av list) f_list), (12, .sc (.int .i64 (((List.map Act.av list).length : Nat) : Int))), (13, .sc (.int .i64 ((t13 : Nat) : Int))), (27, .own 1 1000001)]) (h' := [.box 43 [.arr .u64 12 h2], .row 59 (List.map Send.av (out ++ [({ Port := x.Port, Head := h2 } : Send)])) 1000001 true, .box 53 [.sc (.int .i64 x.Kind), .sc (.int .i64 x.Port), .sc (.int .i64 x.Field), .sc (.int .u64 x.Value)]]) (LSpec.append' hG Send.av out [({ Port := x.Port, Head := h2 } : Send)] 1 1000000 59 104 hfit (by kernel_rfl)) (by kernel_rfl) (by kernel_rfl) (by kernel_rfl) rfl ?_
        refine DK.seg hG 1 [3, 4, 5, 11, 12, 13] (t' := [(3, .ptr 0 0 none), (4, .own 1 1000001), (5, .sc (.bool tell)), (11, .sl 53 (List.map Act.av list) f_list), (12, .sc (.int .i64 (((List.map Act.av list).length : Nat) : Int))), (13, .sc (.int .i64 ((t13 : Nat) : Int)))]) (h' := [.box 43 [.arr .u64 12 h2], .row 59 (List.map Send.av (out ++ [({ Port := x.Port, Head := h2 } : Send)])) 1000001 true, .box 53 [.sc (.int .i64 x.Kind), .sc (.int .i64 x.Port), .sc (.int .i64 x.Field), .sc (.int .u64 x.Value)]]) (by kernel_rfl) rfl ?_
        refine DK.done (by kernel_rfl) (by kernel_rfl) ?_
        refine AR.seg hG hm 3 [3, 4, 5, 11, 12, 13] (k' := [.loop [1, 1, 0, 1, 0], .blk 0, .code [1, 1, 1]]) (t' := [(3, .ptr 0 0 none), (4, .own 1 1000001), (5, .sc (.bool tell)), (11, .sl 53 (List.map Act.av list) f_list), (12, .sc (.int .i64 (((List.map Act.av list).length : Nat) : Int))), (13, .sc (.int .i64 (IntKind.i64.wrap (((t13 : Nat) : Int) + 1))))]) (h' := [.box 43 [.arr .u64 12 h2], .row 59 (List.map Send.av (out ++ [({ Port := x.Port, Head := h2 } : Send)])) 1000001 true, .box 53 [.sc (.int .i64 x.Kind), .sc (.int .i64 x.Port), .sc (.int .i64 x.Field), .sc (.int .u64 x.Value)]]) (by kernel_rfl) ?_
        refine AR.keep [3, 4, 5, 11, 12, 13] (t' := [(3, .ptr 0 0 none), (4, .own 1 1000001), (5, .sc (.bool tell)), (11, .sl 53 (List.map Act.av list) f_list), (12, .sc (.int .i64 (((List.map Act.av list).length : Nat) : Int))), (13, .sc (.int .i64 (IntKind.i64.wrap (((t13 : Nat) : Int) + 1))))]) (by kernel_rfl) ?_
        refine AR.norm' 1 1000000 hc0 (t' := [(3, .ptr 0 0 none), (4, .own 1 1000000), (5, .sc (.bool tell)), (11, .sl 53 (List.map Act.av list) f_list), (12, .sc (.int .i64 (((List.map Act.av list).length : Nat) : Int))), (13, .sc (.int .i64 (IntKind.i64.wrap (((t13 : Nat) : Int) + 1))))]) (h' := [.box 43 [.arr .u64 12 h2], .row 59 (List.map Send.av (out ++ [({ Port := x.Port, Head := h2 } : Send)])) 1000000 true, .box 53 [.sc (.int .i64 x.Kind), .sc (.int .i64 x.Port), .sc (.int .i64 x.Field), .sc (.int .u64 x.Value)]]) (by kernel_rfl) ?_
        refine AR.drop' 2 hc0 (t' := [(3, .ptr 0 0 none), (4, .own 1 1000000), (5, .sc (.bool tell)), (11, .sl 53 (List.map Act.av list) f_list), (12, .sc (.int .i64 (((List.map Act.av list).length : Nat) : Int))), (13, .sc (.int .i64 (IntKind.i64.wrap (((t13 : Nat) : Int) + 1))))]) (h' := [.box 43 [.arr .u64 12 h2], .row 59 (List.map Send.av (out ++ [({ Port := x.Port, Head := h2 } : Send)])) 1000000 true]) (by kernel_rfl) ?_
        refine AR.loop_round ?_
        rw [hw]
        exact ih (t13 + 1) hd2 tell h2 (out ++ [({ Port := x.Port, Head := h2 } : Send)]) H
      case hf18 =>
        replace H := cond_f hb H
        refine AR.seg hG hm 2 [3, 4, 5, 7, 11, 12, 13, 18, 28] (k' := [.code [1, 1, 0, 1, 0, 0, 1, 1, 0, 0, 1, 1, 0, 1, 1, 1], .blk 2, .blk 1, .code [1, 1, 0, 1, 0, 0, 1, 1, 1], .loop [1, 1, 0, 1, 0], .blk 0, .code [1, 1, 1]]) (t' := [(3, .ptr 0 0 none), (4, .own 1 1000000), (5, .sc (.bool tell)), (7, .ptr 2 0 none), (11, .sl 53 (List.map Act.av list) f_list), (12, .sc (.int .i64 (((List.map Act.av list).length : Nat) : Int))), (13, .sc (.int .i64 ((t13 : Nat) : Int))), (18, .sc (.int .i64 x.Kind)), (28, .sc (.bool (x.Kind == 2)))]) (h' := [.box 43 [.arr .u64 12 h2], .row 59 (List.map Send.av out) 1000000 true, .box 53 [.sc (.int .i64 x.Kind), .sc (.int .i64 x.Port), .sc (.int .i64 x.Field), .sc (.int .u64 x.Value)]]) (by kernel_rfl) ?_
        refine AR.cond (.tmp 28) (x.Kind == 2) (by kernel_rfl) (by kernel_rfl) (fun hb => ?ht19) (fun hb => ?hf19)
        case ht19 =>
          replace H := cond_t hb H
          refine AR.reg hm act_Run_k3 (by kernel_rfl) ?_
          refine DK.seg hG 4 [3, 4, 5, 11, 12, 13, 31, 33] (t' := [(3, .ptr 0 0 none), (4, .own 1 1000000), (5, .sc (.bool tell)), (11, .sl 53 (List.map Act.av list) f_list), (12, .sc (.int .i64 (((List.map Act.av list).length : Nat) : Int))), (13, .sc (.int .i64 ((t13 : Nat) : Int))), (31, .sc (.int .i64 x.Field)), (33, .sc (.int .u64 x.Value))]) (h' := [.box 43 [.arr .u64 12 h2], .row 59 (List.map Send.av out) 1000000 true, .box 53 [.sc (.int .i64 x.Kind), .sc (.int .i64 x.Port), .sc (.int .i64 x.Field), .sc (.int .u64 x.Value)]]) (by kernel_rfl) rfl ?_
          obtain ⟨hreq, H⟩ := reqO_some H
          refine DK.op' [3, 4, 5, 11, 12, 13, 33, 34] (t' := [(3, .ptr 0 0 none), (4, .own 1 1000000), (5, .sc (.bool tell)), (11, .sl 53 (List.map Act.av list) f_list), (12, .sc (.int .i64 (((List.map Act.av list).length : Nat) : Int))), (13, .sc (.int .i64 ((t13 : Nat) : Int))), (33, .sc (.int .u64 x.Value)), (34, .ptr 0 0 (some (x.Field.toNat, 12)))]) (h' := [.box 43 [.arr .u64 12 h2], .row 59 (List.map Send.av out) 1000000 true, .box 53 [.sc (.int .i64 x.Kind), .sc (.int .i64 x.Port), .sc (.int .i64 x.Field), .sc (.int .u64 x.Value)]]) (LSpec.idxPtr (o := 0) (off := 0) (m := 12) (j := x.Field) hG hreq (by kernel_rfl)) (by kernel_rfl) rfl (by kernel_rfl) rfl ?_
          refine DK.seg hG 1 [3, 4, 5, 11, 12, 13] (t' := [(3, .ptr 0 0 none), (4, .own 1 1000000), (5, .sc (.bool tell)), (11, .sl 53 (List.map Act.av list) f_list), (12, .sc (.int .i64 (((List.map Act.av list).length : Nat) : Int))), (13, .sc (.int .i64 ((t13 : Nat) : Int)))]) (h' := [.box 43 [.arr .u64 12 (h2.set (x.Field.toNat) x.Value)], .row 59 (List.map Send.av out) 1000000 true, .box 53 [.sc (.int .i64 x.Kind), .sc (.int .i64 x.Port), .sc (.int .i64 x.Field), .sc (.int .u64 x.Value)]]) (by kernel_rfl) rfl ?_
          refine DK.done (by kernel_rfl) (by kernel_rfl) ?_
          refine AR.seg hG hm 3 [3, 4, 5, 11, 12, 13] (k' := [.loop [1, 1, 0, 1, 0], .blk 0, .code [1, 1, 1]]) (t' := [(3, .ptr 0 0 none), (4, .own 1 1000000), (5, .sc (.bool tell)), (11, .sl 53 (List.map Act.av list) f_list), (12, .sc (.int .i64 (((List.map Act.av list).length : Nat) : Int))), (13, .sc (.int .i64 (IntKind.i64.wrap (((t13 : Nat) : Int) + 1))))]) (h' := [.box 43 [.arr .u64 12 (h2.set (x.Field.toNat) x.Value)], .row 59 (List.map Send.av out) 1000000 true, .box 53 [.sc (.int .i64 x.Kind), .sc (.int .i64 x.Port), .sc (.int .i64 x.Field), .sc (.int .u64 x.Value)]]) (by kernel_rfl) ?_
          refine AR.keep [3, 4, 5, 11, 12, 13] (t' := [(3, .ptr 0 0 none), (4, .own 1 1000000), (5, .sc (.bool tell)), (11, .sl 53 (List.map Act.av list) f_list), (12, .sc (.int .i64 (((List.map Act.av list).length : Nat) : Int))), (13, .sc (.int .i64 (IntKind.i64.wrap (((t13 : Nat) : Int) + 1))))]) (by kernel_rfl) ?_
          refine AR.drop' 2 hc0 (t' := [(3, .ptr 0 0 none), (4, .own 1 1000000), (5, .sc (.bool tell)), (11, .sl 53 (List.map Act.av list) f_list), (12, .sc (.int .i64 (((List.map Act.av list).length : Nat) : Int))), (13, .sc (.int .i64 (IntKind.i64.wrap (((t13 : Nat) : Int) + 1))))]) (h' := [.box 43 [.arr .u64 12 (h2.set (x.Field.toNat) x.Value)], .row 59 (List.map Send.av out) 1000000 true]) (by kernel_rfl) ?_
          refine AR.loop_round ?_
          rw [hw]
          exact ih (t13 + 1) hd2 tell (h2.set (x.Field.toNat) x.Value) out H
        case hf19 =>
          replace H := cond_f hb H
          refine AR.seg hG hm 2 [3, 4, 5, 11, 12, 13, 35] (k' := [.code [1, 1, 0, 1, 0, 0, 1, 1, 0, 0, 1, 1, 0, 1, 1, 1, 1, 1], .blk 2, .blk 1, .code [1, 1, 0, 1, 0, 0, 1, 1, 1], .loop [1, 1, 0, 1, 0], .blk 0, .code [1, 1, 1]]) (t' := [(3, .ptr 0 0 none), (4, .own 1 1000000), (5, .sc (.bool tell)), (11, .sl 53 (List.map Act.av list) f_list), (12, .sc (.int .i64 (((List.map Act.av list).length : Nat) : Int))), (13, .sc (.int .i64 ((t13 : Nat) : Int))), (35, .sc (.bool (x.Kind == 3)))]) (h' := [.box 43 [.arr .u64 12 h2], .row 59 (List.map Send.av out) 1000000 true, .box 53 [.sc (.int .i64 x.Kind), .sc (.int .i64 x.Port), .sc (.int .i64 x.Field), .sc (.int .u64 x.Value)]]) (by kernel_rfl) ?_
          refine AR.join (.tmp 35) (x.Kind == 3) (k' := [.blk 2, .blk 1, .code [1, 1, 0, 1, 0, 0, 1, 1, 1], .loop [1, 1, 0, 1, 0], .blk 0, .code [1, 1, 1]]) (h' := [.box 43 [.arr .u64 12 h2], .row 59 (List.map Send.av out) 1000000 true, .box 53 [.sc (.int .i64 x.Kind), .sc (.int .i64 x.Port), .sc (.int .i64 x.Field), .sc (.int .u64 x.Value)]]) (by kernel_rfl) (by kernel_rfl) (fun z => [(3, .ptr 0 0 none), (4, .own 1 1000000), (5, .sc (.bool (z || tell))), (11, .sl 53 (List.map Act.av list) f_list), (12, .sc (.int .i64 (((List.map Act.av list).length : Nat) : Int))), (13, .sc (.int .i64 ((t13 : Nat) : Int)))]) ?J20 (fun hb J => ?ht20) (fun hb J => ?hf20)
          case ht20 =>
            exact AR.seg hG hm 1 [3, 4, 5, 11, 12, 13] (by kernel_rfl) J
          case hf20 =>
            exact AR.seg hG hm 1 [3, 4, 5, 11, 12, 13] (by kernel_rfl) J
          refine AR.seg hG hm 3 [3, 4, 5, 11, 12, 13] (k' := [.loop [1, 1, 0, 1, 0], .blk 0, .code [1, 1, 1]]) (t' := [(3, .ptr 0 0 none), (4, .own 1 1000000), (5, .sc (.bool ((x.Kind == 3) || tell))), (11, .sl 53 (List.map Act.av list) f_list), (12, .sc (.int .i64 (((List.map Act.av list).length : Nat) : Int))), (13, .sc (.int .i64 (IntKind.i64.wrap (((t13 : Nat) : Int) + 1))))]) (h' := [.box 43 [.arr .u64 12 h2], .row 59 (List.map Send.av out) 1000000 true, .box 53 [.sc (.int .i64 x.Kind), .sc (.int .i64 x.Port), .sc (.int .i64 x.Field), .sc (.int .u64 x.Value)]]) (by kernel_rfl) ?_
          refine AR.keep [3, 4, 5, 11, 12, 13] (t' := [(3, .ptr 0 0 none), (4, .own 1 1000000), (5, .sc (.bool ((x.Kind == 3) || tell))), (11, .sl 53 (List.map Act.av list) f_list), (12, .sc (.int .i64 (((List.map Act.av list).length : Nat) : Int))), (13, .sc (.int .i64 (IntKind.i64.wrap (((t13 : Nat) : Int) + 1))))]) (by kernel_rfl) ?_
          refine AR.drop' 2 hc0 (t' := [(3, .ptr 0 0 none), (4, .own 1 1000000), (5, .sc (.bool ((x.Kind == 3) || tell))), (11, .sl 53 (List.map Act.av list) f_list), (12, .sc (.int .i64 (((List.map Act.av list).length : Nat) : Int))), (13, .sc (.int .i64 (IntKind.i64.wrap (((t13 : Nat) : Int) + 1))))]) (h' := [.box 43 [.arr .u64 12 h2], .row 59 (List.map Send.av out) 1000000 true]) (by kernel_rfl) ?_
          refine AR.loop_round ?_
          rw [hw]
          exact ih (t13 + 1) hd2 ((x.Kind == 3) || tell) h2 out H
    case hf17 => exact absurd (hc.symm.trans hb) (by decide)

def act_Run_raw (list : List Act) (h1 : List Int) : Option ((List Send) × Bool) :=
  (bif (!(act_Sound list)) then
    some ([], false)
  else
    (act_Run_l0s list false h1 ([] : List Send)).bind fun v =>
    some (v.2.2, v.1))
theorem act_Run_walk (list : List Act) (h1 : List Int) (f_list : Bool) (r : (List Send) × Bool) (H : act_Run_raw list h1 = some r) :
    ACalls Try.prog tab.S 22 [.sl 53 (List.map Act.av list) f_list, .arr .u64 12 h1] [] (.tup [.sl 59 (List.map Send.av r.1) false, .sc (.bool r.2)]) [] := by
  have hG := tab_ok
  have hm := mixed
  refine ACalls.of_AR (G := tab) act_Run_F (fn := Try.f22) Try.func22 (by kernel_rfl) (by kernel_rfl) (by kernel_rfl) (Nat.le_of_ble_eq_true (by kernel_rfl)) ?_
  intro c0 hc0
  replace hc0 : c0.m.length = 0 := hc0
  rw [act_Run_raw] at H
  refine AR.seg hG hm 4 [0, 3, 4, 5] (k' := [.code [1, 0, 0], .code [1, 0, 1], .code [1, 1]]) (t' := [(0, .sl 53 (List.map Act.av list) f_list), (3, .ptr 0 0 none), (4, .sl 0 [] true), (5, .sc (.bool false))]) (h' := [.box 43 [.arr .u64 12 h1]]) (by kernel_rfl) ?_
  refine AR.reg hm act_Run_k0 (by kernel_rfl) ?_
  refine DK.seg hG 1 [0, 3, 4, 5, 8] (t' := [(0, .sl 53 (List.map Act.av list) f_list), (3, .ptr 0 0 none), (4, .sl 0 [] true), (5, .sc (.bool false)), (8, .sl 53 (List.map Act.av list) f_list)]) (h' := [.box 43 [.arr .u64 12 h1]]) (by kernel_rfl) rfl ?_
  refine DK.op' [0, 3, 4, 5, 9] (t' := [(0, .sl 53 (List.map Act.av list) f_list), (3, .ptr 0 0 none), (4, .sl 0 [] true), (5, .sc (.bool false)), (9, .sc (.bool (act_Sound list)))]) (h' := [.box 43 [.arr .u64 12 h1]]) (LSpec.callP' (act_Sound_calls list f_list) (by kernel_rfl)) (by kernel_rfl) rfl (by kernel_rfl) rfl ?_
  refine DK.seg hG 1 [0, 3, 4, 5, 10] (t' := [(0, .sl 53 (List.map Act.av list) f_list), (3, .ptr 0 0 none), (4, .sl 0 [] true), (5, .sc (.bool false)), (10, .sc (.bool (!(act_Sound list))))]) (h' := [.box 43 [.arr .u64 12 h1]]) (by kernel_rfl) rfl ?_
  refine DK.done (by kernel_rfl) (by kernel_rfl) ?_
  refine AR.cond (.tmp 10) (!(act_Sound list)) (by kernel_rfl) (by kernel_rfl) (fun hb => ?ht1) (fun hb => ?hf1)
  case ht1 =>
    replace H := cond_t hb H
    refine AR.seg hG hm 2 [4, 5] (k' := [.code [1, 0, 1, 0, 1], .code [1, 1]]) (t' := [(4, .sl 0 [] true), (5, .sc (.bool false))]) (h' := [.box 43 [.arr .u64 12 h1]]) (by kernel_rfl) ?_
    obtain rfl := Option.some.inj H
    exact AR.ret0 (fn := Try.f22) hG Try.func22 (by kernel_rfl) hc0 (r0 := .tup [.sl 0 [] true, .sc (.bool false)]) (by kernel_rfl) (WkV.tup (Wks.cons (WkV.sl (Wk1.nil 59 false)) trivial trivial (Wks.cons (WkV.refl _) trivial trivial Wks.nil)))
  case hf1 =>
    replace H := cond_f hb H
    refine AR.seg hG hm 5 [3, 4, 5, 11, 12, 13] (k' := [.code [1, 1, 0, 1, 0], .blk 0, .code [1, 1, 1]]) (t' := [(3, .ptr 0 0 none), (4, .sl 0 [] true), (5, .sc (.bool false)), (11, .sl 53 (List.map Act.av list) f_list), (12, .sc (.int .i64 (((List.map Act.av list).length : Nat) : Int))), (13, .sc (.int .i64 0))]) (h' := [.box 43 [.arr .u64 12 h1]]) (by kernel_rfl) ?_
    refine AR.adoptB' 4 59 (t' := [(4, .own 1 1000000), (3, .ptr 0 0 none), (5, .sc (.bool false)), (11, .sl 53 (List.map Act.av list) f_list), (12, .sc (.int .i64 (((List.map Act.av list).length : Nat) : Int))), (13, .sc (.int .i64 0))]) (h' := [.box 43 [.arr .u64 12 h1], .row 59 (List.map Send.av ([] : List Send)) 1000000 true]) (by kernel_rfl) ?_
    refine AR.keep [3, 4, 5, 11, 12, 13] (t' := [(3, .ptr 0 0 none), (4, .own 1 1000000), (5, .sc (.bool false)), (11, .sl 53 (List.map Act.av list) f_list), (12, .sc (.int .i64 (((List.map Act.av list).length : Nat) : Int))), (13, .sc (.int .i64 0))]) (by kernel_rfl) ?_
    obtain ⟨v, hv, H⟩ := Option.bind_eq_some_iff.1 H
    refine AR.into (by kernel_rfl) ?_
    refine act_Run_l0_walk list h1 f_list r c0 hc0 v ?_ list 0 rfl false h1 ([] : List Send) hv
    refine AR.seg hG hm 2 [4, 5] (k' := [.code [1, 1, 1, 1]]) (t' := [(4, .own 1 1000000), (5, .sc (.bool v.1))]) (h' := [.box 43 [.arr .u64 12 v.2.1], .row 59 (List.map Send.av v.2.2) 1000000 true]) (by kernel_rfl) ?_
    obtain rfl := Option.some.inj H
    exact AR.ret0 (fn := Try.f22) hG Try.func22 (by kernel_rfl) hc0 (r0 := .tup [.sl 59 (List.map Send.av v.2.2) false, .sc (.bool v.1)]) (by kernel_rfl) (WkV.refl _)

theorem setT_ok {h : List Int} {n v : Int} : ((setT_ h n v).2 == 0) = (head_there n && fitsH n v) := by
  unfold setT_
  cases head_there n
  · rfl
  · cases fitsH n v <;> rfl
theorem act_sound_eq {x : Act} (hv : 0 ≤ x.Value) : act_sound x = actOk x := by
  unfold act_sound actOk
  rw [setT_ok]
  unfold fitsH head_there
  rw [decide_eq_true hv, Bool.true_and]
  rw [Bool.eq_iff_iff]
  cases (x.Kind == 1)
  · cases (x.Kind == 2)
    · simp only [cond_false, Bool.and_eq_true]
      constructor
      · rintro ⟨a, b, c, d⟩; exact ⟨a, ⟨b, c⟩, d⟩
      · rintro ⟨a, ⟨b, c⟩, d⟩; exact ⟨a, b, c, d⟩
    · simp only [cond_false, cond_true, Bool.and_eq_true]
      constructor
      · rintro ⟨⟨⟨a, b⟩, c⟩, d⟩; exact ⟨⟨⟨d, a⟩, b⟩, c⟩
      · rintro ⟨⟨⟨d, a⟩, b⟩, c⟩; exact ⟨⟨⟨a, b⟩, c⟩, d⟩
  · rfl
theorem act_Sound_eq {l : List Act} (hv : ∀ x ∈ l, 0 ≤ x.Value) : act_Sound l = ActsOk l := by
  unfold act_Sound ActsOk
  rw [slices_ContainsFunc__api_Act_any, List.length_map]
  have e : (l.any act_Sound_1) = !(l.all actOk) := by
    rw [← Bool.not_not (l.any act_Sound_1), List.not_any_eq_all_not]
    congr 1
    rw [Bool.eq_iff_iff, List.all_eq_true, List.all_eq_true]
    constructor
    · intro h x hx
      have := h x hx
      unfold act_Sound_1 at this
      rw [act_sound_eq (hv x hx), Bool.not_not] at this
      exact this
    · intro h x hx
      unfold act_Sound_1
      rw [act_sound_eq (hv x hx), Bool.not_not]
      exact h x hx
  rw [e, Bool.not_not, Bool.and_comm]
  congr 1
  rw [Bool.eq_iff_iff, decide_eq_true_eq, decide_eq_true_eq]
  omega
/-- what runs of sound actions come to -/
def stepA_ (s : Bool × List Int × List Send) (x : Act) : Bool × List Int × List Send :=
  if x.Kind == 1 then (s.1, s.2.1, s.2.2 ++ [⟨x.Port, s.2.1⟩]) else if x.Kind == 2 then (s.1, s.2.1.set x.Field.toNat x.Value, s.2.2) else (s.1 || (x.Kind == 3), s.2.1, s.2.2)
def runF (l : List Act) (h : List Int) : Bool × List Int × List Send := l.foldl stepA_ (false, h, [])
def runA (l : List Act) (h : List Int) : List Send × Bool := if act_Sound l then ((runF l h).2.2, (runF l h).1) else ([], false)
theorem sound_field {x : Act} (h : act_sound x = true) (hk : (x.Kind == 2) = true) : (decide (0 ≤ x.Field) && decide (x.Field < ((12 : Nat) : Int))) = true := by
  unfold act_sound at h
  rw [setT_ok] at h
  have h1 : (x.Kind == 1) = false := by
    rw [beq_iff_eq] at hk
    rw [hk]; rfl
  rw [h1, hk] at h
  simp only [cond_false, cond_true, Bool.and_eq_true] at h
  have := h.1.1
  unfold head_there at this
  exact this
theorem act_Run_l0s_eq : ∀ (l : List Act) (tell : Bool) (h : List Int) (out : List Send), (∀ x ∈ l, act_sound x = true) → (out.length + l.length) * 104 ≤ 140737488355328 → act_Run_l0s l tell h out = some (l.foldl stepA_ (tell, h, out))
  | [], tell, h, out, _, _ => rfl
  | x :: l, tell, h, out, hs, hl => by
      have h0 := hs x (by simp)
      have hs' : ∀ y ∈ l, act_sound y = true := fun y hy => hs y (by simp [hy])
      rw [List.length_cons] at hl
      rw [act_Run_l0s, List.foldl_cons]
      unfold stepA_
      cases h1 : (x.Kind == 1)
      · cases h2 : (x.Kind == 2)
        · simp only [cond_false, Bool.false_eq_true, if_false]
          rw [act_Run_l0s_eq l _ _ _ hs' (by omega), Bool.or_comm]
          rfl
        · simp only [cond_false, cond_true, Bool.false_eq_true, if_false, if_true]
          rw [reqO_eq (sound_field h0 h2), act_Run_l0s_eq l _ _ _ hs' (by omega)]
          rfl
      · simp only [cond_true, if_true]
        rw [fitO_eq (by simp only [List.length_singleton]; omega), act_Run_l0s_eq l _ _ _ hs' (by rw [List.length_append, List.length_singleton]; omega)]
        rfl
theorem act_Sound_all {l : List Act} (h : act_Sound l = true) : (∀ x ∈ l, act_sound x = true) ∧ l.length ≤ 8 := by
  unfold act_Sound at h
  rw [slices_ContainsFunc__api_Act_any, Bool.and_eq_true, decide_eq_true_eq, List.length_map, Bool.not_eq_true', List.any_eq_false] at h
  refine ⟨fun x hx => ?_, by omega⟩
  have := h.2 x hx
  unfold act_Sound_1 at this
  simpa using this
theorem act_Run_ok (l : List Act) (h : List Int) (f_l : Bool) : ACalls Try.prog tab.S 22 [.sl 53 (List.map Act.av l) f_l, .arr .u64 12 h] [] (.tup [.sl 59 (List.map Send.av (runA l h).1) false, .sc (.bool (runA l h).2)]) [] := by
  refine act_Run_walk l h f_l (runA l h) ?_
  rw [act_Run_raw]
  unfold runA
  cases hs : act_Sound l
  · rfl
  · obtain ⟨h1, h2⟩ := act_Sound_all hs
    rw [act_Run_l0s_eq l false h [] h1 (by simp only [List.length_nil]; omega)]
    rfl

/-! ### podestaref04.Run: function 23 -/
noncomputable def podestaref04_Run_F : Go.Sh.Fn := ⟨23, bodyOf Try.f23, 62⟩
def podestaref04_Run_k5 : List Kd := [.pure, .pure, .pure, .pure, .pure, .pure, .pure, .pure, .pure, .pure]
def podestaref04_Run_k4 : List Kd := [.pure, .pure, .pure, .pure, .pure, .pure, .pure, .pure, .pure, .pure, .pure, .loud]
def podestaref04_Run_k6 : List Kd := [.pure, .pure, .pure, .pure, .pure, .pure, .pure, .pure, .pure, .pure]
def podestaref04_Run_k3 : List Kd := [.pure, .pure, .pure, .pure, .pure, .pure]
def podestaref04_Run_k2 : List Kd := [.pure, .pure, .pure, .pure, .pure, .pure, .read, .pure, .pure, .loud, .pure]
def podestaref04_Run_k9 : List Kd := [.pure, .pure, .pure, .pure, .pure, .pure, .pure, .pure, .pure, .pure]
def podestaref04_Run_k8 : List Kd := [.pure, .pure, .pure, .pure, .pure, .pure, .pure, .pure, .pure, .pure, .pure, .loud]
def podestaref04_Run_k10 : List Kd := [.pure, .pure, .pure, .pure, .pure, .pure, .pure, .pure, .pure, .pure]
def podestaref04_Run_k7 : List Kd := [.pure, .pure, .pure, .pure, .pure, .pure]
def podestaref04_Run_k1 : List Kd := [.pure, .pure, .pure, .pure, .pure, .pure]
def podestaref04_Run_k0 : List Kd := [.pure, .pure, .pure]
def podestaref04_Run_l0s : List Act → Bool → List Int → List Send → Option (Bool × (List Int) × (List Send))
  | [], tell, h2, out =>
    some (tell, h2, out)
  | x :: rest, tell, h2, out =>
    (bif (x.Kind == 1) then
      fitO (out.length + [({ Port := x.Port, Head := h2 } : Send)].length) 104 (
      (bif (x.Kind == 2) then
        reqO (decide (0 ≤ x.Field) && decide (x.Field < ((12 : Nat) : Int))) (
        podestaref04_Run_l0s rest (tell || (x.Kind == 3)) (h2.set (x.Field.toNat) x.Value) (out ++ [({ Port := x.Port, Head := h2 } : Send)]))
      else
        podestaref04_Run_l0s rest (tell || (x.Kind == 3)) h2 (out ++ [({ Port := x.Port, Head := h2 } : Send)])))
    else
      (bif (x.Kind == 2) then
        reqO (decide (0 ≤ x.Field) && decide (x.Field < ((12 : Nat) : Int))) (
        podestaref04_Run_l0s rest (tell || (x.Kind == 3)) (h2.set (x.Field.toNat) x.Value) out)
      else
        podestaref04_Run_l0s rest (tell || (x.Kind == 3)) h2 out))
theorem podestaref04_Run_l0_walk (l : List Act) (h1 : List Int) (f_l : Bool) (r : (List Send) × Bool) (c0 : Ctx) (hc0 : c0.m.length = 0) (res : Bool × (List Int) × (List Send)) (J : AR Try.prog tab podestaref04_Run_F c0 (Rp tab.S c0 (.tup [.sl 59 (List.map Send.av r.1) false, .sc (.bool r.2)]) []) [.code [1, 1, 1, 1, 1]] [(6, .own 1 1000000), (7, .sc (.bool res.1))] [.box 43 [.arr .u64 12 res.2.1], .row 59 (List.map Send.av res.2.2) 1000000 true]) :
    ∀ (rest : List Act) (i : Nat) (hd : l.drop i = rest) (tell : Bool) (h2 : List Int) (out : List Send) (H : podestaref04_Run_l0s rest tell h2 out = some res), AR Try.prog tab podestaref04_Run_F c0 (Rp tab.S c0 (.tup [.sl 59 (List.map Send.av r.1) false, .sc (.bool r.2)]) []) [.code [1, 1, 1, 1, 0, 1, 0, 0], .loop [1, 1, 1, 1, 0, 1, 0], .blk 0, .code [1, 1, 1, 1, 1]] [(0, .sl 53 (List.map Act.av l) f_l), (3, .ptr 0 0 none), (6, .own 1 1000000), (7, .sc (.bool tell)), (8, .sc (.int .i64 ((i : Nat) : Int)))] [.box 43 [.arr .u64 12 h2], .row 59 (List.map Send.av out) 1000000 true] := by
  have hG := tab_ok
  have hm := mixed
  intro rest
  induction rest with
  | nil =>
    intro i hd tell h2 out H
    rw [podestaref04_Run_l0s] at H
    refine AR.facts 0 rfl fun hf => ?_
    have hlen : l.length ≤ 9223372036854775807 := by have hq := len_ok hf.2.1; rw [List.length_map] at hq; exact hq
    have hge : l.length ≤ i := List.drop_eq_nil_iff.1 hd
    have hc : (decide (((i : Nat) : Int) < (((List.map Act.av l).length : Nat) : Int))) = false := by rw [List.length_map]; exact decide_eq_false (by omega)
    refine AR.seg hG hm 3 [0, 3, 6, 7, 8, 15] (k' := [.code [1, 1, 1, 1, 0, 1, 0, 0, 0, 1], .code [1, 1, 1, 1, 0, 1, 0, 0, 1], .loop [1, 1, 1, 1, 0, 1, 0], .blk 0, .code [1, 1, 1, 1, 1]]) (t' := [(0, .sl 53 (List.map Act.av l) f_l), (3, .ptr 0 0 none), (6, .own 1 1000000), (7, .sc (.bool tell)), (8, .sc (.int .i64 ((i : Nat) : Int))), (15, .sc (.bool (decide (((i : Nat) : Int) < (((List.map Act.av l).length : Nat) : Int)))))]) (h' := [.box 43 [.arr .u64 12 h2], .row 59 (List.map Send.av out) 1000000 true]) (by kernel_rfl) ?_
    refine AR.cond (.tmp 15) (decide (((i : Nat) : Int) < (((List.map Act.av l).length : Nat) : Int))) (by kernel_rfl) (by kernel_rfl) (fun hb => ?ht28) (fun hb => ?hf28)
    case ht28 => exact absurd (hb.symm.trans hc) (by decide)
    case hf28 =>
      refine AR.seg hG hm 1 [6, 7] (k' := [.code [1, 1, 1, 1, 1]]) (t' := [(6, .own 1 1000000), (7, .sc (.bool tell))]) (h' := [.box 43 [.arr .u64 12 h2], .row 59 (List.map Send.av out) 1000000 true]) (by kernel_rfl) ?_
      refine AR.keep [6, 7] (t' := [(6, .own 1 1000000), (7, .sc (.bool tell))]) (by kernel_rfl) ?_
      obtain rfl := Option.some.inj H
      exact J
  | cons x rest ih =>
    intro i hd tell h2 out H
    rw [podestaref04_Run_l0s] at H
    refine AR.facts 0 rfl fun hf => ?_
    have hlen : l.length ≤ 9223372036854775807 := by have hq := len_ok hf.2.1; rw [List.length_map] at hq; exact hq
    obtain ⟨hlt, hv_i, hd2⟩ := drop_cons hd
    have hc : (decide (((i : Nat) : Int) < (((List.map Act.av l).length : Nat) : Int))) = true := by rw [List.length_map]; exact decide_eq_true (by omega)
    have hw : IntKind.i64.wrap (((i : Nat) : Int) + 1) = ((i + 1 : Nat) : Int) := wrapI_succ (by omega)
    refine AR.seg hG hm 3 [0, 3, 6, 7, 8, 15] (k' := [.code [1, 1, 1, 1, 0, 1, 0, 0, 0, 1], .code [1, 1, 1, 1, 0, 1, 0, 0, 1], .loop [1, 1, 1, 1, 0, 1, 0], .blk 0, .code [1, 1, 1, 1, 1]]) (t' := [(0, .sl 53 (List.map Act.av l) f_l), (3, .ptr 0 0 none), (6, .own 1 1000000), (7, .sc (.bool tell)), (8, .sc (.int .i64 ((i : Nat) : Int))), (15, .sc (.bool (decide (((i : Nat) : Int) < (((List.map Act.av l).length : Nat) : Int)))))]) (h' := [.box 43 [.arr .u64 12 h2], .row 59 (List.map Send.av out) 1000000 true]) (by kernel_rfl) ?_
    refine AR.cond (.tmp 15) (decide (((i : Nat) : Int) < (((List.map Act.av l).length : Nat) : Int))) (by kernel_rfl) (by kernel_rfl) (fun hb => ?ht29) (fun hb => ?hf29)
    case ht29 =>
      refine AR.seg hG hm 5 [0, 3, 6, 7, 8] (k' := [.code [1, 1, 1, 1, 0, 1, 0, 0, 1, 0, 0, 0, 0], .code [1, 1, 1, 1, 0, 1, 0, 0, 1, 0, 0, 0, 1], .code [1, 1, 1, 1, 0, 1, 0, 0, 1, 0, 0, 1], .blk 1, .code [1, 1, 1, 1, 0, 1, 0, 0, 1, 1], .loop [1, 1, 1, 1, 0, 1, 0], .blk 0, .code [1, 1, 1, 1, 1]]) (t' := [(0, .sl 53 (List.map Act.av l) f_l), (3, .ptr 0 0 none), (6, .own 1 1000000), (7, .sc (.bool tell)), (8, .sc (.int .i64 ((i : Nat) : Int)))]) (h' := [.box 43 [.arr .u64 12 h2], .row 59 (List.map Send.av out) 1000000 true]) (by kernel_rfl) ?_
      refine AR.reg hm podestaref04_Run_k1 (by kernel_rfl) ?_
      refine DK.seg hG 2 [0, 3, 6, 7, 8, 18, 19] (t' := [(0, .sl 53 (List.map Act.av l) f_l), (3, .ptr 0 0 none), (6, .own 1 1000000), (7, .sc (.bool tell)), (8, .sc (.int .i64 ((i : Nat) : Int))), (18, .sl 53 (List.map Act.av l) f_l), (19, .sc (.int .i64 ((i : Nat) : Int)))]) (h' := [.box 43 [.arr .u64 12 h2], .row 59 (List.map Send.av out) 1000000 true]) (by kernel_rfl) rfl ?_
      refine DK.op' [0, 3, 6, 7, 8, 20] (t' := [(0, .sl 53 (List.map Act.av l) f_l), (3, .ptr 0 0 none), (6, .own 1 1000000), (7, .sc (.bool tell)), (8, .sc (.int .i64 ((i : Nat) : Int))), (20, .ep [.sc (.int .i64 x.Kind), .sc (.int .i64 x.Port), .sc (.int .i64 x.Field), .sc (.int .u64 x.Value)] 0 none)]) (h' := [.box 43 [.arr .u64 12 h2], .row 59 (List.map Send.av out) 1000000 true]) (LSpec.index' (r := Act.av x) (fs := [.sc (.int .i64 x.Kind), .sc (.int .i64 x.Port), .sc (.int .i64 x.Field), .sc (.int .u64 x.Value)]) hG (rows := List.map Act.av l) (j := ((i : Nat) : Int)) (by kernel_rfl) (ixO_map hv_i _) (by kernel_rfl)) (by kernel_rfl) rfl (by kernel_rfl) rfl ?_
      refine DK.seg hG 3 [0, 3, 6, 7, 8, 23] (t' := [(0, .sl 53 (List.map Act.av l) f_l), (3, .ptr 0 0 none), (6, .own 1 1000000), (7, .sc (.bool tell)), (8, .sc (.int .i64 ((i : Nat) : Int))), (23, .sc (.bool (x.Kind == 1)))]) (h' := [.box 43 [.arr .u64 12 h2], .row 59 (List.map Send.av out) 1000000 true]) (by kernel_rfl) rfl ?_
      refine DK.done (by kernel_rfl) (by kernel_rfl) ?_
      refine AR.cond (.tmp 23) (x.Kind == 1) (by kernel_rfl) (by kernel_rfl) (fun hb => ?ht30) (fun hb => ?hf30)
      case ht30 =>
        replace H := cond_t hb H
        refine AR.reg hm podestaref04_Run_k2 (by kernel_rfl) ?_
        refine DK.seg hG 3 [0, 3, 7, 8, 24, 25, 26] (t' := [(0, .sl 53 (List.map Act.av l) f_l), (3, .ptr 0 0 none), (7, .sc (.bool tell)), (8, .sc (.int .i64 ((i : Nat) : Int))), (24, .own 1 1000000), (25, .sl 53 (List.map Act.av l) f_l), (26, .sc (.int .i64 ((i : Nat) : Int)))]) (h' := [.box 43 [.arr .u64 12 h2], .row 59 (List.map Send.av out) 1000000 true]) (by kernel_rfl) rfl ?_
        refine DK.op' [0, 3, 7, 8, 24, 27] (t' := [(0, .sl 53 (List.map Act.av l) f_l), (3, .ptr 0 0 none), (7, .sc (.bool tell)), (8, .sc (.int .i64 ((i : Nat) : Int))), (24, .own 1 1000000), (27, .ep [.sc (.int .i64 x.Kind), .sc (.int .i64 x.Port), .sc (.int .i64 x.Field), .sc (.int .u64 x.Value)] 0 none)]) (h' := [.box 43 [.arr .u64 12 h2], .row 59 (List.map Send.av out) 1000000 true]) (LSpec.index' (r := Act.av x) (fs := [.sc (.int .i64 x.Kind), .sc (.int .i64 x.Port), .sc (.int .i64 x.Field), .sc (.int .u64 x.Value)]) hG (rows := List.map Act.av l) (j := ((i : Nat) : Int)) (by kernel_rfl) (ixO_map hv_i _) (by kernel_rfl)) (by kernel_rfl) rfl (by kernel_rfl) rfl ?_
        refine DK.seg hG 5 [0, 3, 7, 8, 24, 32] (t' := [(0, .sl 53 (List.map Act.av l) f_l), (3, .ptr 0 0 none), (7, .sc (.bool tell)), (8, .sc (.int .i64 ((i : Nat) : Int))), (24, .own 1 1000000), (32, .sl 59 (List.map Send.av [({ Port := x.Port, Head := h2 } : Send)]) true)]) (h' := [.box 43 [.arr .u64 12 h2], .row 59 (List.map Send.av out) 1000000 true]) (by kernel_rfl) rfl ?_
        obtain ⟨hfit, H⟩ := fitO_some H
        refine DK.op' [0, 3, 7, 8, 33] (t' := [(0, .sl 53 (List.map Act.av l) f_l), (3, .ptr 0 0 none), (7, .sc (.bool tell)), (8, .sc (.int .i64 ((i : Nat) : Int))), (33, .own 1 1000001)]) (h' := [.box 43 [.arr .u64 12 h2], .row 59 (List.map Send.av (out ++ [({ Port := x.Port, Head := h2 } : Send)])) 1000001 true]) (LSpec.append' hG Send.av out [({ Port := x.Port, Head := h2 } : Send)] 1 1000000 59 104 hfit (by kernel_rfl)) (by kernel_rfl) (by kernel_rfl) (by kernel_rfl) rfl ?_
        refine DK.seg hG 1 [0, 3, 6, 7, 8] (t' := [(0, .sl 53 (List.map Act.av l) f_l), (3, .ptr 0 0 none), (6, .own 1 1000001), (7, .sc (.bool tell)), (8, .sc (.int .i64 ((i : Nat) : Int)))]) (h' := [.box 43 [.arr .u64 12 h2], .row 59 (List.map Send.av (out ++ [({ Port := x.Port, Head := h2 } : Send)])) 1000001 true]) (by kernel_rfl) rfl ?_
        refine DK.done (by kernel_rfl) (by kernel_rfl) ?_
        refine AR.seg hG hm 2 [0, 3, 6, 7, 8] (k' := [.code [1, 1, 1, 1, 0, 1, 0, 0, 1, 0, 0, 1, 0, 0], .code [1, 1, 1, 1, 0, 1, 0, 0, 1, 0, 0, 1, 0, 1], .code [1, 1, 1, 1, 0, 1, 0, 0, 1, 0, 0, 1, 1], .blk 1, .code [1, 1, 1, 1, 0, 1, 0, 0, 1, 1], .loop [1, 1, 1, 1, 0, 1, 0], .blk 0, .code [1, 1, 1, 1, 1]]) (t' := [(0, .sl 53 (List.map Act.av l) f_l), (3, .ptr 0 0 none), (6, .own 1 1000001), (7, .sc (.bool tell)), (8, .sc (.int .i64 ((i : Nat) : Int)))]) (h' := [.box 43 [.arr .u64 12 h2], .row 59 (List.map Send.av (out ++ [({ Port := x.Port, Head := h2 } : Send)])) 1000001 true]) (by kernel_rfl) ?_
        refine AR.reg hm podestaref04_Run_k3 (by kernel_rfl) ?_
        refine DK.seg hG 2 [0, 3, 6, 7, 8, 34, 35] (t' := [(0, .sl 53 (List.map Act.av l) f_l), (3, .ptr 0 0 none), (6, .own 1 1000001), (7, .sc (.bool tell)), (8, .sc (.int .i64 ((i : Nat) : Int))), (34, .sl 53 (List.map Act.av l) f_l), (35, .sc (.int .i64 ((i : Nat) : Int)))]) (h' := [.box 43 [.arr .u64 12 h2], .row 59 (List.map Send.av (out ++ [({ Port := x.Port, Head := h2 } : Send)])) 1000001 true]) (by kernel_rfl) rfl ?_
        refine DK.op' [0, 3, 6, 7, 8, 36] (t' := [(0, .sl 53 (List.map Act.av l) f_l), (3, .ptr 0 0 none), (6, .own 1 1000001), (7, .sc (.bool tell)), (8, .sc (.int .i64 ((i : Nat) : Int))), (36, .ep [.sc (.int .i64 x.Kind), .sc (.int .i64 x.Port), .sc (.int .i64 x.Field), .sc (.int .u64 x.Value)] 0 none)]) (h' := [.box 43 [.arr .u64 12 h2], .row 59 (List.map Send.av (out ++ [({ Port := x.Port, Head := h2 } : Send)])) 1000001 true]) (LSpec.index' (r := Act.av x) (fs := [.sc (.int .i64 x.Kind), .sc (.int .i64 x.Port), .sc (.int .i64 x.Field), .sc (.int .u64 x.Value)]) hG (rows := List.map Act.av l) (j := ((i : Nat) : Int)) (by kernel_rfl) (ixO_map hv_i _) (by kernel_rfl)) (by kernel_rfl) rfl (by kernel_rfl) rfl ?_
        refine DK.seg hG 3 [0, 3, 6, 7, 8, 39] (t' := [(0, .sl 53 (List.map Act.av l) f_l), (3, .ptr 0 0 none), (6, .own 1 1000001), (7, .sc (.bool tell)), (8, .sc (.int .i64 ((i : Nat) : Int))), (39, .sc (.bool (x.Kind == 2)))]) (h' := [.box 43 [.arr .u64 12 h2], .row 59 (List.map Send.av (out ++ [({ Port := x.Port, Head := h2 } : Send)])) 1000001 true]) (by kernel_rfl) rfl ?_
        refine DK.done (by kernel_rfl) (by kernel_rfl) ?_
        refine AR.cond (.tmp 39) (x.Kind == 2) (by kernel_rfl) (by kernel_rfl) (fun hb => ?ht31) (fun hb => ?hf31)
        case ht31 =>
          replace H := cond_t hb H
          refine AR.reg hm podestaref04_Run_k4 (by kernel_rfl) ?_
          refine DK.seg hG 2 [0, 3, 6, 7, 8, 40, 41] (t' := [(0, .sl 53 (List.map Act.av l) f_l), (3, .ptr 0 0 none), (6, .own 1 1000001), (7, .sc (.bool tell)), (8, .sc (.int .i64 ((i : Nat) : Int))), (40, .sl 53 (List.map Act.av l) f_l), (41, .sc (.int .i64 ((i : Nat) : Int)))]) (h' := [.box 43 [.arr .u64 12 h2], .row 59 (List.map Send.av (out ++ [({ Port := x.Port, Head := h2 } : Send)])) 1000001 true]) (by kernel_rfl) rfl ?_
          refine DK.op' [0, 3, 6, 7, 8, 42] (t' := [(0, .sl 53 (List.map Act.av l) f_l), (3, .ptr 0 0 none), (6, .own 1 1000001), (7, .sc (.bool tell)), (8, .sc (.int .i64 ((i : Nat) : Int))), (42, .ep [.sc (.int .i64 x.Kind), .sc (.int .i64 x.Port), .sc (.int .i64 x.Field), .sc (.int .u64 x.Value)] 0 none)]) (h' := [.box 43 [.arr .u64 12 h2], .row 59 (List.map Send.av (out ++ [({ Port := x.Port, Head := h2 } : Send)])) 1000001 true]) (LSpec.index' (r := Act.av x) (fs := [.sc (.int .i64 x.Kind), .sc (.int .i64 x.Port), .sc (.int .i64 x.Field), .sc (.int .u64 x.Value)]) hG (rows := List.map Act.av l) (j := ((i : Nat) : Int)) (by kernel_rfl) (ixO_map hv_i _) (by kernel_rfl)) (by kernel_rfl) rfl (by kernel_rfl) rfl ?_
          refine DK.seg hG 4 [0, 3, 6, 7, 8, 44, 45, 46] (t' := [(0, .sl 53 (List.map Act.av l) f_l), (3, .ptr 0 0 none), (6, .own 1 1000001), (7, .sc (.bool tell)), (8, .sc (.int .i64 ((i : Nat) : Int))), (44, .sc (.int .i64 x.Field)), (45, .sl 53 (List.map Act.av l) f_l), (46, .sc (.int .i64 ((i : Nat) : Int)))]) (h' := [.box 43 [.arr .u64 12 h2], .row 59 (List.map Send.av (out ++ [({ Port := x.Port, Head := h2 } : Send)])) 1000001 true]) (by kernel_rfl) rfl ?_
          refine DK.op' [0, 3, 6, 7, 8, 44, 47] (t' := [(0, .sl 53 (List.map Act.av l) f_l), (3, .ptr 0 0 none), (6, .own 1 1000001), (7, .sc (.bool tell)), (8, .sc (.int .i64 ((i : Nat) : Int))), (44, .sc (.int .i64 x.Field)), (47, .ep [.sc (.int .i64 x.Kind), .sc (.int .i64 x.Port), .sc (.int .i64 x.Field), .sc (.int .u64 x.Value)] 0 none)]) (h' := [.box 43 [.arr .u64 12 h2], .row 59 (List.map Send.av (out ++ [({ Port := x.Port, Head := h2 } : Send)])) 1000001 true]) (LSpec.index' (r := Act.av x) (fs := [.sc (.int .i64 x.Kind), .sc (.int .i64 x.Port), .sc (.int .i64 x.Field), .sc (.int .u64 x.Value)]) hG (rows := List.map Act.av l) (j := ((i : Nat) : Int)) (by kernel_rfl) (ixO_map hv_i _) (by kernel_rfl)) (by kernel_rfl) rfl (by kernel_rfl) rfl ?_
          refine DK.seg hG 2 [0, 3, 6, 7, 8, 44, 49] (t' := [(0, .sl 53 (List.map Act.av l) f_l), (3, .ptr 0 0 none), (6, .own 1 1000001), (7, .sc (.bool tell)), (8, .sc (.int .i64 ((i : Nat) : Int))), (44, .sc (.int .i64 x.Field)), (49, .sc (.int .u64 x.Value))]) (h' := [.box 43 [.arr .u64 12 h2], .row 59 (List.map Send.av (out ++ [({ Port := x.Port, Head := h2 } : Send)])) 1000001 true]) (by kernel_rfl) rfl ?_
          obtain ⟨hreq, H⟩ := reqO_some H
          refine DK.op' [0, 3, 6, 7, 8, 49, 50] (t' := [(0, .sl 53 (List.map Act.av l) f_l), (3, .ptr 0 0 none), (6, .own 1 1000001), (7, .sc (.bool tell)), (8, .sc (.int .i64 ((i : Nat) : Int))), (49, .sc (.int .u64 x.Value)), (50, .ptr 0 0 (some (x.Field.toNat, 12)))]) (h' := [.box 43 [.arr .u64 12 h2], .row 59 (List.map Send.av (out ++ [({ Port := x.Port, Head := h2 } : Send)])) 1000001 true]) (LSpec.idxPtr (o := 0) (off := 0) (m := 12) (j := x.Field) hG hreq (by kernel_rfl)) (by kernel_rfl) rfl (by kernel_rfl) rfl ?_
          refine DK.seg hG 1 [0, 3, 6, 7, 8] (t' := [(0, .sl 53 (List.map Act.av l) f_l), (3, .ptr 0 0 none), (6, .own 1 1000001), (7, .sc (.bool tell)), (8, .sc (.int .i64 ((i : Nat) : Int)))]) (h' := [.box 43 [.arr .u64 12 (h2.set (x.Field.toNat) x.Value)], .row 59 (List.map Send.av (out ++ [({ Port := x.Port, Head := h2 } : Send)])) 1000001 true]) (by kernel_rfl) rfl ?_
          refine DK.done (by kernel_rfl) (by kernel_rfl) ?_
          refine AR.reg hm podestaref04_Run_k5 (by kernel_rfl) ?_
          refine DK.seg hG 2 [0, 3, 6, 8, 52] (t' := [(0, .sl 53 (List.map Act.av l) f_l), (3, .ptr 0 0 none), (6, .own 1 1000001), (8, .sc (.int .i64 ((i : Nat) : Int))), (52, .sc (.bool tell))]) (h' := [.box 43 [.arr .u64 12 (h2.set (x.Field.toNat) x.Value)], .row 59 (List.map Send.av (out ++ [({ Port := x.Port, Head := h2 } : Send)])) 1000001 true]) (by kernel_rfl) rfl ?_
          refine DK.mux 52 tell (j := 9) (h' := [.box 43 [.arr .u64 12 (h2.set (x.Field.toNat) x.Value)], .row 59 (List.map Send.av (out ++ [({ Port := x.Port, Head := h2 } : Send)])) 1000001 true]) (by kernel_rfl) (fun z => [(0, .sl 53 (List.map Act.av l) f_l), (3, .ptr 0 0 none), (6, .own 1 1000001), (8, .sc (.int .i64 ((i : Nat) : Int))), (59, .sc (.bool (z || (x.Kind == 3))))]) ?J32 (fun hb J => ?ht32) (fun hb J => ?hf32)
          case ht32 =>
            exact DK.seg hG 7 [0, 3, 6, 8, 59] (by kernel_rfl) rfl J
          case hf32 =>
            refine DK.seg hG 2 [0, 3, 6, 8, 52, 53, 54] (t' := [(0, .sl 53 (List.map Act.av l) f_l), (3, .ptr 0 0 none), (6, .own 1 1000001), (8, .sc (.int .i64 ((i : Nat) : Int))), (52, .sc (.bool false)), (53, .sl 53 (List.map Act.av l) f_l), (54, .sc (.int .i64 ((i : Nat) : Int)))]) (h' := [.box 43 [.arr .u64 12 (h2.set (x.Field.toNat) x.Value)], .row 59 (List.map Send.av (out ++ [({ Port := x.Port, Head := h2 } : Send)])) 1000001 true]) (by kernel_rfl) rfl ?_
            refine DK.op' [0, 3, 6, 8, 52, 55] (t' := [(0, .sl 53 (List.map Act.av l) f_l), (3, .ptr 0 0 none), (6, .own 1 1000001), (8, .sc (.int .i64 ((i : Nat) : Int))), (52, .sc (.bool false)), (55, .ep [.sc (.int .i64 x.Kind), .sc (.int .i64 x.Port), .sc (.int .i64 x.Field), .sc (.int .u64 x.Value)] 0 none)]) (h' := [.box 43 [.arr .u64 12 (h2.set (x.Field.toNat) x.Value)], .row 59 (List.map Send.av (out ++ [({ Port := x.Port, Head := h2 } : Send)])) 1000001 true]) (LSpec.index' (r := Act.av x) (fs := [.sc (.int .i64 x.Kind), .sc (.int .i64 x.Port), .sc (.int .i64 x.Field), .sc (.int .u64 x.Value)]) hG (rows := List.map Act.av l) (j := ((i : Nat) : Int)) (by kernel_rfl) (ixO_map hv_i _) (by kernel_rfl)) (by kernel_rfl) rfl (by kernel_rfl) rfl ?_
            exact DK.seg hG 4 [0, 3, 6, 8, 59] (by kernel_rfl) rfl J
          refine DK.seg hG 1 [0, 3, 6, 7, 8] (t' := [(0, .sl 53 (List.map Act.av l) f_l), (3, .ptr 0 0 none), (6, .own 1 1000001), (7, .sc (.bool (tell || (x.Kind == 3)))), (8, .sc (.int .i64 ((i : Nat) : Int)))]) (h' := [.box 43 [.arr .u64 12 (h2.set (x.Field.toNat) x.Value)], .row 59 (List.map Send.av (out ++ [({ Port := x.Port, Head := h2 } : Send)])) 1000001 true]) (by kernel_rfl) rfl ?_
          refine DK.done (by kernel_rfl) (by kernel_rfl) ?_
          refine AR.seg hG hm 2 [0, 3, 6, 7, 8] (k' := [.loop [1, 1, 1, 1, 0, 1, 0], .blk 0, .code [1, 1, 1, 1, 1]]) (t' := [(0, .sl 53 (List.map Act.av l) f_l), (3, .ptr 0 0 none), (6, .own 1 1000001), (7, .sc (.bool (tell || (x.Kind == 3)))), (8, .sc (.int .i64 (IntKind.i64.wrap (((i : Nat) : Int) + 1))))]) (h' := [.box 43 [.arr .u64 12 (h2.set (x.Field.toNat) x.Value)], .row 59 (List.map Send.av (out ++ [({ Port := x.Port, Head := h2 } : Send)])) 1000001 true]) (by kernel_rfl) ?_
          refine AR.keep [0, 3, 6, 7, 8] (t' := [(0, .sl 53 (List.map Act.av l) f_l), (3, .ptr 0 0 none), (6, .own 1 1000001), (7, .sc (.bool (tell || (x.Kind == 3)))), (8, .sc (.int .i64 (IntKind.i64.wrap (((i : Nat) : Int) + 1))))]) (by kernel_rfl) ?_
          refine AR.norm' 1 1000000 hc0 (t' := [(0, .sl 53 (List.map Act.av l) f_l), (3, .ptr 0 0 none), (6, .own 1 1000000), (7, .sc (.bool (tell || (x.Kind == 3)))), (8, .sc (.int .i64 (IntKind.i64.wrap (((i : Nat) : Int) + 1))))]) (h' := [.box 43 [.arr .u64 12 (h2.set (x.Field.toNat) x.Value)], .row 59 (List.map Send.av (out ++ [({ Port := x.Port, Head := h2 } : Send)])) 1000000 true]) (by kernel_rfl) ?_
          refine AR.loop_round ?_
          rw [hw]
          exact ih (i + 1) hd2 (tell || (x.Kind == 3)) (h2.set (x.Field.toNat) x.Value) (out ++ [({ Port := x.Port, Head := h2 } : Send)]) H
        case hf31 =>
          replace H := cond_f hb H
          refine AR.seg hG hm 1 [0, 3, 6, 7, 8] (k' := [.code [1, 1, 1, 1, 0, 1, 0, 0, 1, 0, 0, 1, 1], .blk 1, .code [1, 1, 1, 1, 0, 1, 0, 0, 1, 1], .loop [1, 1, 1, 1, 0, 1, 0], .blk 0, .code [1, 1, 1, 1, 1]]) (t' := [(0, .sl 53 (List.map Act.av l) f_l), (3, .ptr 0 0 none), (6, .own 1 1000001), (7, .sc (.bool tell)), (8, .sc (.int .i64 ((i : Nat) : Int)))]) (h' := [.box 43 [.arr .u64 12 h2], .row 59 (List.map Send.av (out ++ [({ Port := x.Port, Head := h2 } : Send)])) 1000001 true]) (by kernel_rfl) ?_
          refine AR.reg hm podestaref04_Run_k6 (by kernel_rfl) ?_
          refine DK.seg hG 2 [0, 3, 6, 8, 52] (t' := [(0, .sl 53 (List.map Act.av l) f_l), (3, .ptr 0 0 none), (6, .own 1 1000001), (8, .sc (.int .i64 ((i : Nat) : Int))), (52, .sc (.bool tell))]) (h' := [.box 43 [.arr .u64 12 h2], .row 59 (List.map Send.av (out ++ [({ Port := x.Port, Head := h2 } : Send)])) 1000001 true]) (by kernel_rfl) rfl ?_
          refine DK.mux 52 tell (j := 9) (h' := [.box 43 [.arr .u64 12 h2], .row 59 (List.map Send.av (out ++ [({ Port := x.Port, Head := h2 } : Send)])) 1000001 true]) (by kernel_rfl) (fun z => [(0, .sl 53 (List.map Act.av l) f_l), (3, .ptr 0 0 none), (6, .own 1 1000001), (8, .sc (.int .i64 ((i : Nat) : Int))), (59, .sc (.bool (z || (x.Kind == 3))))]) ?J33 (fun hb J => ?ht33) (fun hb J => ?hf33)
          case ht33 =>
            exact DK.seg hG 7 [0, 3, 6, 8, 59] (by kernel_rfl) rfl J
          case hf33 =>
            refine DK.seg hG 2 [0, 3, 6, 8, 52, 53, 54] (t' := [(0, .sl 53 (List.map Act.av l) f_l), (3, .ptr 0 0 none), (6, .own 1 1000001), (8, .sc (.int .i64 ((i : Nat) : Int))), (52, .sc (.bool false)), (53, .sl 53 (List.map Act.av l) f_l), (54, .sc (.int .i64 ((i : Nat) : Int)))]) (h' := [.box 43 [.arr .u64 12 h2], .row 59 (List.map Send.av (out ++ [({ Port := x.Port, Head := h2 } : Send)])) 1000001 true]) (by kernel_rfl) rfl ?_
            refine DK.op' [0, 3, 6, 8, 52, 55] (t' := [(0, .sl 53 (List.map Act.av l) f_l), (3, .ptr 0 0 none), (6, .own 1 1000001), (8, .sc (.int .i64 ((i : Nat) : Int))), (52, .sc (.bool false)), (55, .ep [.sc (.int .i64 x.Kind), .sc (.int .i64 x.Port), .sc (.int .i64 x.Field), .sc (.int .u64 x.Value)] 0 none)]) (h' := [.box 43 [.arr .u64 12 h2], .row 59 (List.map Send.av (out ++ [({ Port := x.Port, Head := h2 } : Send)])) 1000001 true]) (LSpec.index' (r := Act.av x) (fs := [.sc (.int .i64 x.Kind), .sc (.int .i64 x.Port), .sc (.int .i64 x.Field), .sc (.int .u64 x.Value)]) hG (rows := List.map Act.av l) (j := ((i : Nat) : Int)) (by kernel_rfl) (ixO_map hv_i _) (by kernel_rfl)) (by kernel_rfl) rfl (by kernel_rfl) rfl ?_
            exact DK.seg hG 4 [0, 3, 6, 8, 59] (by kernel_rfl) rfl J
          refine DK.seg hG 1 [0, 3, 6, 7, 8] (t' := [(0, .sl 53 (List.map Act.av l) f_l), (3, .ptr 0 0 none), (6, .own 1 1000001), (7, .sc (.bool (tell || (x.Kind == 3)))), (8, .sc (.int .i64 ((i : Nat) : Int)))]) (h' := [.box 43 [.arr .u64 12 h2], .row 59 (List.map Send.av (out ++ [({ Port := x.Port, Head := h2 } : Send)])) 1000001 true]) (by kernel_rfl) rfl ?_
          refine DK.done (by kernel_rfl) (by kernel_rfl) ?_
          refine AR.seg hG hm 2 [0, 3, 6, 7, 8] (k' := [.loop [1, 1, 1, 1, 0, 1, 0], .blk 0, .code [1, 1, 1, 1, 1]]) (t' := [(0, .sl 53 (List.map Act.av l) f_l), (3, .ptr 0 0 none), (6, .own 1 1000001), (7, .sc (.bool (tell || (x.Kind == 3)))), (8, .sc (.int .i64 (IntKind.i64.wrap (((i : Nat) : Int) + 1))))]) (h' := [.box 43 [.arr .u64 12 h2], .row 59 (List.map Send.av (out ++ [({ Port := x.Port, Head := h2 } : Send)])) 1000001 true]) (by kernel_rfl) ?_
          refine AR.keep [0, 3, 6, 7, 8] (t' := [(0, .sl 53 (List.map Act.av l) f_l), (3, .ptr 0 0 none), (6, .own 1 1000001), (7, .sc (.bool (tell || (x.Kind == 3)))), (8, .sc (.int .i64 (IntKind.i64.wrap (((i : Nat) : Int) + 1))))]) (by kernel_rfl) ?_
          refine AR.norm' 1 1000000 hc0 (t' := [(0, .sl 53 (List.map Act.av l) f_l), (3, .ptr 0 0 none), (6, .own 1 1000000), (7, .sc (.bool (tell || (x.Kind == 3)))), (8, .sc (.int .i64 (IntKind.i64.wrap (((i : Nat) : Int) + 1))))]) (h' := [.box 43 [.arr .u64 12 h2], .row 59 (List.map Send.av (out ++ [({ Port := x.Port, Head := h2 } : Send)])) 1000000 true]) (by kernel_rfl) ?_
          refine AR.loop_round ?_
          rw [hw]
          exact ih (i + 1) hd2 (tell || (x.Kind == 3)) h2 (out ++ [({ Port := x.Port, Head := h2 } : Send)]) H
      case hf30 =>
        replace H := cond_f hb H
        refine AR.seg hG hm 3 [0, 3, 6, 7, 8] (k' := [.code [1, 1, 1, 1, 0, 1, 0, 0, 1, 0, 0, 1, 0, 0], .code [1, 1, 1, 1, 0, 1, 0, 0, 1, 0, 0, 1, 0, 1], .code [1, 1, 1, 1, 0, 1, 0, 0, 1, 0, 0, 1, 1], .blk 1, .code [1, 1, 1, 1, 0, 1, 0, 0, 1, 1], .loop [1, 1, 1, 1, 0, 1, 0], .blk 0, .code [1, 1, 1, 1, 1]]) (t' := [(0, .sl 53 (List.map Act.av l) f_l), (3, .ptr 0 0 none), (6, .own 1 1000000), (7, .sc (.bool tell)), (8, .sc (.int .i64 ((i : Nat) : Int)))]) (h' := [.box 43 [.arr .u64 12 h2], .row 59 (List.map Send.av out) 1000000 true]) (by kernel_rfl) ?_
        refine AR.reg hm podestaref04_Run_k7 (by kernel_rfl) ?_
        refine DK.seg hG 2 [0, 3, 6, 7, 8, 34, 35] (t' := [(0, .sl 53 (List.map Act.av l) f_l), (3, .ptr 0 0 none), (6, .own 1 1000000), (7, .sc (.bool tell)), (8, .sc (.int .i64 ((i : Nat) : Int))), (34, .sl 53 (List.map Act.av l) f_l), (35, .sc (.int .i64 ((i : Nat) : Int)))]) (h' := [.box 43 [.arr .u64 12 h2], .row 59 (List.map Send.av out) 1000000 true]) (by kernel_rfl) rfl ?_
        refine DK.op' [0, 3, 6, 7, 8, 36] (t' := [(0, .sl 53 (List.map Act.av l) f_l), (3, .ptr 0 0 none), (6, .own 1 1000000), (7, .sc (.bool tell)), (8, .sc (.int .i64 ((i : Nat) : Int))), (36, .ep [.sc (.int .i64 x.Kind), .sc (.int .i64 x.Port), .sc (.int .i64 x.Field), .sc (.int .u64 x.Value)] 0 none)]) (h' := [.box 43 [.arr .u64 12 h2], .row 59 (List.map Send.av out) 1000000 true]) (LSpec.index' (r := Act.av x) (fs := [.sc (.int .i64 x.Kind), .sc (.int .i64 x.Port), .sc (.int .i64 x.Field), .sc (.int .u64 x.Value)]) hG (rows := List.map Act.av l) (j := ((i : Nat) : Int)) (by kernel_rfl) (ixO_map hv_i _) (by kernel_rfl)) (by kernel_rfl) rfl (by kernel_rfl) rfl ?_
        refine DK.seg hG 3 [0, 3, 6, 7, 8, 39] (t' := [(0, .sl 53 (List.map Act.av l) f_l), (3, .ptr 0 0 none), (6, .own 1 1000000), (7, .sc (.bool tell)), (8, .sc (.int .i64 ((i : Nat) : Int))), (39, .sc (.bool (x.Kind == 2)))]) (h' := [.box 43 [.arr .u64 12 h2], .row 59 (List.map Send.av out) 1000000 true]) (by kernel_rfl) rfl ?_
        refine DK.done (by kernel_rfl) (by kernel_rfl) ?_
        refine AR.cond (.tmp 39) (x.Kind == 2) (by kernel_rfl) (by kernel_rfl) (fun hb => ?ht34) (fun hb => ?hf34)
        case ht34 =>
          replace H := cond_t hb H
          refine AR.reg hm podestaref04_Run_k8 (by kernel_rfl) ?_
          refine DK.seg hG 2 [0, 3, 6, 7, 8, 40, 41] (t' := [(0, .sl 53 (List.map Act.av l) f_l), (3, .ptr 0 0 none), (6, .own 1 1000000), (7, .sc (.bool tell)), (8, .sc (.int .i64 ((i : Nat) : Int))), (40, .sl 53 (List.map Act.av l) f_l), (41, .sc (.int .i64 ((i : Nat) : Int)))]) (h' := [.box 43 [.arr .u64 12 h2], .row 59 (List.map Send.av out) 1000000 true]) (by kernel_rfl) rfl ?_
          refine DK.op' [0, 3, 6, 7, 8, 42] (t' := [(0, .sl 53 (List.map Act.av l) f_l), (3, .ptr 0 0 none), (6, .own 1 1000000), (7, .sc (.bool tell)), (8, .sc (.int .i64 ((i : Nat) : Int))), (42, .ep [.sc (.int .i64 x.Kind), .sc (.int .i64 x.Port), .sc (.int .i64 x.Field), .sc (.int .u64 x.Value)] 0 none)]) (h' := [.box 43 [.arr .u64 12 h2], .row 59 (List.map Send.av out) 1000000 true]) (LSpec.index' (r := Act.av x) (fs := [.sc (.int .i64 x.Kind), .sc (.int .i64 x.Port), .sc (.int .i64 x.Field), .sc (.int .u64 x.Value)]) hG (rows := List.map Act.av l) (j := ((i : Nat) : Int)) (by kernel_rfl) (ixO_map hv_i _) (by kernel_rfl)) (by kernel_rfl) rfl (by kernel_rfl) rfl ?_
          refine DK.seg hG 4 [0, 3, 6, 7, 8, 44, 45, 46] (t' := [(0, .sl 53 (List.map Act.av l) f_l), (3, .ptr 0 0 none), (6, .own 1 1000000), (7, .sc (.bool tell)), (8, .sc (.int .i64 ((i : Nat) : Int))), (44, .sc (.int .i64 x.Field)), (45, .sl 53 (List.map Act.av l) f_l), (46, .sc (.int .i64 ((i : Nat) : Int)))]) (h' := [.box 43 [.arr .u64 12 h2], .row 59 (List.map Send.av out) 1000000 true]) (by kernel_rfl) rfl ?_
          refine DK.op' [0, 3, 6, 7, 8, 44, 47] (t' := [(0, .sl 53 (List.map Act.av l) f_l), (3, .ptr 0 0 none), (6, .own 1 1000000), (7, .sc (.bool tell)), (8, .sc (.int .i64 ((i : Nat) : Int))), (44, .sc (.int .i64 x.Field)), (47, .ep [.sc (.int .i64 x.Kind), .sc (.int .i64 x.Port), .sc (.int .i64 x.Field), .sc (.int .u64 x.Value)] 0 none)]) (h' := [.box 43 [.arr .u64 12 h2], .row 59 (List.map Send.av out) 1000000 true]) (LSpec.index' (r := Act.av x) (fs := [.sc (.int .i64 x.Kind), .sc (.int .i64 x.Port), .sc (.int .i64 x.Field), .sc (.int .u64 x.Value)]) hG (rows := List.map Act.av l) (j := ((i : Nat) : Int)) (by kernel_rfl) (ixO_map hv_i _) (by kernel_rfl)) (by kernel_rfl) rfl (by kernel_rfl) rfl ?_
          refine DK.seg hG 2 [0, 3, 6, 7, 8, 44, 49] (t' := [(0, .sl 53 (List.map Act.av l) f_l), (3, .ptr 0 0 none), (6, .own 1 1000000), (7, .sc (.bool tell)), (8, .sc (.int .i64 ((i : Nat) : Int))), (44, .sc (.int .i64 x.Field)), (49, .sc (.int .u64 x.Value))]) (h' := [.box 43 [.arr .u64 12 h2], .row 59 (List.map Send.av out) 1000000 true]) (by kernel_rfl) rfl ?_
          obtain ⟨hreq, H⟩ := reqO_some H
          refine DK.op' [0, 3, 6, 7, 8, 49, 50] (t' := [(0, .sl 53 (List.map Act.av l) f_l), (3, .ptr 0 0 none), (6, .own 1 1000000), (7, .sc (.bool tell)), (8, .sc (.int .i64 ((i : Nat) : Int))), (49, .sc (.int .u64 x.Value)), (50, .ptr 0 0 (some (x.Field.toNat, 12)))]) (h' := [.box 43 [.arr .u64 12 h2], .row 59 (List.map Send.av out) 1000000 true]) (LSpec.idxPtr (o := 0) (off := 0) (m := 12) (j := x.Field) hG hreq (by kernel_rfl)) (by kernel_rfl) rfl (by kernel_rfl) rfl ?_
          refine DK.seg hG 1 [0, 3, 6, 7, 8] (t' := [(0, .sl 53 (List.map Act.av l) f_l), (3, .ptr 0 0 none), (6, .own 1 1000000), (7, .sc (.bool tell)), (8, .sc (.int .i64 ((i : Nat) : Int)))]) (h' := [.box 43 [.arr .u64 12 (h2.set (x.Field.toNat) x.Value)], .row 59 (List.map Send.av out) 1000000 true]) (by kernel_rfl) rfl ?_
          refine DK.done (by kernel_rfl) (by kernel_rfl) ?_
          refine AR.reg hm podestaref04_Run_k9 (by kernel_rfl) ?_
          refine DK.seg hG 2 [0, 3, 6, 8, 52] (t' := [(0, .sl 53 (List.map Act.av l) f_l), (3, .ptr 0 0 none), (6, .own 1 1000000), (8, .sc (.int .i64 ((i : Nat) : Int))), (52, .sc (.bool tell))]) (h' := [.box 43 [.arr .u64 12 (h2.set (x.Field.toNat) x.Value)], .row 59 (List.map Send.av out) 1000000 true]) (by kernel_rfl) rfl ?_
          refine DK.mux 52 tell (j := 9) (h' := [.box 43 [.arr .u64 12 (h2.set (x.Field.toNat) x.Value)], .row 59 (List.map Send.av out) 1000000 true]) (by kernel_rfl) (fun z => [(0, .sl 53 (List.map Act.av l) f_l), (3, .ptr 0 0 none), (6, .own 1 1000000), (8, .sc (.int .i64 ((i : Nat) : Int))), (59, .sc (.bool (z || (x.Kind == 3))))]) ?J35 (fun hb J => ?ht35) (fun hb J => ?hf35)
          case ht35 =>
            exact DK.seg hG 7 [0, 3, 6, 8, 59] (by kernel_rfl) rfl J
          case hf35 =>
            refine DK.seg hG 2 [0, 3, 6, 8, 52, 53, 54] (t' := [(0, .sl 53 (List.map Act.av l) f_l), (3, .ptr 0 0 none), (6, .own 1 1000000), (8, .sc (.int .i64 ((i : Nat) : Int))), (52, .sc (.bool false)), (53, .sl 53 (List.map Act.av l) f_l), (54, .sc (.int .i64 ((i : Nat) : Int)))]) (h' := [.box 43 [.arr .u64 12 (h2.set (x.Field.toNat) x.Value)], .row 59 (List.map Send.av out) 1000000 true]) (by kernel_rfl) rfl ?_
            refine DK.op' [0, 3, 6, 8, 52, 55] (t' := [(0, .sl 53 (List.map Act.av l) f_l), (3, .ptr 0 0 none), (6, .own 1 1000000), (8, .sc (.int .i64 ((i : Nat) : Int))), (52, .sc (.bool false)), (55, .ep [.sc (.int .i64 x.Kind), .sc (.int .i64 x.Port), .sc (.int .i64 x.Field), .sc (.int .u64 x.Value)] 0 none)]) (h' := [.box 43 [.arr .u64 12 (h2.set (x.Field.toNat) x.Value)], .row 59 (List.map Send.av out) 1000000 true]) (LSpec.index' (r := Act.av x) (fs := [.sc (.int .i64 x.Kind), .sc (.int .i64 x.Port), .sc (.int .i64 x.Field), .sc (.int .u64 x.Value)]) hG (rows := List.map Act.av l) (j := ((i : Nat) : Int)) (by kernel_rfl) (ixO_map hv_i _) (by kernel_rfl)) (by kernel_rfl) rfl (by kernel_rfl) rfl ?_
            exact DK.seg hG 4 [0, 3, 6, 8, 59] (by kernel_rfl) rfl J
          refine DK.seg hG 1 [0, 3, 6, 7, 8] (t' := [(0, .sl 53 (List.map Act.av l) f_l), (3, .ptr 0 0 none), (6, .own 1 1000000), (7, .sc (.bool (tell || (x.Kind == 3)))), (8, .sc (.int .i64 ((i : Nat) : Int)))]) (h' := [.box 43 [.arr .u64 12 (h2.set (x.Field.toNat) x.Value)], .row 59 (List.map Send.av out) 1000000 true]) (by kernel_rfl) rfl ?_
          refine DK.done (by kernel_rfl) (by kernel_rfl) ?_
          refine AR.seg hG hm 2 [0, 3, 6, 7, 8] (k' := [.loop [1, 1, 1, 1, 0, 1, 0], .blk 0, .code [1, 1, 1, 1, 1]]) (t' := [(0, .sl 53 (List.map Act.av l) f_l), (3, .ptr 0 0 none), (6, .own 1 1000000), (7, .sc (.bool (tell || (x.Kind == 3)))), (8, .sc (.int .i64 (IntKind.i64.wrap (((i : Nat) : Int) + 1))))]) (h' := [.box 43 [.arr .u64 12 (h2.set (x.Field.toNat) x.Value)], .row 59 (List.map Send.av out) 1000000 true]) (by kernel_rfl) ?_
          refine AR.keep [0, 3, 6, 7, 8] (t' := [(0, .sl 53 (List.map Act.av l) f_l), (3, .ptr 0 0 none), (6, .own 1 1000000), (7, .sc (.bool (tell || (x.Kind == 3)))), (8, .sc (.int .i64 (IntKind.i64.wrap (((i : Nat) : Int) + 1))))]) (by kernel_rfl) ?_
          refine AR.loop_round ?_
          rw [hw]
          exact ih (i + 1) hd2 (tell || (x.Kind == 3)) (h2.set (x.Field.toNat) x.Value) out H
        case hf34 =>
          replace H := cond_f hb H
          refine AR.seg hG hm 1 [0, 3, 6, 7, 8] (k' := [.code [1, 1, 1, 1, 0, 1, 0, 0, 1, 0, 0, 1, 1], .blk 1, .code [1, 1, 1, 1, 0, 1, 0, 0, 1, 1], .loop [1, 1, 1, 1, 0, 1, 0], .blk 0, .code [1, 1, 1, 1, 1]]) (t' := [(0, .sl 53 (List.map Act.av l) f_l), (3, .ptr 0 0 none), (6, .own 1 1000000), (7, .sc (.bool tell)), (8, .sc (.int .i64 ((i : Nat) : Int)))]) (h' := [.box 43 [.arr .u64 12 h2], .row 59 (List.map Send.av out) 1000000 true]) (by kernel_rfl) ?_
          refine AR.reg hm podestaref04_Run_k10 (by kernel_rfl) ?_
          refine DK.seg hG 2 [0, 3, 6, 8, 52] (t' := [(0, .sl 53 (List.map Act.av l) f_l), (3, .ptr 0 0 none), (6, .own 1 1000000), (8, .sc (.int .i64 ((i : Nat) : Int))), (52, .sc (.bool tell))]) (h' := [.box 43 [.arr .u64 12 h2], .row 59 (List.map Send.av out) 1000000 true]) (by kernel_rfl) rfl ?_
          refine DK.mux 52 tell (j := 9) (h' := [.box 43 [.arr .u64 12 h2], .row 59 (List.map Send.av out) 1000000 true]) (by kernel_rfl) (fun z => [(0, .sl 53 (List.map Act.av l) f_l), (3, .ptr 0 0 none), (6, .own 1 1000000), (8, .sc (.int .i64 ((i : Nat) : Int))), (59, .sc (.bool (z || (x.Kind == 3))))]) ?J36 (fun hb J => ?ht36) (fun hb J => ?hf36)
          case ht36 =>
            exact DK.seg hG 7 [0, 3, 6, 8, 59] (by kernel_rfl) rfl J
          case hf36 =>
            refine DK.seg hG 2 [0, 3, 6, 8, 52, 53, 54] (t' := [(0, .sl 53 (List.map Act.av l) f_l), (3, .ptr 0 0 none), (6, .own 1 1000000), (8, .sc (.int .i64 ((i : Nat) : Int))), (52, .sc (.bool false)), (53, .sl 53 (List.map Act.av l) f_l), (54, .sc (.int .i64 ((i : Nat) : Int)))]) (h' := [.box 43 [.arr .u64 12 h2], .row 59 (List.map Send.av out) 1000000 true]) (by kernel_rfl) rfl ?_
            refine DK.op' [0, 3, 6, 8, 52, 55] (t' := [(0, .sl 53 (List.map Act.av l) f_l), (3, .ptr 0 0 none), (6, .own 1 1000000), (8, .sc (.int .i64 ((i : Nat) : Int))), (52, .sc (.bool false)), (55, .ep [.sc (.int .i64 x.Kind), .sc (.int .i64 x.Port), .sc (.int .i64 x.Field), .sc (.int .u64 x.Value)] 0 none)]) (h' := [.box 43 [.arr .u64 12 h2], .row 59 (List.map Send.av out) 1000000 true]) (LSpec.index' (r := Act.av x) (fs := [.sc (.int .i64 x.Kind), .sc (.int .i64 x.Port), .sc (.int .i64 x.Field), .sc (.int .u64 x.Value)]) hG (rows := List.map Act.av l) (j := ((i : Nat) : Int)) (by kernel_rfl) (ixO_map hv_i _) (by kernel_rfl)) (by kernel_rfl) rfl (by kernel_rfl) rfl ?_
            exact DK.seg hG 4 [0, 3, 6, 8, 59] (by kernel_rfl) rfl J
          refine DK.seg hG 1 [0, 3, 6, 7, 8] (t' := [(0, .sl 53 (List.map Act.av l) f_l), (3, .ptr 0 0 none), (6, .own 1 1000000), (7, .sc (.bool (tell || (x.Kind == 3)))), (8, .sc (.int .i64 ((i : Nat) : Int)))]) (h' := [.box 43 [.arr .u64 12 h2], .row 59 (List.map Send.av out) 1000000 true]) (by kernel_rfl) rfl ?_
          refine DK.done (by kernel_rfl) (by kernel_rfl) ?_
          refine AR.seg hG hm 2 [0, 3, 6, 7, 8] (k' := [.loop [1, 1, 1, 1, 0, 1, 0], .blk 0, .code [1, 1, 1, 1, 1]]) (t' := [(0, .sl 53 (List.map Act.av l) f_l), (3, .ptr 0 0 none), (6, .own 1 1000000), (7, .sc (.bool (tell || (x.Kind == 3)))), (8, .sc (.int .i64 (IntKind.i64.wrap (((i : Nat) : Int) + 1))))]) (h' := [.box 43 [.arr .u64 12 h2], .row 59 (List.map Send.av out) 1000000 true]) (by kernel_rfl) ?_
          refine AR.keep [0, 3, 6, 7, 8] (t' := [(0, .sl 53 (List.map Act.av l) f_l), (3, .ptr 0 0 none), (6, .own 1 1000000), (7, .sc (.bool (tell || (x.Kind == 3)))), (8, .sc (.int .i64 (IntKind.i64.wrap (((i : Nat) : Int) + 1))))]) (by kernel_rfl) ?_
          refine AR.loop_round ?_
          rw [hw]
          exact ih (i + 1) hd2 (tell || (x.Kind == 3)) h2 out H
    case hf29 => exact absurd (hc.symm.trans hb) (by decide)

def podestaref04_Run_raw (l : List Act) (h1 : List Int) : Option ((List Send) × Bool) :=
  (bif (!(podestaref04_Acts l)) then
    some ([], false)
  else
    (podestaref04_Run_l0s l false h1 ([] : List Send)).bind fun v =>
    some (v.2.2, v.1))
theorem podestaref04_Run_walk (l : List Act) (h1 : List Int) (f_l : Bool) (r : (List Send) × Bool) (H : podestaref04_Run_raw l h1 = some r) :
    ACalls Try.prog tab.S 23 [.sl 53 (List.map Act.av l) f_l, .arr .u64 12 h1] [] (.tup [.sl 59 (List.map Send.av r.1) false, .sc (.bool r.2)]) [] := by
  have hG := tab_ok
  have hm := mixed
  refine ACalls.of_AR (G := tab) podestaref04_Run_F (fn := Try.f23) Try.func23 (by kernel_rfl) (by kernel_rfl) (by kernel_rfl) (Nat.le_of_ble_eq_true (by kernel_rfl)) ?_
  intro c0 hc0
  replace hc0 : c0.m.length = 0 := hc0
  rw [podestaref04_Run_raw] at H
  refine AR.seg hG hm 4 [0, 3] (k' := [.code [1, 0, 0], .code [1, 0, 1], .code [1, 1]]) (t' := [(0, .sl 53 (List.map Act.av l) f_l), (3, .ptr 0 0 none)]) (h' := [.box 43 [.arr .u64 12 h1]]) (by kernel_rfl) ?_
  refine AR.reg hm podestaref04_Run_k0 (by kernel_rfl) ?_
  refine DK.seg hG 1 [0, 3, 9] (t' := [(0, .sl 53 (List.map Act.av l) f_l), (3, .ptr 0 0 none), (9, .sl 53 (List.map Act.av l) f_l)]) (h' := [.box 43 [.arr .u64 12 h1]]) (by kernel_rfl) rfl ?_
  refine DK.op' [0, 3, 10] (t' := [(0, .sl 53 (List.map Act.av l) f_l), (3, .ptr 0 0 none), (10, .sc (.bool (podestaref04_Acts l)))]) (h' := [.box 43 [.arr .u64 12 h1]]) (LSpec.callP' (podestaref04_Acts_calls l f_l) (by kernel_rfl)) (by kernel_rfl) rfl (by kernel_rfl) rfl ?_
  refine DK.seg hG 1 [0, 3, 11] (t' := [(0, .sl 53 (List.map Act.av l) f_l), (3, .ptr 0 0 none), (11, .sc (.bool (!(podestaref04_Acts l))))]) (h' := [.box 43 [.arr .u64 12 h1]]) (by kernel_rfl) rfl ?_
  refine DK.done (by kernel_rfl) (by kernel_rfl) ?_
  refine AR.cond (.tmp 11) (!(podestaref04_Acts l)) (by kernel_rfl) (by kernel_rfl) (fun hb => ?ht1) (fun hb => ?hf1)
  case ht1 =>
    replace H := cond_t hb H
    refine AR.seg hG hm 2 [4, 5] (k' := [.code [1, 0, 1, 0, 1], .code [1, 1]]) (t' := [(4, .sl 0 [] true), (5, .sc (.bool false))]) (h' := [.box 43 [.arr .u64 12 h1]]) (by kernel_rfl) ?_
    obtain rfl := Option.some.inj H
    exact AR.ret0 (fn := Try.f23) hG Try.func23 (by kernel_rfl) hc0 (r0 := .tup [.sl 0 [] true, .sc (.bool false)]) (by kernel_rfl) (WkV.tup (Wks.cons (WkV.sl (Wk1.nil 59 false)) trivial trivial (Wks.cons (WkV.refl _) trivial trivial Wks.nil)))
  case hf1 =>
    replace H := cond_f hb H
    refine AR.seg hG hm 9 [0, 3, 6, 7, 8] (k' := [.code [1, 1, 1, 1, 0, 1, 0], .blk 0, .code [1, 1, 1, 1, 1]]) (t' := [(0, .sl 53 (List.map Act.av l) f_l), (3, .ptr 0 0 none), (6, .sl 0 [] true), (7, .sc (.bool false)), (8, .sc (.int .i64 0))]) (h' := [.box 43 [.arr .u64 12 h1]]) (by kernel_rfl) ?_
    refine AR.adoptB' 6 59 (t' := [(6, .own 1 1000000), (0, .sl 53 (List.map Act.av l) f_l), (3, .ptr 0 0 none), (7, .sc (.bool false)), (8, .sc (.int .i64 0))]) (h' := [.box 43 [.arr .u64 12 h1], .row 59 (List.map Send.av ([] : List Send)) 1000000 true]) (by kernel_rfl) ?_
    refine AR.keep [0, 3, 6, 7, 8] (t' := [(0, .sl 53 (List.map Act.av l) f_l), (3, .ptr 0 0 none), (6, .own 1 1000000), (7, .sc (.bool false)), (8, .sc (.int .i64 0))]) (by kernel_rfl) ?_
    obtain ⟨v, hv, H⟩ := Option.bind_eq_some_iff.1 H
    refine AR.into (by kernel_rfl) ?_
    refine podestaref04_Run_l0_walk l h1 f_l r c0 hc0 v ?_ l 0 rfl false h1 ([] : List Send) hv
    refine AR.seg hG hm 2 [4, 5] (k' := [.code [1, 1, 1, 1, 1, 1]]) (t' := [(4, .own 1 1000000), (5, .sc (.bool v.1))]) (h' := [.box 43 [.arr .u64 12 v.2.1], .row 59 (List.map Send.av v.2.2) 1000000 true]) (by kernel_rfl) ?_
    obtain rfl := Option.some.inj H
    exact AR.ret0 (fn := Try.f23) hG Try.func23 (by kernel_rfl) hc0 (r0 := .tup [.sl 59 (List.map Send.av v.2.2) false, .sc (.bool v.1)]) (by kernel_rfl) (WkV.refl _)

def runR (l : List Act) (h : List Int) : List Send × Bool := if ActsOk l then ((runF l h).2.2, (runF l h).1) else ([], false)
theorem ok_field {x : Act} (h : actOk x = true) (hk : (x.Kind == 2) = true) : (decide (0 ≤ x.Field) && decide (x.Field < ((12 : Nat) : Int))) = true := by
  unfold actOk at h
  have h1 : (x.Kind == 1) = false := by
    rw [beq_iff_eq] at hk
    rw [hk]; rfl
  rw [h1, hk] at h
  simp only [cond_false, cond_true, Bool.and_eq_true] at h
  rw [Bool.and_eq_true]
  exact ⟨h.1.1.2, h.1.2⟩
theorem ref_Run_l0s_eq : ∀ (l : List Act) (tell : Bool) (h : List Int) (out : List Send), (∀ x ∈ l, actOk x = true) → (out.length + l.length) * 104 ≤ 140737488355328 → podestaref04_Run_l0s l tell h out = some (l.foldl stepA_ (tell, h, out))
  | [], tell, h, out, _, _ => rfl
  | x :: l, tell, h, out, hs, hl => by
      have h0 := hs x (by simp)
      have hs' : ∀ y ∈ l, actOk y = true := fun y hy => hs y (by simp [hy])
      rw [List.length_cons] at hl
      rw [podestaref04_Run_l0s, List.foldl_cons]
      unfold stepA_
      cases h1 : (x.Kind == 1)
      · cases h2 : (x.Kind == 2)
        · simp only [cond_false, Bool.false_eq_true, if_false]
          rw [ref_Run_l0s_eq l _ _ _ hs' (by omega)]
          rfl
        · have h3 : (x.Kind == 3) = false := by
            rw [beq_iff_eq] at h2
            rw [h2]; rfl
          simp only [cond_false, cond_true, Bool.false_eq_true, if_false, if_true]
          rw [reqO_eq (ok_field h0 h2), ref_Run_l0s_eq l _ _ _ hs' (by omega), h3, Bool.or_false]
          rfl
      · have h2 : (x.Kind == 2) = false := by
          rw [beq_iff_eq] at h1
          rw [h1]; rfl
        have h3 : (x.Kind == 3) = false := by
          rw [beq_iff_eq] at h1
          rw [h1]; rfl
        simp only [cond_true, if_true]
        rw [fitO_eq (by simp only [List.length_singleton]; omega), h2, h3, Bool.or_false]
        simp only [cond_false]
        rw [ref_Run_l0s_eq l _ _ _ hs' (by rw [List.length_append, List.length_singleton]; omega)]
        rfl
theorem ref_Run_ok (l : List Act) (h : List Int) (f_l : Bool) : ACalls Try.prog tab.S 23 [.sl 53 (List.map Act.av l) f_l, .arr .u64 12 h] [] (.tup [.sl 59 (List.map Send.av (runR l h).1) false, .sc (.bool (runR l h).2)]) [] := by
  refine podestaref04_Run_walk l h f_l (runR l h) ?_
  rw [podestaref04_Run_raw, refActs_eq]
  unfold runR
  cases hs : ActsOk l
  · rfl
  · unfold ActsOk at hs
    rw [Bool.and_eq_true, List.all_eq_true, decide_eq_true_eq] at hs
    rw [ref_Run_l0s_eq l false h [] hs.1 (by simp only [List.length_nil]; omega)]
    rfl

end Go.Proofs.Ytjchejmakdkioab

set_option linter.unusedVariables false
set_option linter.unusedSimpArgs false
set_option maxRecDepth 100000
set_option maxHeartbeats 4000000
namespace Go.Proofs.Ytjchejmakdkioab
open Go.Sh
set_option maxRecDepth 100000
open Go.ChangeShapes Go.WideShapes Go.ChangeAt Go.RowKit
def Act.wf (x : Act) : Prop := intW .i64 x.Kind ∧ intW .i64 x.Port ∧ intW .i64 x.Field ∧ intW .u64 x.Value
theorem Act.shaped {gs : List AV} (h : Shaped tab 53 gs) : ∃ x : Act, gs = [.sc (.int .i64 x.Kind), .sc (.int .i64 x.Port), .sc (.int .i64 x.Field), .sc (.int .u64 x.Value)] ∧ x.wf := by
  obtain ⟨gss, rfl, hl, hf⟩ := Shaped.struct_inv (fl := [(0, 3), (1, 3), (2, 3), (3, 41)]) (by kernel_rfl) h
  match gss, hl, hf with
  | [g0, g1, g2, g3], _, hf =>
    obtain ⟨x0, rfl, w0⟩ := Shaped.int_inv (k := .i64) (by kernel_rfl) (hf 0 _ _ rfl rfl)
    obtain ⟨x1, rfl, w1⟩ := Shaped.int_inv (k := .i64) (by kernel_rfl) (hf 1 _ _ rfl rfl)
    obtain ⟨x2, rfl, w2⟩ := Shaped.int_inv (k := .i64) (by kernel_rfl) (hf 2 _ _ rfl rfl)
    obtain ⟨x3, rfl, w3⟩ := Shaped.int_inv (k := .u64) (by kernel_rfl) (hf 3 _ _ rfl rfl)
    exact ⟨⟨x0, x1, x2, x3⟩, rfl, ⟨w0, w1, w2, w3⟩⟩

end Go.Proofs.Ytjchejmakdkioab

set_option linter.unusedVariables false
set_option linter.unusedSimpArgs false
set_option maxRecDepth 100000
set_option maxHeartbeats 4000000
namespace Go.Proofs.Ytjchejmakdkioab
open Go.Sh
/-! ### podestalaw04.answers: function 21 -/
noncomputable def podestalaw04_answers_F : Go.Sh.Fn := ⟨21, bodyOf Try.f21, 33⟩
def podestalaw04_answers_k1 : List Kd := [.pure, .pure, .pure, .pure, .pure, .pure, .pure, .pure, .pure, .pure, .pure, .pure, .pure, .pure, .pure, .pure, .pure, .pure, .pure, .pure, .pure, .pure]
def podestalaw04_answers_k0 : List Kd := [.pure, .pure, .pure, .pure, .pure, .pure, .pure, .pure, .pure, .pure, .pure]
def podestalaw04_answers_raw : Option (Bool) :=
  (bif ((runA [({ Kind := 2, Port := 0, Field := 4, Value := 5 } : Act), ({ Kind := 1, Port := 2, Field := 0, Value := 0 } : Act), ({ Kind := 3, Port := 0, Field := 0, Value := 0 } : Act)] [0, 0, 0, 0, 0, 0, 0, 0, 0, 0, 0, 0]).2 && ((((List.map Send.av ((runA [({ Kind := 2, Port := 0, Field := 4, Value := 5 } : Act), ({ Kind := 1, Port := 2, Field := 0, Value := 0 } : Act), ({ Kind := 3, Port := 0, Field := 0, Value := 0 } : Act)] [0, 0, 0, 0, 0, 0, 0, 0, 0, 0, 0, 0]).1)).length : Nat) : Int) == 1)) then
    (ixO ((runA [({ Kind := 2, Port := 0, Field := 4, Value := 5 } : Act), ({ Kind := 1, Port := 2, Field := 0, Value := 0 } : Act), ({ Kind := 3, Port := 0, Field := 0, Value := 0 } : Act)] [0, 0, 0, 0, 0, 0, 0, 0, 0, 0, 0, 0]).1) 0).bind fun x =>
    (bif (x.Port == 2) then
      (ixO ((runA [({ Kind := 2, Port := 0, Field := 4, Value := 5 } : Act), ({ Kind := 1, Port := 2, Field := 0, Value := 0 } : Act), ({ Kind := 3, Port := 0, Field := 0, Value := 0 } : Act)] [0, 0, 0, 0, 0, 0, 0, 0, 0, 0, 0, 0]).1) 0).bind fun x1 =>
      some ((x1.Head.getD (4) 0) == 5)
    else
      some false)
  else
    some false)
theorem podestalaw04_answers_walk (r : Bool) (H : podestalaw04_answers_raw = some r) :
    ACalls Try.prog tab.S 21 [] [] (.sc (.bool r)) [] := by
  have hG := tab_ok
  have hm := mixed
  refine ACalls.of_AR (G := tab) podestalaw04_answers_F (fn := Try.f21) Try.func21 (by kernel_rfl) (by kernel_rfl) (by kernel_rfl) (Nat.le_of_ble_eq_true (by kernel_rfl)) ?_
  intro c0 hc0
  replace hc0 : c0.m.length = 0 := hc0
  rw [podestalaw04_answers_raw] at H
  refine AR.seg hG hm 3 [] (k' := [.code [1, 0], .code [1, 1]]) (t' := []) (h' := []) (by kernel_rfl) ?_
  refine AR.reg hm podestalaw04_answers_k0 (by kernel_rfl) ?_
  refine DK.seg hG 5 [7, 8] (t' := [(7, .sl 53 (List.map Act.av [({ Kind := 2, Port := 0, Field := 4, Value := 5 } : Act), ({ Kind := 1, Port := 2, Field := 0, Value := 0 } : Act), ({ Kind := 3, Port := 0, Field := 0, Value := 0 } : Act)]) true), (8, .arr .u64 12 [0, 0, 0, 0, 0, 0, 0, 0, 0, 0, 0, 0])]) (h' := []) (by kernel_rfl) rfl ?_
  refine DK.op' [9] (t' := [(9, .tup [.sl 59 (List.map Send.av ((runA [({ Kind := 2, Port := 0, Field := 4, Value := 5 } : Act), ({ Kind := 1, Port := 2, Field := 0, Value := 0 } : Act), ({ Kind := 3, Port := 0, Field := 0, Value := 0 } : Act)] [0, 0, 0, 0, 0, 0, 0, 0, 0, 0, 0, 0]).1)) false, .sc (.bool ((runA [({ Kind := 2, Port := 0, Field := 4, Value := 5 } : Act), ({ Kind := 1, Port := 2, Field := 0, Value := 0 } : Act), ({ Kind := 3, Port := 0, Field := 0, Value := 0 } : Act)] [0, 0, 0, 0, 0, 0, 0, 0, 0, 0, 0, 0]).2))])]) (h' := []) (LSpec.callP' (act_Run_ok [({ Kind := 2, Port := 0, Field := 4, Value := 5 } : Act), ({ Kind := 1, Port := 2, Field := 0, Value := 0 } : Act), ({ Kind := 3, Port := 0, Field := 0, Value := 0 } : Act)] [0, 0, 0, 0, 0, 0, 0, 0, 0, 0, 0, 0] true) (by kernel_rfl)) (by kernel_rfl) rfl (by kernel_rfl) rfl ?_
  refine DK.seg hG 5 [1, 2] (t' := [(1, .sl 59 (List.map Send.av ((runA [({ Kind := 2, Port := 0, Field := 4, Value := 5 } : Act), ({ Kind := 1, Port := 2, Field := 0, Value := 0 } : Act), ({ Kind := 3, Port := 0, Field := 0, Value := 0 } : Act)] [0, 0, 0, 0, 0, 0, 0, 0, 0, 0, 0, 0]).1)) false), (2, .sc (.bool ((runA [({ Kind := 2, Port := 0, Field := 4, Value := 5 } : Act), ({ Kind := 1, Port := 2, Field := 0, Value := 0 } : Act), ({ Kind := 3, Port := 0, Field := 0, Value := 0 } : Act)] [0, 0, 0, 0, 0, 0, 0, 0, 0, 0, 0, 0]).2)))]) (h' := []) (by kernel_rfl) rfl ?_
  refine DK.done (by kernel_rfl) (by kernel_rfl) ?_
  refine AR.seg hG hm 1 [1, 2] (k' := [.code [1, 1, 0], .code [1, 1, 1]]) (t' := [(1, .sl 59 (List.map Send.av ((runA [({ Kind := 2, Port := 0, Field := 4, Value := 5 } : Act), ({ Kind := 1, Port := 2, Field := 0, Value := 0 } : Act), ({ Kind := 3, Port := 0, Field := 0, Value := 0 } : Act)] [0, 0, 0, 0, 0, 0, 0, 0, 0, 0, 0, 0]).1)) false), (2, .sc (.bool ((runA [({ Kind := 2, Port := 0, Field := 4, Value := 5 } : Act), ({ Kind := 1, Port := 2, Field := 0, Value := 0 } : Act), ({ Kind := 3, Port := 0, Field := 0, Value := 0 } : Act)] [0, 0, 0, 0, 0, 0, 0, 0, 0, 0, 0, 0]).2)))]) (h' := []) (by kernel_rfl) ?_
  refine AR.reg hm podestalaw04_answers_k1 (by kernel_rfl) ?_
  refine DK.seg hG 2 [1, 13] (t' := [(1, .sl 59 (List.map Send.av ((runA [({ Kind := 2, Port := 0, Field := 4, Value := 5 } : Act), ({ Kind := 1, Port := 2, Field := 0, Value := 0 } : Act), ({ Kind := 3, Port := 0, Field := 0, Value := 0 } : Act)] [0, 0, 0, 0, 0, 0, 0, 0, 0, 0, 0, 0]).1)) false), (13, .sc (.bool ((runA [({ Kind := 2, Port := 0, Field := 4, Value := 5 } : Act), ({ Kind := 1, Port := 2, Field := 0, Value := 0 } : Act), ({ Kind := 3, Port := 0, Field := 0, Value := 0 } : Act)] [0, 0, 0, 0, 0, 0, 0, 0, 0, 0, 0, 0]).2)))]) (h' := []) (by kernel_rfl) rfl ?_
  refine DK.mux 13 ((runA [({ Kind := 2, Port := 0, Field := 4, Value := 5 } : Act), ({ Kind := 1, Port := 2, Field := 0, Value := 0 } : Act), ({ Kind := 3, Port := 0, Field := 0, Value := 0 } : Act)] [0, 0, 0, 0, 0, 0, 0, 0, 0, 0, 0, 0]).2) (j := 6) (h' := []) (by kernel_rfl) (fun z => [(1, .sl 59 (List.map Send.av ((runA [({ Kind := 2, Port := 0, Field := 4, Value := 5 } : Act), ({ Kind := 1, Port := 2, Field := 0, Value := 0 } : Act), ({ Kind := 3, Port := 0, Field := 0, Value := 0 } : Act)] [0, 0, 0, 0, 0, 0, 0, 0, 0, 0, 0, 0]).1)) false), (17, .sc (.bool (z && ((((List.map Send.av ((runA [({ Kind := 2, Port := 0, Field := 4, Value := 5 } : Act), ({ Kind := 1, Port := 2, Field := 0, Value := 0 } : Act), ({ Kind := 3, Port := 0, Field := 0, Value := 0 } : Act)] [0, 0, 0, 0, 0, 0, 0, 0, 0, 0, 0, 0]).1)).length : Nat) : Int) == 1))))]) ?J1 (fun hb J => ?ht1) (fun hb J => ?hf1)
  case ht1 =>
    exact DK.seg hG 4 [1, 17] (by kernel_rfl) rfl J
  case hf1 =>
    exact DK.seg hG 4 [1, 17] (by kernel_rfl) rfl J
  refine DK.seg hG 1 [1, 18] (t' := [(1, .sl 59 (List.map Send.av ((runA [({ Kind := 2, Port := 0, Field := 4, Value := 5 } : Act), ({ Kind := 1, Port := 2, Field := 0, Value := 0 } : Act), ({ Kind := 3, Port := 0, Field := 0, Value := 0 } : Act)] [0, 0, 0, 0, 0, 0, 0, 0, 0, 0, 0, 0]).1)) false), (18, .sc (.bool ((runA [({ Kind := 2, Port := 0, Field := 4, Value := 5 } : Act), ({ Kind := 1, Port := 2, Field := 0, Value := 0 } : Act), ({ Kind := 3, Port := 0, Field := 0, Value := 0 } : Act)] [0, 0, 0, 0, 0, 0, 0, 0, 0, 0, 0, 0]).2 && ((((List.map Send.av ((runA [({ Kind := 2, Port := 0, Field := 4, Value := 5 } : Act), ({ Kind := 1, Port := 2, Field := 0, Value := 0 } : Act), ({ Kind := 3, Port := 0, Field := 0, Value := 0 } : Act)] [0, 0, 0, 0, 0, 0, 0, 0, 0, 0, 0, 0]).1)).length : Nat) : Int) == 1))))]) (h' := []) (by kernel_rfl) rfl ?_
  refine DK.split 18 ((runA [({ Kind := 2, Port := 0, Field := 4, Value := 5 } : Act), ({ Kind := 1, Port := 2, Field := 0, Value := 0 } : Act), ({ Kind := 3, Port := 0, Field := 0, Value := 0 } : Act)] [0, 0, 0, 0, 0, 0, 0, 0, 0, 0, 0, 0]).2 && ((((List.map Send.av ((runA [({ Kind := 2, Port := 0, Field := 4, Value := 5 } : Act), ({ Kind := 1, Port := 2, Field := 0, Value := 0 } : Act), ({ Kind := 3, Port := 0, Field := 0, Value := 0 } : Act)] [0, 0, 0, 0, 0, 0, 0, 0, 0, 0, 0, 0]).1)).length : Nat) : Int) == 1)) (by kernel_rfl) (fun hb => ?ht2) (fun hb => ?hf2)
  case ht2 =>
    replace H := cond_t hb H
    refine DK.seg hG 1 [1, 18, 19] (t' := [(1, .sl 59 (List.map Send.av ((runA [({ Kind := 2, Port := 0, Field := 4, Value := 5 } : Act), ({ Kind := 1, Port := 2, Field := 0, Value := 0 } : Act), ({ Kind := 3, Port := 0, Field := 0, Value := 0 } : Act)] [0, 0, 0, 0, 0, 0, 0, 0, 0, 0, 0, 0]).1)) false), (18, .sc (.bool true)), (19, .sl 59 (List.map Send.av ((runA [({ Kind := 2, Port := 0, Field := 4, Value := 5 } : Act), ({ Kind := 1, Port := 2, Field := 0, Value := 0 } : Act), ({ Kind := 3, Port := 0, Field := 0, Value := 0 } : Act)] [0, 0, 0, 0, 0, 0, 0, 0, 0, 0, 0, 0]).1)) false)]) (h' := []) (by kernel_rfl) rfl ?_
    obtain ⟨x, hv, H⟩ := Option.bind_eq_some_iff.1 H
    refine DK.op' [1, 18, 20] (t' := [(1, .sl 59 (List.map Send.av ((runA [({ Kind := 2, Port := 0, Field := 4, Value := 5 } : Act), ({ Kind := 1, Port := 2, Field := 0, Value := 0 } : Act), ({ Kind := 3, Port := 0, Field := 0, Value := 0 } : Act)] [0, 0, 0, 0, 0, 0, 0, 0, 0, 0, 0, 0]).1)) false), (18, .sc (.bool true)), (20, .ep [.sc (.int .i64 x.Port), .arr .u64 12 x.Head] 0 none)]) (h' := []) (LSpec.index' (r := Send.av x) (fs := [.sc (.int .i64 x.Port), .arr .u64 12 x.Head]) hG (rows := List.map Send.av ((runA [({ Kind := 2, Port := 0, Field := 4, Value := 5 } : Act), ({ Kind := 1, Port := 2, Field := 0, Value := 0 } : Act), ({ Kind := 3, Port := 0, Field := 0, Value := 0 } : Act)] [0, 0, 0, 0, 0, 0, 0, 0, 0, 0, 0, 0]).1)) (j := 0) (by kernel_rfl) (ixO_map hv _) (by kernel_rfl)) (by kernel_rfl) rfl (by kernel_rfl) rfl ?_
    refine DK.seg hG 5 [1, 25] (t' := [(1, .sl 59 (List.map Send.av ((runA [({ Kind := 2, Port := 0, Field := 4, Value := 5 } : Act), ({ Kind := 1, Port := 2, Field := 0, Value := 0 } : Act), ({ Kind := 3, Port := 0, Field := 0, Value := 0 } : Act)] [0, 0, 0, 0, 0, 0, 0, 0, 0, 0, 0, 0]).1)) false), (25, .sc (.bool (x.Port == 2)))]) (h' := []) (by kernel_rfl) rfl ?_
    refine DK.split 25 (x.Port == 2) (by kernel_rfl) (fun hb => ?ht3) (fun hb => ?hf3)
    case ht3 =>
      replace H := cond_t hb H
      refine DK.seg hG 1 [25, 26] (t' := [(25, .sc (.bool true)), (26, .sl 59 (List.map Send.av ((runA [({ Kind := 2, Port := 0, Field := 4, Value := 5 } : Act), ({ Kind := 1, Port := 2, Field := 0, Value := 0 } : Act), ({ Kind := 3, Port := 0, Field := 0, Value := 0 } : Act)] [0, 0, 0, 0, 0, 0, 0, 0, 0, 0, 0, 0]).1)) false)]) (h' := []) (by kernel_rfl) rfl ?_
      obtain ⟨x1, hv, H⟩ := Option.bind_eq_some_iff.1 H
      refine DK.op' [25, 27] (t' := [(25, .sc (.bool true)), (27, .ep [.sc (.int .i64 x1.Port), .arr .u64 12 x1.Head] 0 none)]) (h' := []) (LSpec.index' (r := Send.av x1) (fs := [.sc (.int .i64 x1.Port), .arr .u64 12 x1.Head]) hG (rows := List.map Send.av ((runA [({ Kind := 2, Port := 0, Field := 4, Value := 5 } : Act), ({ Kind := 1, Port := 2, Field := 0, Value := 0 } : Act), ({ Kind := 3, Port := 0, Field := 0, Value := 0 } : Act)] [0, 0, 0, 0, 0, 0, 0, 0, 0, 0, 0, 0]).1)) (j := 0) (by kernel_rfl) (ixO_map hv _) (by kernel_rfl)) (by kernel_rfl) rfl (by kernel_rfl) rfl ?_
      refine DK.seg hG 1 [25, 28] (t' := [(25, .sc (.bool true)), (28, .ep [.sc (.int .i64 x1.Port), .arr .u64 12 x1.Head] 1 none)]) (h' := []) (by kernel_rfl) rfl ?_
      have hreq : (decide (0 ≤ 4) && decide (4 < ((12 : Nat) : Int))) = true := by decide
      refine DK.op' [25, 29] (t' := [(25, .sc (.bool true)), (29, .ep [.sc (.int .i64 x1.Port), .arr .u64 12 x1.Head] 1 (some (4, 12)))]) (h' := []) (LSpec.idxEp (fs := [.sc (.int .i64 x1.Port), .arr .u64 12 x1.Head]) (off := 1) (m := 12) (j := 4) hG hreq (by kernel_rfl)) (by kernel_rfl) rfl (by kernel_rfl) rfl ?_
      refine DK.seg hG 4 [0] (t' := [(0, .sc (.bool ((x1.Head.getD (4) 0) == 5)))]) (h' := []) (by kernel_rfl) rfl ?_
      refine DK.done (by kernel_rfl) (by kernel_rfl) ?_
      obtain rfl := Option.some.inj H
      exact AR.ret0 (fn := Try.f21) hG Try.func21 (by kernel_rfl) hc0 (r0 := .sc (.bool ((x1.Head.getD (4) 0) == 5))) (by kernel_rfl) (WkV.refl _)
    case hf3 =>
      replace H := cond_f hb H
      refine DK.seg hG 8 [0] (t' := [(0, .sc (.bool false))]) (h' := []) (by kernel_rfl) rfl ?_
      refine DK.done (by kernel_rfl) (by kernel_rfl) ?_
      obtain rfl := Option.some.inj H
      exact AR.ret0 (fn := Try.f21) hG Try.func21 (by kernel_rfl) hc0 (r0 := .sc (.bool false)) (by kernel_rfl) (WkV.refl _)
  case hf2 =>
    replace H := cond_f hb H
    refine DK.seg hG 15 [0] (t' := [(0, .sc (.bool false))]) (h' := []) (by kernel_rfl) rfl ?_
    refine DK.done (by kernel_rfl) (by kernel_rfl) ?_
    obtain rfl := Option.some.inj H
    exact AR.ret0 (fn := Try.f21) hG Try.func21 (by kernel_rfl) hc0 (r0 := .sc (.bool false)) (by kernel_rfl) (WkV.refl _)

theorem podestalaw04_answers_ok : ACalls Try.prog tab.S 21 [] [] (.sc (.bool true)) [] := podestalaw04_answers_walk true (by kernel_rfl)
/-! ### podestaref01.Head: function 26 -/
noncomputable def podestaref01_Head_F : Go.Sh.Fn := ⟨26, bodyOf Try.f26, 15⟩
def podestaref01_Head_k0 : List Kd := [.pure, .pure, .read, .pure, .pure, .pure, .pure]
def podestaref01_Head_l0s (h1 : List Int) : Nat → Nat → Sum (Unit) (Bool)
  | 0, i =>
    (.inl ())
  | rest + 1, i =>
    (bif (!(podestaref01_Fits (h1.getD (i) 0) (sizeT ((i : Nat) : Int)))) then
      (.inr false)
    else
      podestaref01_Head_l0s h1 rest (i + 1) )
theorem podestaref01_Head_l0_walk (h1 : List Int) (r : Bool) (c0 : Ctx) (hc0 : c0.m.length = 0) (res : Sum (Unit) (Bool)) (J : ∀ w : Unit, res = .inl w → AR Try.prog tab podestaref01_Head_F c0 (Rp tab.S c0 (.sc (.bool r)) []) [.code [1, 1]] [] [.box 43 [.arr .u64 12 h1]]) (Jr : ∀ w, res = .inr w → w = r) :
    ∀ (rest : Nat) (i : Nat) (hd : i + rest = 12) (H : podestaref01_Head_l0s h1 rest i = res), AR Try.prog tab podestaref01_Head_F c0 (Rp tab.S c0 (.sc (.bool r)) []) [.code [1, 0, 1, 0, 0], .loop [1, 0, 1, 0], .blk 0, .code [1, 1]] [(1, .ptr 0 0 none), (3, .sc (.int .i64 ((i : Nat) : Int)))] [.box 43 [.arr .u64 12 h1]] := by
  have hG := tab_ok
  have hm := mixed
  intro rest
  induction rest with
  | zero =>
    intro i hd  H
    rw [podestaref01_Head_l0s] at H
    have hc : (decide (((i : Nat) : Int) < 12)) = false := decide_eq_false (by omega)
    refine AR.seg hG hm 3 [1, 3, 5] (k' := [.code [1, 0, 1, 0, 0, 0, 1], .code [1, 0, 1, 0, 0, 1], .loop [1, 0, 1, 0], .blk 0, .code [1, 1]]) (t' := [(1, .ptr 0 0 none), (3, .sc (.int .i64 ((i : Nat) : Int))), (5, .sc (.bool (decide (((i : Nat) : Int) < 12))))]) (h' := [.box 43 [.arr .u64 12 h1]]) (by kernel_rfl) ?_
    refine AR.cond (.tmp 5) (decide (((i : Nat) : Int) < 12)) (by kernel_rfl) (by kernel_rfl) (fun hb => ?ht7) (fun hb => ?hf7)
    case ht7 => exact absurd (hb.symm.trans hc) (by decide)
    case hf7 =>
      refine AR.seg hG hm 1 [] (k' := [.code [1, 1]]) (t' := []) (h' := [.box 43 [.arr .u64 12 h1]]) (by kernel_rfl) ?_
      refine AR.keep [] (t' := []) (by kernel_rfl) ?_
      exact J () H.symm
  | succ rest ih =>
    intro i hd  H
    rw [podestaref01_Head_l0s] at H
    have hlt_i : i < 12 := by omega
    have hc : (decide (((i : Nat) : Int) < 12)) = true := decide_eq_true (by omega)
    have hw : IntKind.i64.wrap (((i : Nat) : Int) + 1) = ((i + 1 : Nat) : Int) := wrapI_succ (by omega)
    refine AR.seg hG hm 3 [1, 3, 5] (k' := [.code [1, 0, 1, 0, 0, 0, 1], .code [1, 0, 1, 0, 0, 1], .loop [1, 0, 1, 0], .blk 0, .code [1, 1]]) (t' := [(1, .ptr 0 0 none), (3, .sc (.int .i64 ((i : Nat) : Int))), (5, .sc (.bool (decide (((i : Nat) : Int) < 12))))]) (h' := [.box 43 [.arr .u64 12 h1]]) (by kernel_rfl) ?_
    refine AR.cond (.tmp 5) (decide (((i : Nat) : Int) < 12)) (by kernel_rfl) (by kernel_rfl) (fun hb => ?ht8) (fun hb => ?hf8)
    case ht8 =>
      refine AR.seg hG hm 4 [1, 3] (k' := [.code [1, 0, 1, 0, 0, 1, 0, 0, 0], .code [1, 0, 1, 0, 0, 1, 0, 0, 1], .blk 1, .code [1, 0, 1, 0, 0, 1, 1], .loop [1, 0, 1, 0], .blk 0, .code [1, 1]]) (t' := [(1, .ptr 0 0 none), (3, .sc (.int .i64 ((i : Nat) : Int)))]) (h' := [.box 43 [.arr .u64 12 h1]]) (by kernel_rfl) ?_
      refine AR.reg hm podestaref01_Head_k0 (by kernel_rfl) ?_
      refine DK.seg hG 1 [1, 3, 8] (t' := [(1, .ptr 0 0 none), (3, .sc (.int .i64 ((i : Nat) : Int))), (8, .sc (.int .i64 ((i : Nat) : Int)))]) (h' := [.box 43 [.arr .u64 12 h1]]) (by kernel_rfl) rfl ?_
      have hreq := idx_in 12 hlt_i (by decide)
      refine DK.op' [1, 3, 9] (t' := [(1, .ptr 0 0 none), (3, .sc (.int .i64 ((i : Nat) : Int))), (9, .ptr 0 0 (some (i, 12)))]) (h' := [.box 43 [.arr .u64 12 h1]]) (LSpec.idxPtr (o := 0) (off := 0) (m := 12) (j := ((i : Nat) : Int)) hG hreq (by kernel_rfl)) (by kernel_rfl) rfl (by kernel_rfl) rfl ?_
      refine DK.seg hG 2 [1, 3, 10, 11] (t' := [(1, .ptr 0 0 none), (3, .sc (.int .i64 ((i : Nat) : Int))), (10, .sc (.int .u64 (h1.getD (i) 0))), (11, .sc (.int .i64 ((i : Nat) : Int)))]) (h' := [.box 43 [.arr .u64 12 h1]]) (by kernel_rfl) rfl ?_
      refine DK.op' [1, 3, 10, 12] (t' := [(1, .ptr 0 0 none), (3, .sc (.int .i64 ((i : Nat) : Int))), (10, .sc (.int .u64 (h1.getD (i) 0))), (12, .sc (.int .i64 (sizeT ((i : Nat) : Int))))]) (h' := [.box 43 [.arr .u64 12 h1]]) (LSpec.callP' (podestaref01_Size_ok ((i : Nat) : Int)) (by kernel_rfl)) (by kernel_rfl) rfl (by kernel_rfl) rfl ?_
      refine DK.op' [1, 3, 13] (t' := [(1, .ptr 0 0 none), (3, .sc (.int .i64 ((i : Nat) : Int))), (13, .sc (.bool (podestaref01_Fits (h1.getD (i) 0) (sizeT ((i : Nat) : Int)))))]) (h' := [.box 43 [.arr .u64 12 h1]]) (LSpec.callP' (podestaref01_Fits_calls (h1.getD (i) 0) (sizeT ((i : Nat) : Int))) (by kernel_rfl)) (by kernel_rfl) rfl (by kernel_rfl) rfl ?_
      refine DK.seg hG 1 [1, 3, 14] (t' := [(1, .ptr 0 0 none), (3, .sc (.int .i64 ((i : Nat) : Int))), (14, .sc (.bool (!(podestaref01_Fits (h1.getD (i) 0) (sizeT ((i : Nat) : Int))))))]) (h' := [.box 43 [.arr .u64 12 h1]]) (by kernel_rfl) rfl ?_
      refine DK.done (by kernel_rfl) (by kernel_rfl) ?_
      refine AR.cond (.tmp 14) (!(podestaref01_Fits (h1.getD (i) 0) (sizeT ((i : Nat) : Int)))) (by kernel_rfl) (by kernel_rfl) (fun hb => ?ht9) (fun hb => ?hf9)
      case ht9 =>
        replace H := cond_t hb H
        refine AR.seg hG hm 2 [2] (k' := [.code [1, 0, 1, 0, 0, 1, 0, 0, 1, 0, 1], .blk 1, .code [1, 0, 1, 0, 0, 1, 1], .loop [1, 0, 1, 0], .blk 0, .code [1, 1]]) (t' := [(2, .sc (.bool false))]) (h' := [.box 43 [.arr .u64 12 h1]]) (by kernel_rfl) ?_
        subst H
        obtain rfl := Jr _ rfl
        exact AR.ret0 (fn := Try.f26) hG Try.func26 (by kernel_rfl) hc0 (r0 := .sc (.bool false)) (by kernel_rfl) (WkV.refl _)
      case hf9 =>
        replace H := cond_f hb H
        refine AR.seg hG hm 3 [1, 3] (k' := [.loop [1, 0, 1, 0], .blk 0, .code [1, 1]]) (t' := [(1, .ptr 0 0 none), (3, .sc (.int .i64 (IntKind.i64.wrap (((i : Nat) : Int) + 1))))]) (h' := [.box 43 [.arr .u64 12 h1]]) (by kernel_rfl) ?_
        refine AR.keep [1, 3] (t' := [(1, .ptr 0 0 none), (3, .sc (.int .i64 (IntKind.i64.wrap (((i : Nat) : Int) + 1))))]) (by kernel_rfl) ?_
        refine AR.loop_round ?_
        rw [hw]
        exact ih (i + 1) (by omega) H
    case hf8 => exact absurd (hc.symm.trans hb) (by decide)

def podestaref01_Head (h1 : List Int) : Bool :=
  sumG (fun q => q) (podestaref01_Head_l0s h1 12 0) fun v =>
  true
theorem podestaref01_Head_walk (h1 : List Int) (r : Bool) (H : podestaref01_Head h1 = r) :
    ACalls Try.prog tab.S 26 [.arr .u64 12 h1] [] (.sc (.bool r)) [] := by
  have hG := tab_ok
  have hm := mixed
  refine ACalls.of_AR (G := tab) podestaref01_Head_F (fn := Try.f26) Try.func26 (by kernel_rfl) (by kernel_rfl) (by kernel_rfl) (Nat.le_of_ble_eq_true (by kernel_rfl)) ?_
  intro c0 hc0
  replace hc0 : c0.m.length = 0 := hc0
  rw [podestaref01_Head] at H
  refine AR.seg hG hm 6 [1, 3] (k' := [.code [1, 0, 1, 0], .blk 0, .code [1, 1]]) (t' := [(1, .ptr 0 0 none), (3, .sc (.int .i64 0))]) (h' := [.box 43 [.arr .u64 12 h1]]) (by kernel_rfl) ?_
  rcases sumG_eq H with ⟨v, hv, H⟩ | ⟨r1, hv, hr1⟩
  case inr =>
    refine AR.into (by kernel_rfl) ?_
    replace hr1 : r1 = r := hr1
    subst hr1
    exact podestaref01_Head_l0_walk h1 _ c0 hc0 (.inr _) (fun _ e => by cases e) (fun _ e => (Sum.inr.inj e).symm) 12 0 rfl hv
  refine AR.into (by kernel_rfl) ?_
  refine podestaref01_Head_l0_walk h1 r c0 hc0 (.inl v) (fun w e => ?_) (fun _ e => by cases e) 12 0 rfl hv
  have e := Sum.inl.inj e
  subst e
  refine AR.seg hG hm 2 [2] (k' := [.code [1, 1, 1]]) (t' := [(2, .sc (.bool true))]) (h' := [.box 43 [.arr .u64 12 h1]]) (by kernel_rfl) ?_
  subst H
  exact AR.ret0 (fn := Try.f26) hG Try.func26 (by kernel_rfl) hc0 (r0 := .sc (.bool true)) (by kernel_rfl) (WkV.refl _)
theorem podestaref01_Head_calls (h1 : List Int) : ACalls Try.prog tab.S 26 [.arr .u64 12 h1] [] (.sc (.bool (podestaref01_Head h1))) [] := podestaref01_Head_walk h1 _ rfl

def HeadOk (h : List Int) : Bool := (List.range' 0 12).all fun i => fitsT ((i : Nat) : Int) (h.getD i 0)
theorem refHead_l0s_eq (h : List Int) : ∀ (n i : Nat), podestaref01_Head_l0s h n i = if (List.range' i n).all (fun i => fitsT ((i : Nat) : Int) (h.getD i 0)) then .inl () else .inr false
  | 0, i => rfl
  | n + 1, i => by
      rw [podestaref01_Head_l0s, refFits_eq, refHead_l0s_eq h n (i + 1), List.range'_succ, List.all_cons]
      cases fitsT ((i : Nat) : Int) (h.getD i 0)
      · rfl
      · simp only [Bool.not_true, cond_false, Bool.true_and]
theorem refHead_eq (h : List Int) : podestaref01_Head h = HeadOk h := by
  unfold podestaref01_Head HeadOk
  rw [refHead_l0s_eq]
  cases (List.range' 0 12).all _ <;> rfl

end Go.Proofs.Ytjchejmakdkioab
