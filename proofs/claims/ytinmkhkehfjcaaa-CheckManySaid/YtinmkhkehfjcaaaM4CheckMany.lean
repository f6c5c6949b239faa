import Derived.Test.YtinmkhkehfjcaaaProg
import Derived.Test.YtinmkhkehfjcaaaM3CheckMany
set_option linter.unusedVariables false
set_option linter.unusedSimpArgs false
set_option maxRecDepth 100000
set_option maxHeartbeats 4000000
namespace Go.Proofs.Ytinmkhkehfjcaaa
open Go.Sh
def tab : Go.Sh.Tab := [
  (1, ⟨.other, 1, 8, [.sc .nilFunc]⟩),
  (2, ⟨.int .i64, 1, 8, [.sc (.int .i64 0)]⟩),
  (3, ⟨.int .i64, 1, 8, [.sc (.int .i64 0)]⟩),
  (4, ⟨.bool, 1, 1, [.sc (.bool false)]⟩),
  (5, ⟨.int .u8, 1, 1, [.sc (.int .u8 0)]⟩),
  (9, ⟨.str, 1, 16, [.sc (.string ⟨#[]⟩)]⟩),
  (12, ⟨.int .u64, 1, 8, [.sc (.int .u64 0)]⟩),
  (13, ⟨.struct [(0, 9), (1, 12)], 2, 24, [.sc (.string ⟨#[]⟩), .sc (.int .u64 0)]⟩),
  (21, ⟨.int .i32, 1, 4, [.sc (.int .i32 0)]⟩),
  (22, ⟨.other, 1, 8, [.sc .nilFunc]⟩),
  (23, ⟨.slice 9, 1, 24, [.sl 0 [] true]⟩),
  (24, ⟨.other, 1, 8, [.sc .nilFunc]⟩),
  (25, ⟨.other, 1, 8, [.sc .nilFunc]⟩),
  (26, ⟨.slice 5, 1, 24, [.sl 0 [] true]⟩),
  (27, ⟨.slice 29, 1, 24, [.sl 0 [] true]⟩),
  (28, ⟨.struct [(0, 3), (1, 9), (2, 3), (3, 27), (4, 3)], 5, 64, [.sc (.int .i64 0), .sc (.string ⟨#[]⟩), .sc (.int .i64 0), .sl 0 [] true, .sc (.int .i64 0)]⟩),
  (29, ⟨.struct [(0, 3), (1, 9), (2, 3), (3, 27), (4, 3)], 5, 64, [.sc (.int .i64 0), .sc (.string ⟨#[]⟩), .sc (.int .i64 0), .sl 0 [] true, .sc (.int .i64 0)]⟩),
  (30, ⟨.int .i64, 1, 8, [.sc (.int .i64 0)]⟩),
  (31, ⟨.struct [(0, 30), (1, 3)], 2, 16, [.sc (.int .i64 0), .sc (.int .i64 0)]⟩),
  (32, ⟨.struct [(0, 30), (1, 3)], 2, 16, [.sc (.int .i64 0), .sc (.int .i64 0)]⟩),
  (34, ⟨.other, 1, 8, [.sc .nilFunc]⟩),
  (35, ⟨.other, 1, 8, [.sc .nilFunc]⟩),
  (36, ⟨.other, 1, 8, [.sc .nilFunc]⟩),
  (38, ⟨.other, 1, 8, [.sc .nilFunc]⟩),
  (39, ⟨.slice 66, 1, 24, [.sl 0 [] true]⟩),
  (41, ⟨.other, 1, 8, [.sc .nilFunc]⟩),
  (42, ⟨.ptr 44, 1, 8, [.sc (.pointer none)]⟩),
  (43, ⟨.struct [(0, 39), (1, 3), (2, 3), (3, 3), (4, 32)], 6, 64, [.sl 0 [] true, .sc (.int .i64 0), .sc (.int .i64 0), .sc (.int .i64 0), .sc (.int .i64 0), .sc (.int .i64 0)]⟩),
  (44, ⟨.struct [(0, 39), (1, 3), (2, 3), (3, 3), (4, 32)], 6, 64, [.sl 0 [] true, .sc (.int .i64 0), .sc (.int .i64 0), .sc (.int .i64 0), .sc (.int .i64 0), .sc (.int .i64 0)]⟩),
  (45, ⟨.other, 1, 8, [.sc .nilFunc]⟩),
  (46, ⟨.other, 1, 8, [.sc .nilFunc]⟩),
  (47, ⟨.other, 1, 8, [.sc .nilFunc]⟩),
  (48, ⟨.other, 1, 8, [.sc .nilFunc]⟩),
  (49, ⟨.other, 1, 8, [.sc .nilFunc]⟩),
  (50, ⟨.ptr 53, 1, 8, [.sc (.pointer none)]⟩),
  (51, ⟨.other, 1, 8, [.sc (.map none)]⟩),
  (52, ⟨.struct [(0, 51), (1, 9), (2, 32)], 4, 40, [.sc (.map none), .sc (.string ⟨#[]⟩), .sc (.int .i64 0), .sc (.int .i64 0)]⟩),
  (53, ⟨.struct [(0, 51), (1, 9), (2, 32)], 4, 40, [.sc (.map none), .sc (.string ⟨#[]⟩), .sc (.int .i64 0), .sc (.int .i64 0)]⟩),
  (54, ⟨.other, 1, 8, [.sc .nilFunc]⟩),
  (55, ⟨.other, 1, 8, [.sc .nilFunc]⟩),
  (56, ⟨.struct [(0, 9), (1, 3)], 2, 24, [.sc (.string ⟨#[]⟩), .sc (.int .i64 0)]⟩),
  (57, ⟨.struct [(0, 9), (1, 3)], 2, 24, [.sc (.string ⟨#[]⟩), .sc (.int .i64 0)]⟩),
  (58, ⟨.arr 12 57, 24, 288, [.sc (.string ⟨#[]⟩), .sc (.int .i64 0), .sc (.string ⟨#[]⟩), .sc (.int .i64 0), .sc (.string ⟨#[]⟩), .sc (.int .i64 0), .sc (.string ⟨#[]⟩), .sc (.int .i64 0), .sc (.string ⟨#[]⟩), .sc (.int .i64 0), .sc (.string ⟨#[]⟩), .sc (.int .i64 0), .sc (.string ⟨#[]⟩), .sc (.int .i64 0), .sc (.string ⟨#[]⟩), .sc (.int .i64 0), .sc (.string ⟨#[]⟩), .sc (.int .i64 0), .sc (.string ⟨#[]⟩), .sc (.int .i64 0), .sc (.string ⟨#[]⟩), .sc (.int .i64 0), .sc (.string ⟨#[]⟩), .sc (.int .i64 0)]⟩),
  (59, ⟨.other, 1, 8, [.sc .nilFunc]⟩),
  (60, ⟨.other, 1, 8, [.sc .nilFunc]⟩),
  (61, ⟨.slice 57, 1, 24, [.sl 0 [] true]⟩),
  (62, ⟨.other, 1, 8, [.sc .nilFunc]⟩),
  (63, ⟨.other, 1, 8, [.sc .nilFunc]⟩),
  (64, ⟨.other, 1, 8, [.sc .nilFunc]⟩),
  (65, ⟨.struct [(0, 9), (1, 3)], 2, 24, [.sc (.string ⟨#[]⟩), .sc (.int .i64 0)]⟩),
  (66, ⟨.struct [(0, 9), (1, 3)], 2, 24, [.sc (.string ⟨#[]⟩), .sc (.int .i64 0)]⟩),
  (67, ⟨.other, 1, 8, [.sc .nilFunc]⟩),
  (68, ⟨.other, 1, 8, [.sc .nilFunc]⟩),
  (69, ⟨.other, 1, 8, [.sc .nilFunc]⟩),
  (70, ⟨.other, 1, 8, [.sc .nilFunc]⟩),
  (71, ⟨.int .u64, 1, 8, [.sc (.int .u64 0)]⟩),
  (72, ⟨.other, 1, 8, [.sc .nilFunc]⟩),
  (73, ⟨.other, 1, 8, [.sc .nilFunc]⟩),
  (74, ⟨.other, 1, 8, [.sc .nilFunc]⟩),
  (75, ⟨.ptr 29, 1, 8, [.sc (.pointer none)]⟩),
  (76, ⟨.other, 1, 8, [.sc .nilFunc]⟩),
  (77, ⟨.other, 1, 8, [.sc .nilFunc]⟩),
  (78, ⟨.other, 1, 8, [.sc .nilFunc]⟩),
  (79, ⟨.other, 1, 8, [.sc .nilFunc]⟩),
  (80, ⟨.other, 1, 8, [.sc .nilFunc]⟩),
  (81, ⟨.other, 1, 8, [.sc .nilFunc]⟩),
  (82, ⟨.other, 1, 8, [.sc .nilFunc]⟩),
  (83, ⟨.other, 1, 8, [.sc .nilFunc]⟩),
  (84, ⟨.other, 1, 8, [.sc .nilFunc]⟩),
  (85, ⟨.other, 1, 8, [.sc .nilFunc]⟩),
  (91, ⟨.int .u32, 1, 4, [.sc (.int .u32 0)]⟩),
  (94, ⟨.other, 1, 8, [.sc .nilFunc]⟩),
  (95, ⟨.ptr 5, 1, 8, [.sc (.pointer none)]⟩)]

theorem tab_ok : tab.ok Try.prog := Tab.ok_of (by kernel_rfl)
theorem mixed : Try.prog.follows .mixedOrders = true := by kernel_rfl
end Go.Proofs.Ytinmkhkehfjcaaa

set_option linter.unusedVariables false
set_option linter.unusedSimpArgs false
set_option maxRecDepth 100000
set_option maxHeartbeats 4000000
namespace Go.Proofs.Ytinmkhkehfjcaaa
open Go.Sh
instance : Ok Try.prog tab := ⟨tab_ok, mixed⟩
theorem wrap_eq {n : Int} (h1 : -9223372036854775808 ≤ n) (h2 : n ≤ 9223372036854775807) : IntKind.i64.wrap n = n := by
  rw [IntKind.wrap_i64]; omega
theorem wrap_succ {i : Nat} (h : i < 9223372036854775807) : IntKind.i64.wrap ((i : Int) + 1) = ((i + 1 : Nat) : Int) := by
  rw [wrap_eq (by omega) (by omega)]; rfl
theorem ixO_lt {α : Type} {xs : List α} {i : Nat} (h : i < xs.length) : ixO xs (i : Int) = some xs[i] := by
  unfold ixO
  rw [if_pos (by omega), Int.toNat_natCast, List.getElem?_eq_getElem h]
theorem fitO_eq {α : Type} {n b : Nat} {r : Option α} (h : n * b ≤ 140737488355328) : fitO n b r = r := by
  unfold fitO; rw [if_pos h]
theorem reqO_eq {α : Type} {b : Bool} {r : Option α} (h : b = true) : reqO b r = r := by
  subst h; rfl
theorem zero_nat : (0 : Int) = ((0 : Nat) : Int) := rfl
def idxF {α : Type} (f : α → Bool) (l : List α) : Int := match l.findIdx? f with | some i => (i : Int) | none => -1
theorem idxF_any {α : Type} (f : α → Bool) (l : List α) : decide (idxF f l ≥ 0) = l.any f := by
  unfold idxF
  cases h : l.findIdx? f with
  | none =>
    have : l.any f = false := by
      rw [Bool.eq_false_iff]
      intro ha
      obtain ⟨x, hx, hf⟩ := List.any_eq_true.1 ha
      have := List.findIdx?_eq_none_iff.1 h x hx
      rw [hf] at this
      cases this
    rw [this]
    rfl
  | some i =>
    have : l.any f = true := by
      obtain ⟨hlt, hp, _⟩ := List.findIdx?_eq_some_iff_getElem.1 h
      exact List.any_eq_true.2 ⟨l[i], List.getElem_mem hlt, hp⟩
    rw [this]
    simp
theorem findIdx_drop {α : Type} (f : α → Bool) {l : List α} {i : Nat} (h : i < l.length) : (l.drop i).findIdx? f = if f l[i] then some 0 else ((l.drop (i + 1)).findIdx? f).map (· + 1) := by
  rw [List.drop_eq_getElem_cons h, List.findIdx?_cons]
def zipAll {α β : Type} (f : α → β → Bool) : List α → List β → Bool
  | [], [] => true
  | x :: l, y :: r => f x y && zipAll f l r
  | _, _ => false
theorem zipAll_beq {α : Type} [DecidableEq α] : ∀ (l r : List α), zipAll (fun x y => x == y) l r = (l == r)
  | [], [] => rfl
  | x :: l, y :: r => by
      rw [zipAll, zipAll_beq l r]
      rfl
  | [], _ :: _ => rfl
  | _ :: _, [] => rfl
theorem zipAll_len {α β : Type} {f : α → β → Bool} : ∀ {l : List α} {r : List β}, zipAll f l r = true → l.length = r.length
  | [], [], _ => rfl
  | x :: l, y :: r, h => by
      rw [zipAll, Bool.and_eq_true] at h
      rw [List.length_cons, List.length_cons, zipAll_len h.2]
  | [], _ :: _, h => by cases h
  | _ :: _, [], h => by cases h
/-- two lists side by side -/
theorem cmp_loop {α β ε ρ : Type} {e : ε} {v : ρ} (L : List α → Nat → Option (Sum ε ρ)) (s2 : List β) (f : α → β → Bool) (h0 : ∀ i, L [] i = some (.inl e)) (h1 : ∀ x rest i, L (x :: rest) i = (ixO s2 ((i : Nat) : Int)).bind fun x1 => bif (!(f x x1)) then some (.inr v) else L rest (i + 1)) :
    ∀ (l : List α) (i : Nat), l.length + i = s2.length → L l i = some (if zipAll f l (s2.drop i) then .inl e else .inr v)
  | [], i, q => by
      rw [h0, List.drop_eq_nil_of_le (by simp at q; omega)]
      rfl
  | x :: l, i, q => by
      have hlt : i < s2.length := by simp at q; omega
      rw [h1, ixO_lt hlt, Option.bind_some, cmp_loop L s2 f h0 h1 l (i + 1) (by simp at q; omega), List.drop_eq_getElem_cons hlt, zipAll]
      cases f x s2[i]
      · rfl
      · simp only [Bool.not_true, cond_false, Bool.true_and]
theorem len_bne {α β : Type} (f : α → AV) (g : β → AV) (a : List α) (b : List β) : ((((List.map f a).length : Nat) : Int) != (((List.map g b).length : Nat) : Int)) = !decide (a.length = b.length) := by
  rw [List.length_map, List.length_map]
  by_cases h : a.length = b.length
  · rw [h]; simp
  · simp [h]; omega
theorem nil_app {α : Type} (l : List α) : ([] : List α) ++ l = l := rfl
theorem zipAll_refl {α : Type} {f : α → α → Bool} : ∀ {l : List α}, (∀ x ∈ l, f x x = true) → zipAll f l l = true
  | [], _ => rfl
  | x :: l, h => by
      rw [zipAll, h x (by simp), zipAll_refl fun y hy => h y (by simp [hy])]
      rfl

/-! ### The fields' sizes -/
def sizes : List Int := [16, 48, 48, 16, 12, 4, 32, 32, 8, 8, 12, 12]
def sizeT (n : Int) : Int := if 0 ≤ n ∧ n < 12 then sizes.getD n.toNat 0 else 0
theorem sizeT_cases (n : Int) : (¬ (0 ≤ n ∧ n < 12) ∧ sizeT n = 0) ∨ (0 ≤ n ∧ n < 12 ∧ ∃ k : Nat, n = k ∧ k < 12 ∧ sizeT n = sizes.getD k 0) := by
  by_cases h : 0 ≤ n ∧ n < 12
  · refine .inr ⟨h.1, h.2, n.toNat, by omega, by omega, ?_⟩
    unfold sizeT; rw [if_pos h]
  · refine .inl ⟨h, ?_⟩
    unfold sizeT; rw [if_neg h]
theorem sizes_in : ∀ k : Nat, 0 ≤ sizes.getD k 0 ∧ sizes.getD k 0 ≤ 48
  | 0 | 1 | 2 | 3 | 4 | 5 | 6 | 7 | 8 | 9 | 10 | 11 => by decide
  | n + 12 => by
    have : sizes.getD (n + 12) 0 = 0 := rfl
    rw [this]; decide
theorem sizeT_in (n : Int) : 0 ≤ sizeT n ∧ sizeT n ≤ 48 := by
  unfold sizeT
  split
  · exact sizes_in _
  · decide
/-- a number fits a field -/
def fitsT (n v : Int) : Bool := decide (v < 2 ^ (sizeT n).toNat)
theorem pow_le48 {k : Nat} (h : k ≤ 48) : (2 : Int) ^ k ≤ 281474976710656 := by
  have : (2 : Nat) ^ k ≤ 2 ^ 48 := Nat.pow_le_pow_right (by omega) h
  have e : ((2 ^ k : Nat) : Int) = (2 : Int) ^ k := by push_cast; rfl
  rw [← e]
  omega
theorem pow_pos2 (k : Nat) : (0 : Int) < (2 : Int) ^ k := Int.pow_pos (by decide)
theorem wrapU_eq {n : Int} (h1 : 0 ≤ n) (h2 : n < 18446744073709551616) : IntKind.u64.wrap n = n := by
  unfold IntKind.wrap
  simp only [IntKind.signed, IntKind.bits, Bool.false_and, Bool.false_eq_true, if_false]
  omega

structure Token where
  Text : ByteArray
  At : Int
  deriving DecidableEq, Inhabited
def Token.ch (r : Token) : List AV := [.sc (.string r.Text), .sc (.int .i64 r.At)]
def Token.av (r : Token) : AV := .agg [.sc (.string r.Text), .sc (.int .i64 r.At)]
structure Fault where
  E : Int
  At : Int
  deriving DecidableEq, Inhabited
def Fault.ch (r : Fault) : List AV := [.sc (.int .i64 r.E), .sc (.int .i64 r.At)]
def Fault.av (r : Fault) : AV := .agg [.sc (.int .i64 r.E), .sc (.int .i64 r.At)]
structure Field where
  name : ByteArray
  size : Int
  deriving DecidableEq, Inhabited
def Field.ch (r : Field) : List AV := [.sc (.string r.name), .sc (.int .i64 r.size)]
def Field.av (r : Field) : AV := .agg [.sc (.string r.name), .sc (.int .i64 r.size)]

end Go.Proofs.Ytinmkhkehfjcaaa

set_option linter.unusedVariables false
set_option linter.unusedSimpArgs false
set_option maxRecDepth 100000
set_option maxHeartbeats 4000000
namespace Go.Proofs.Ytinmkhkehfjcaaa
open Go.Sh
/-! ### podestaref15.letter: function 27 -/
noncomputable def podestaref15_letter_F : Go.Sh.Fn := ⟨27, bodyOf Try.f27, 21⟩
def podestaref15_letter (c : Int) : Bool :=
  ((((decide (c ≥ 97)) && (decide (c ≤ 122))) || ((decide (c ≥ 65)) && (decide (c ≤ 90)))) || (c == 95))
theorem podestaref15_letter_calls (c : Int) : ACalls Try.prog tab.S 27 [.sc (.int .u8 c)] [] (.sc (.bool (podestaref15_letter c))) [] := by
  generalize H : podestaref15_letter c = r
  refine .of_AX podestaref15_letter_F Try.func27 fun c0 hc0 => ?_
  rw [podestaref15_letter] at H
  refine .sg 3 [0] (.rg (.sg 3 [0,5] (.mx 0 [0,8] (.sg 1 [0,9] (.mm 9 ((decide (c ≥ 97)) && (decide (c ≤ 122))) 7 [.pure, .pure, .pure, .pure, .pure, .pure, .pure] [0, 16] 16 (fun z => .sc (.bool (z || ((decide (c ≥ 65)) && (decide (c ≤ 90)))))) ?J3 (fun hb J => ?ht3) (fun hb J => ?hf3))))))
  case ht3 =>
    exact .sg 7 [0,16] (.cl J)
  case hf3 =>
    exact .sg 3 [0,9,12] (.mx 0 [0,9,15] (.sg 1 [0,16] (.cl J)))
  refine .sg 1 [0,17] (.mx 1 [20] (.sg 1 [2] (.dn ?_)))
  subst H
  exact .ret Try.func27 hc0

/-! ### podestaref15.digit: function 28 -/
noncomputable def podestaref15_digit_F : Go.Sh.Fn := ⟨28, bodyOf Try.f28, 9⟩
def podestaref15_digit (c : Int) : Bool :=
  ((decide (c ≥ 48)) && (decide (c ≤ 57)))
theorem podestaref15_digit_calls (c : Int) : ACalls Try.prog tab.S 28 [.sc (.int .u8 c)] [] (.sc (.bool (podestaref15_digit c))) [] := by
  generalize H : podestaref15_digit c = r
  refine .of_AX podestaref15_digit_F Try.func28 fun c0 hc0 => ?_
  rw [podestaref15_digit] at H
  refine .sg 3 [0] (.rg (.sg 3 [0,5] (.mx 0 [8] (.sg 1 [2] (.dn ?_)))))
  subst H
  exact .ret Try.func28 hc0

/-! ### podestaref15.signs: function 31 -/
noncomputable def podestaref15_signs_F : Go.Sh.Fn := ⟨31, bodyOf Try.f31, 2⟩
def podestaref15_signs : (List ByteArray) :=
  [(ByteArray.mk #[124, 124]), (ByteArray.mk #[38, 38]), (ByteArray.mk #[61, 61]), (ByteArray.mk #[33, 61]), (ByteArray.mk #[60, 61]), (ByteArray.mk #[62, 61]), (ByteArray.mk #[60]), (ByteArray.mk #[62]), (ByteArray.mk #[43]), (ByteArray.mk #[45]), (ByteArray.mk #[42]), (ByteArray.mk #[47]), (ByteArray.mk #[37]), (ByteArray.mk #[33]), (ByteArray.mk #[61]), (ByteArray.mk #[40]), (ByteArray.mk #[41]), (ByteArray.mk #[123]), (ByteArray.mk #[125]), (ByteArray.mk #[91]), (ByteArray.mk #[93]), (ByteArray.mk #[44]), (ByteArray.mk #[59])]
theorem podestaref15_signs_calls : ACalls Try.prog tab.S 31 [] [] (.sl 9 (List.map strA (podestaref15_signs)) true) [] := by
  generalize H : podestaref15_signs = r
  refine .of_AX podestaref15_signs_F Try.func31 fun c0 hc0 => ?_
  rw [podestaref15_signs] at H
  refine .sg 4 [0] ?_
  subst H
  exact .ret Try.func31 hc0

/-! ### podestaref15.Word: function 29 -/
noncomputable def podestaref15_Word_F : Go.Sh.Fn := ⟨29, bodyOf Try.f29, 34⟩
def podestaref15_Word_l0 (s : ByteArray) : Nat → Int → Option (Sum (Unit) (Bool))
  | 0, _ => none
  | m + 1, i =>
    (bif (decide (i < ((s.size : Nat) : Int))) then
    reqO (decide (0 ≤ i) && decide (i < ((s.size : Nat) : Int))) (
    (bif (!(podestaref15_letter (byteAt s i))) then
      (bif (i == 0) then
        some (.inr false)
      else
        reqO (decide (0 ≤ i) && decide (i < ((s.size : Nat) : Int))) (
        (bif (!(podestaref15_digit (byteAt s i))) then
          some (.inr false)
        else
          podestaref15_Word_l0 s m (IntKind.i64.wrap (i + 1)))))
    else
      podestaref15_Word_l0 s m (IntKind.i64.wrap (i + 1))))
  else
    some (.inl ()))
theorem podestaref15_Word_l0_walk (q0 : Nat) (s : ByteArray)  (r : Bool) (c0 : Ctx) (hc0 : c0.m.length = 0) (res : Sum (Unit) (Bool)) (J : ∀ w : Unit, res = .inl w → AX Try.prog tab podestaref15_Word_F c0 (Rp tab.S c0 (.sc (.bool r)) []) (some ⟨[.code [1, 1]], [(0, .sc (.string s))], []⟩)) (Jr : ∀ w, res = .inr w → w = r) :
    ∀ (m : Nat) (i : Int) (H : podestaref15_Word_l0 s m i = some res), AX Try.prog tab podestaref15_Word_F c0 (Rp tab.S c0 (.sc (.bool r)) []) (some ⟨[.code [1, 0, 1, 0, 0], .loop [1, 0, 1, 0], .blk 0, .code [1, 1]], [(0, .sc (.string s)), (3, .sc (.int .i64 i))], []⟩) := by
  intro m
  induction m with
  | zero => intro i H; cases H
  | succ m ih =>
    intro i H
    rw [podestaref15_Word_l0] at H
    refine .sg 3 [0,3,7] (.cd (decide (i < ((s.size : Nat) : Int))) H (fun hb H => ?_) (fun hb H => ?_))
    ·
      refine .sg 4 [0,3] (.rg (.sg 2 [0,3,10,11] (reqH H fun hreq H => (.xs [0,3,12] hreq (.cp [0,3,13] (podestaref15_letter_calls (byteAt s i)) (.sg 2 [0,3,15] (.sp 15 (!(podestaref15_letter (byteAt s i))) H (fun hb H => ?_) (fun hb H => ?_))))))))
      ·
        refine .sg 3 [0,3,15,18] (.sp 18 (i == 0) H (fun hb H => ?_) (fun hb H => ?_))
        ·
          refine .sg 7 [0,3,25] (.dn (.sg 3 [2] ?_))
          obtain rfl := Option.some.inj H
          obtain rfl := Jr _ rfl
          exact .ret Try.func29 hc0
        ·
          refine .sg 2 [0,3,15,18,19,20] (reqH H fun hreq H => (.xs [0,3,15,18,21] hreq (.cp [0,3,15,18,22] (podestaref15_digit_calls (byteAt s i)) (.sg 3 [0,3,25] (.dn (.cd (!(podestaref15_digit (byteAt s i))) H (fun hb H => ?_) (fun hb H => ?_)))))))
          ·
            refine .sg 2 [2] ?_
            obtain rfl := Option.some.inj H
            obtain rfl := Jr _ rfl
            exact .ret Try.func29 hc0
          ·
            exact .sg 3 [0,3] (.kp [0,3] (.into (.to (ih (IntKind.i64.wrap (i + 1)) H))))
      ·
        exact .sg 10 [0,3,25] (.dn (.sg 4 [0,3] (.kp [0,3] (.into (.to (ih (IntKind.i64.wrap (i + 1)) H))))))
    ·
      exact .sg 1 [0] (.kp [0] (.to (J () (Option.some.inj H).symm)))
def podestaref15_Word_raw (q0 : Nat) (s : ByteArray) : Option (Bool) :=
  loopO (podestaref15_Word_l0 s q0 0) fun v =>
  some ((decide (((s.size : Nat) : Int) ≥ 1)) && (decide (((s.size : Nat) : Int) ≤ 32)))
theorem podestaref15_Word_walk (q0 : Nat) (s : ByteArray) (r : Bool) (H : podestaref15_Word_raw q0 s = some r) : ACalls Try.prog tab.S 29 [.sc (.string s)] [] (.sc (.bool r)) [] := by
  refine .of_AX podestaref15_Word_F Try.func29 fun c0 hc0 => ?_
  rw [podestaref15_Word_raw] at H
  refine .sg 6 [0,3] ?_
  rcases loopO_some H with ⟨v, hv, H⟩ | hv
  case inr =>
    exact .into (.to (podestaref15_Word_l0_walk q0 s r c0 hc0 (.inr r) (fun _ e => by cases e) (fun _ e => (Sum.inr.inj e).symm) q0 0 hv))
  refine .into (.to (podestaref15_Word_l0_walk q0 s r c0 hc0 (.inl v) (fun w e => ?_) (fun _ e => by cases e) q0 0 hv))
  have e := Sum.inl.inj e
  subst e
  refine .sg 1 [0] (.rg (.sg 4 [0,29] (.mx 0 [33] (.sg 1 [2] (.dn ?_)))))
  obtain rfl := Option.some.inj H
  exact .ret Try.func29 hc0

/-! ### podestaref15.Digits: function 30 -/
noncomputable def podestaref15_Digits_F : Go.Sh.Fn := ⟨30, bodyOf Try.f30, 35⟩
def podestaref15_Digits_l0 (s : ByteArray) : Nat → Int → Int → Option (Sum (Int) (Bool))
  | 0, _, _ => none
  | m + 1, n, i =>
    (bif (decide (i < ((s.size : Nat) : Int))) then
    reqO (decide (0 ≤ i) && decide (i < ((s.size : Nat) : Int))) (
    (bif ((!(podestaref15_digit (byteAt s i))) || (decide (i ≥ 19))) then
      some (.inr false)
    else
      reqO (decide (0 ≤ i) && decide (i < ((s.size : Nat) : Int))) (
      podestaref15_Digits_l0 s m (IntKind.u64.wrap ((IntKind.u64.wrap (n * 10)) + (IntKind.u64.wrap (IntKind.u8.wrap ((byteAt s i) - 48))))) (IntKind.i64.wrap (i + 1)))))
  else
    some (.inl n))
theorem podestaref15_Digits_l0_walk (q0 : Nat) (s : ByteArray)  (r : Bool) (c0 : Ctx) (hc0 : c0.m.length = 0) (res : Sum (Int) (Bool)) (J : ∀ w : Int, res = .inl w → AX Try.prog tab podestaref15_Digits_F c0 (Rp tab.S c0 (.sc (.bool r)) []) (some ⟨[.code [1, 1, 1]], [(0, .sc (.string s)), (3, .sc (.int .u64 w))], []⟩)) (Jr : ∀ w, res = .inr w → w = r) :
    ∀ (m : Nat) (n : Int) (i : Int) (H : podestaref15_Digits_l0 s m n i = some res), AX Try.prog tab podestaref15_Digits_F c0 (Rp tab.S c0 (.sc (.bool r)) []) (some ⟨[.code [1, 1, 0, 1, 0, 0], .loop [1, 1, 0, 1, 0], .blk 0, .code [1, 1, 1]], [(0, .sc (.string s)), (3, .sc (.int .u64 n)), (4, .sc (.int .i64 i))], []⟩) := by
  intro m
  induction m with
  | zero => intro n i H; cases H
  | succ m ih =>
    intro n i H
    rw [podestaref15_Digits_l0] at H
    refine .sg 3 [0,3,4,8] (.cd (decide (i < ((s.size : Nat) : Int))) H (fun hb H => ?_) (fun hb H => ?_))
    ·
      refine .sg 5 [0,3,4] (.rg (.sg 2 [0,3,4,11,12] (reqH H fun hreq H => (.xs [0,3,4,13] hreq (.cp [0,3,4,14] (podestaref15_digit_calls (byteAt s i)) (.sg 2 [0,3,4,16] (.mx 1 [0,3,4,19] (.dn (.cd ((!(podestaref15_digit (byteAt s i))) || (decide (i ≥ 19))) H (fun hb H => ?_) (fun hb H => ?_))))))))))
      ·
        refine .sg 2 [2] ?_
        obtain rfl := Option.some.inj H
        obtain rfl := Jr _ rfl
        exact .ret Try.func30 hc0
      ·
        exact .sg 1 [0,3,4] (.rg (.sg 4 [0,4,21,22,23] (reqH H fun hreq H => (.xs [0,4,21,24] hreq (.sg 4 [0,3,4] (.dn (.sg 2 [0,3,4] (.kp [0,3,4] (.into (.to (ih (IntKind.u64.wrap ((IntKind.u64.wrap (n * 10)) + (IntKind.u64.wrap (IntKind.u8.wrap ((byteAt s i) - 48))))) (IntKind.i64.wrap (i + 1)) H)))))))))))
    ·
      exact .sg 1 [0,3] (.kp [0,3] (.to (J n (Option.some.inj H).symm)))
def podestaref15_Digits_raw (q0 : Nat) (s : ByteArray) : Option (Bool) :=
  loopO (podestaref15_Digits_l0 s q0 0 0) fun v =>
  some ((decide (((s.size : Nat) : Int) ≥ 1)) && (decide (v < 9223372036854775808)))
theorem podestaref15_Digits_walk (q0 : Nat) (s : ByteArray) (r : Bool) (H : podestaref15_Digits_raw q0 s = some r) : ACalls Try.prog tab.S 30 [.sc (.string s)] [] (.sc (.bool r)) [] := by
  refine .of_AX podestaref15_Digits_F Try.func30 fun c0 hc0 => ?_
  rw [podestaref15_Digits_raw] at H
  refine .sg 8 [0,3,4] ?_
  rcases loopO_some H with ⟨v, hv, H⟩ | hv
  case inr =>
    exact .into (.to (podestaref15_Digits_l0_walk q0 s r c0 hc0 (.inr r) (fun _ e => by cases e) (fun _ e => (Sum.inr.inj e).symm) q0 0 0 hv))
  refine .into (.to (podestaref15_Digits_l0_walk q0 s r c0 hc0 (.inl v) (fun w e => ?_) (fun _ e => by cases e) q0 0 0 hv))
  have e := Sum.inl.inj e
  subst e
  refine .sg 1 [0,3] (.rg (.sg 4 [3,31] (.mx 0 [34] (.sg 1 [2] (.dn ?_)))))
  obtain rfl := Option.some.inj H
  exact .ret Try.func30 hc0

/-! ### podestaref15.Num: function 35 -/
noncomputable def podestaref15_Num_F : Go.Sh.Fn := ⟨35, bodyOf Try.f35, 20⟩
def podestaref15_Num_l0 (s : ByteArray) : Nat → Int → Int → Option (Int)
  | 0, _, _ => none
  | m + 1, n, i =>
    (bif (decide (i < ((s.size : Nat) : Int))) then
    reqO (decide (0 ≤ i) && decide (i < ((s.size : Nat) : Int))) (
    podestaref15_Num_l0 s m (IntKind.i64.wrap ((IntKind.i64.wrap (n * 10)) + (IntKind.i64.wrap (IntKind.u8.wrap ((byteAt s i) - 48))))) (IntKind.i64.wrap (i + 1)))
  else
    some n)
theorem podestaref15_Num_l0_walk (q0 : Nat) (s : ByteArray)  (r : Int) (c0 : Ctx) (hc0 : c0.m.length = 0) (res : Int) (J : AX Try.prog tab podestaref15_Num_F c0 (Rp tab.S c0 (.sc (.int .i64 r)) []) (some ⟨[.code [1, 1, 1]], [(3, .sc (.int .i64 res))], []⟩)) :
    ∀ (m : Nat) (n : Int) (i : Int) (H : podestaref15_Num_l0 s m n i = some res), AX Try.prog tab podestaref15_Num_F c0 (Rp tab.S c0 (.sc (.int .i64 r)) []) (some ⟨[.code [1, 1, 0, 1, 0, 0], .loop [1, 1, 0, 1, 0], .blk 0, .code [1, 1, 1]], [(0, .sc (.string s)), (3, .sc (.int .i64 n)), (4, .sc (.int .i64 i))], []⟩) := by
  intro m
  induction m with
  | zero => intro n i H; cases H
  | succ m ih =>
    intro n i H
    rw [podestaref15_Num_l0] at H
    refine .sg 3 [0,3,4,8] (.cd (decide (i < ((s.size : Nat) : Int))) H (fun hb H => ?_) (fun hb H => ?_))
    ·
      exact .sg 3 [0,3,4] (.rg (.sg 4 [0,4,12,13,14] (reqH H fun hreq H => (.xs [0,4,12,15] hreq (.sg 4 [0,3,4] (.dn (.sg 2 [0,3,4] (.kp [0,3,4] (.into (.to (ih (IntKind.i64.wrap ((IntKind.i64.wrap (n * 10)) + (IntKind.i64.wrap (IntKind.u8.wrap ((byteAt s i) - 48))))) (IntKind.i64.wrap (i + 1)) H)))))))))))
    ·
      refine .sg 1 [3] (.kp [3] ?_)
      obtain rfl := Option.some.inj H
      exact .to J
def podestaref15_Num_raw (q0 : Nat) (s : ByteArray) : Option (Int) :=
  (podestaref15_Num_l0 s q0 0 0).bind fun v =>
  some v
theorem podestaref15_Num_walk (q0 : Nat) (s : ByteArray) (r : Int) (H : podestaref15_Num_raw q0 s = some r) : ACalls Try.prog tab.S 35 [.sc (.string s)] [] (.sc (.int .i64 r)) [] := by
  refine .of_AX podestaref15_Num_F Try.func35 fun c0 hc0 => ?_
  rw [podestaref15_Num_raw] at H
  refine .sg 8 [0,3,4] ?_
  refine bndO H fun v hv H => (.into (.to (podestaref15_Num_l0_walk q0 s r c0 hc0 v ?_ q0 0 0 hv)))
  refine .sg 2 [2] ?_
  obtain rfl := Option.some.inj H
  exact .ret Try.func35 hc0

/-! ### podestaref15.in: function 41 -/
noncomputable def podestaref15_in_F : Go.Sh.Fn := ⟨41, bodyOf Try.f41, 18⟩
def podestaref15_in_l0s (s : ByteArray) : List ByteArray → Sum (Unit) (Bool)
  | [] =>
    (.inl ())
  | x :: rest =>
    (bif (x == s) then
      (.inr true)
    else
      podestaref15_in_l0s s rest )
theorem podestaref15_in_l0_walk (l : List ByteArray) (s : ByteArray) (f_l : Bool) (r : Bool) (c0 : Ctx) (hc0 : c0.m.length = 0) (res : Sum (Unit) (Bool)) (J : ∀ w : Unit, res = .inl w → AX Try.prog tab podestaref15_in_F c0 (Rp tab.S c0 (.sc (.bool r)) []) (some ⟨[.code [1, 1]], [], []⟩)) (Jr : ∀ w, res = .inr w → w = r) :
    ∀ (rest : List ByteArray) (i : Nat) (z : Int) (hI : z = ((i : Nat) : Int)) (hd : l.drop i = rest) (H : podestaref15_in_l0s s rest = res), AX Try.prog tab podestaref15_in_F c0 (Rp tab.S c0 (.sc (.bool r)) []) (some ⟨[.code [1, 0, 1, 0, 0], .loop [1, 0, 1, 0], .blk 0, .code [1, 1]], [(0, .sl 9 (List.map strA l) f_l), (1, .sc (.string s)), (5, .sc (.int .i64 z))], []⟩) := by
  intro rest
  induction rest with
  | nil =>
    intro i z hI hd  H
    subst hI
    rw [podestaref15_in_l0s] at H
    refine .facts 0 fun hf => ?_
    have hlen : l.length ≤ 9223372036854775807 := by have hq := len_ok hf.2.1; rw [List.length_map] at hq; exact hq
    have hge : l.length ≤ i := List.drop_eq_nil_iff.1 hd
    have hc : (decide (((i : Nat) : Int) < (((List.map strA l).length : Nat) : Int))) = false := by rw [List.length_map]; exact decide_eq_false (by omega)
    exact .sg 3 [0,1,5,9] (.cdF hc (.sg 1 [] (.kp [] (.to (J () H.symm)))))
  | cons x rest ih =>
    intro i z hI hd  H
    subst hI
    rw [podestaref15_in_l0s] at H
    refine .facts 0 fun hf => ?_
    have hlen : l.length ≤ 9223372036854775807 := by have hq := len_ok hf.2.1; rw [List.length_map] at hq; exact hq
    obtain ⟨hlt, hv_i, hd2⟩ := drop_cons hd
    have hc : (decide (((i : Nat) : Int) < (((List.map strA l).length : Nat) : Int))) = true := by rw [List.length_map]; exact decide_eq_true (by omega)
    have hw : IntKind.i64.wrap (((i : Nat) : Int) + 1) = ((i + 1 : Nat) : Int) := wrapI_succ (by omega)
    refine .sg 3 [0,1,5,9] (.cdT hc (.sg 4 [0,1,5] (.rg (.sg 2 [0,1,5,12,13] (.xi [0,1,5,14] strA hv_i (.sg 3 [0,1,5,17] (.dn (.cd (x == s) H (fun hb H => ?_) (fun hb H => ?_)))))))))
    ·
      refine .sg 2 [4] ?_
      subst H
      obtain rfl := Jr _ rfl
      exact .ret Try.func41 hc0
    ·
      exact .sg 3 [0,1,5] (.kp [0,1,5] (.into (.cl (ih (i + 1) _ hw hd2 H))))

def podestaref15_in (l : List ByteArray) (s : ByteArray) : Bool :=
  sumG (fun q => q) (podestaref15_in_l0s s l) fun v =>
  false
theorem podestaref15_in_calls (l : List ByteArray) (s : ByteArray) (f_l : Bool) : ACalls Try.prog tab.S 41 [.sl 9 (List.map strA l) f_l, .sc (.string s)] [] (.sc (.bool (podestaref15_in l s))) [] := by
  generalize H : podestaref15_in l s = r
  refine .of_AX podestaref15_in_F Try.func41 fun c0 hc0 => ?_
  rw [podestaref15_in] at H
  refine .sg 6 [0,1,5] ?_
  rcases sumG_eq H with ⟨v, hv, H⟩ | ⟨r1, hv, hr1⟩
  case inr =>
    refine .into ?_
    replace hr1 : r1 = r := hr1
    subst hr1
    exact .to (podestaref15_in_l0_walk l s f_l _ c0 hc0 (.inr _) (fun _ e => by cases e) (fun _ e => (Sum.inr.inj e).symm) l 0 _ rfl rfl hv)
  refine .into (.to (podestaref15_in_l0_walk l s f_l r c0 hc0 (.inl v) (fun w e => ?_) (fun _ e => by cases e) l 0 _ rfl rfl hv))
  have e := Sum.inl.inj e
  subst e
  refine .sg 2 [4] ?_
  subst H
  exact .ret Try.func41 hc0

end Go.Proofs.Ytinmkhkehfjcaaa

set_option linter.unusedVariables false
set_option linter.unusedSimpArgs false
set_option maxRecDepth 100000
set_option maxHeartbeats 4000000
namespace Go.Proofs.Ytinmkhkehfjcaaa
open Go.Sh
/-! ### podestaref15.Scan: function 14 -/
noncomputable def podestaref15_Scan_F : Go.Sh.Fn := ⟨14, bodyOf Try.f14, 165⟩
def podestaref15_Scan_l1 (s : ByteArray) : Nat → Int → Option (Int)
  | 0, _ => none
  | m + 1, i1 =>
    (bif (decide (i1 < ((s.size : Nat) : Int))) then
    reqO (decide (0 ≤ i1) && decide (i1 < ((s.size : Nat) : Int))) (
    (bif ((byteAt s i1) != 10) then
      podestaref15_Scan_l1 s m (IntKind.i64.wrap (i1 + 1))
    else
      some i1))
  else
    some i1)
theorem podestaref15_Scan_l1_walk (q0 : Nat) (q1 : Nat) (q2 : Nat) (q3 : Nat) (q4 : Nat) (q5 : Nat) (s : ByteArray) (i : Int) (out : List Token)  (r : (List Token) × Fault) (c0 : Ctx) (hc0 : c0.m.length = 0) (res : Int) (J : AX Try.prog tab podestaref15_Scan_F c0 (Rp tab.S c0 (.tup [.sl 66 (List.map Token.av r.1) false, Fault.av r.2]) []) (some ⟨[.code [1, 1, 1, 1, 0, 0, 0, 1, 0, 1, 1, 0, 1, 0, 1], .code [1, 1, 1, 1, 0, 0, 0, 1, 0, 1, 1, 1], .blk 1, .loop [1, 1, 1, 1, 0, 0], .blk 0, .code [1, 1, 1, 1, 1]], [(0, .sc (.string s)), (3, .ptr 0 0 none), (4, .own 1 1000000), (5, .sc (.int .i64 res))], [.box 32 [.sc (.int .i64 0), .sc (.int .i64 0)], .row 66 (List.map Token.av out) 1000000 true]⟩)) :
    ∀ (m : Nat) (i1 : Int) (H : podestaref15_Scan_l1 s m i1 = some res), AX Try.prog tab podestaref15_Scan_F c0 (Rp tab.S c0 (.tup [.sl 66 (List.map Token.av r.1) false, Fault.av r.2]) []) (some ⟨[.code [1, 1, 1, 1, 0, 0, 0, 1, 0, 1, 1, 0, 1, 0, 0, 0, 0], .loop [1, 1, 1, 1, 0, 0, 0, 1, 0, 1, 1, 0, 1, 0, 0, 0], .blk 2, .code [1, 1, 1, 1, 0, 0, 0, 1, 0, 1, 1, 0, 1, 0, 1], .code [1, 1, 1, 1, 0, 0, 0, 1, 0, 1, 1, 1], .blk 1, .loop [1, 1, 1, 1, 0, 0], .blk 0, .code [1, 1, 1, 1, 1]], [(0, .sc (.string s)), (3, .ptr 0 0 none), (4, .own 1 1000000), (5, .sc (.int .i64 i1))], [.box 32 [.sc (.int .i64 0), .sc (.int .i64 0)], .row 66 (List.map Token.av out) 1000000 true]⟩) := by
  intro m
  induction m with
  | zero => intro i1 H; cases H
  | succ m ih =>
    intro i1 H
    rw [podestaref15_Scan_l1] at H
    refine .sg 2 [0,3,4,5] (.rg (.sg 5 [0,3,4,5,44] (.sp 44 (decide (i1 < ((s.size : Nat) : Int))) H (fun hb H => ?_) (fun hb H => ?_))))
    ·
      refine .sg 2 [0,3,4,5,44,45,46] (reqH H fun hreq H => (.xs [0,3,4,5,44,47] hreq (.sg 2 [0,3,4,5,49] (.dn (.cd ((byteAt s i1) != 10) H (fun hb H => ?_) (fun hb H => ?_))))))
      ·
        exact .sg 4 [0,3,4,5] (.kp [0,3,4,5] (.into (.to (ih (IntKind.i64.wrap (i1 + 1)) H))))
      ·
        refine .sg 1 [0,3,4,5] (.kp [0,3,4,5] ?_)
        obtain rfl := Option.some.inj H
        exact .to J
    ·
      refine .sg 5 [0,3,4,5,49] (.dn (.sg 2 [0,3,4,5] (.kp [0,3,4,5] ?_)))
      obtain rfl := Option.some.inj H
      exact .to J
def podestaref15_Scan_l2 (s : ByteArray) (i : Int) : Nat → Int → Option (Int)
  | 0, _ => none
  | m + 1, n =>
    (bif (decide ((IntKind.i64.wrap (i + n)) < ((s.size : Nat) : Int))) then
    reqO (decide (0 ≤ (IntKind.i64.wrap (i + n))) && decide ((IntKind.i64.wrap (i + n)) < ((s.size : Nat) : Int))) (
    (bif (podestaref15_digit (byteAt s (IntKind.i64.wrap (i + n)))) then
      podestaref15_Scan_l2 s i m (IntKind.i64.wrap (n + 1))
    else
      (bif (podestaref15_letter (byteAt s i)) then
        reqO (decide (0 ≤ (IntKind.i64.wrap (i + n))) && decide ((IntKind.i64.wrap (i + n)) < ((s.size : Nat) : Int))) (
        (bif (podestaref15_letter (byteAt s (IntKind.i64.wrap (i + n)))) then
          podestaref15_Scan_l2 s i m (IntKind.i64.wrap (n + 1))
        else
          some n))
      else
        some n)))
  else
    some n)
theorem podestaref15_Scan_l2_walk (q0 : Nat) (q1 : Nat) (q2 : Nat) (q3 : Nat) (q4 : Nat) (q5 : Nat) (s : ByteArray) (i : Int) (out : List Token)  (r : (List Token) × Fault) (c0 : Ctx) (hc0 : c0.m.length = 0) (res : Int) (J : AX Try.prog tab podestaref15_Scan_F c0 (Rp tab.S c0 (.tup [.sl 66 (List.map Token.av r.1) false, Fault.av r.2]) []) (some ⟨[.code [1, 1, 1, 1, 0, 0, 0, 1, 0, 1, 1, 1, 1, 0, 1, 0, 1], .code [1, 1, 1, 1, 0, 0, 0, 1, 0, 1, 1, 1, 1, 1], .blk 1, .loop [1, 1, 1, 1, 0, 0], .blk 0, .code [1, 1, 1, 1, 1]], [(0, .sc (.string s)), (3, .ptr 0 0 none), (4, .own 1 1000000), (5, .sc (.int .i64 i)), (7, .sc (.int .i64 res))], [.box 32 [.sc (.int .i64 0), .sc (.int .i64 0)], .row 66 (List.map Token.av out) 1000000 true]⟩)) :
    ∀ (m : Nat) (n : Int) (H : podestaref15_Scan_l2 s i m n = some res), AX Try.prog tab podestaref15_Scan_F c0 (Rp tab.S c0 (.tup [.sl 66 (List.map Token.av r.1) false, Fault.av r.2]) []) (some ⟨[.code [1, 1, 1, 1, 0, 0, 0, 1, 0, 1, 1, 1, 1, 0, 1, 0, 0, 0, 0], .loop [1, 1, 1, 1, 0, 0, 0, 1, 0, 1, 1, 1, 1, 0, 1, 0, 0, 0], .blk 4, .code [1, 1, 1, 1, 0, 0, 0, 1, 0, 1, 1, 1, 1, 0, 1, 0, 1], .code [1, 1, 1, 1, 0, 0, 0, 1, 0, 1, 1, 1, 1, 1], .blk 1, .loop [1, 1, 1, 1, 0, 0], .blk 0, .code [1, 1, 1, 1, 1]], [(0, .sc (.string s)), (3, .ptr 0 0 none), (4, .own 1 1000000), (5, .sc (.int .i64 i)), (6, .sc (.int .u8 (byteAt s i))), (7, .sc (.int .i64 n))], [.box 32 [.sc (.int .i64 0), .sc (.int .i64 0)], .row 66 (List.map Token.av out) 1000000 true]⟩) := by
  intro m
  induction m with
  | zero => intro n H; cases H
  | succ m ih =>
    intro n H
    rw [podestaref15_Scan_l2] at H
    refine .sg 2 [0,3,4,5,6,7] (.rg (.sg 7 [0,3,4,5,6,7,64] (.sp 64 (decide ((IntKind.i64.wrap (i + n)) < ((s.size : Nat) : Int))) H (fun hb H => ?_) (fun hb H => ?_))))
    ·
      refine .sg 4 [0,3,4,5,6,7,64,65,68] (reqH H fun hreq H => (.xs [0,3,4,5,6,7,64,69] hreq (.cp [0,3,4,5,6,7,64,70] (podestaref15_digit_calls (byteAt s (IntKind.i64.wrap (i + n)))) (.sg 1 [0,3,4,5,6,7,64,71] (.sp 71 (podestaref15_digit (byteAt s (IntKind.i64.wrap (i + n)))) H (fun hb H => ?_) (fun hb H => ?_))))))
      ·
        exact .sg 12 [0,3,4,5,6,7,83] (.dn (.sg 5 [0,3,4,5,6,7] (.kp [0,3,4,5,6,7] (.into (.to (ih (IntKind.i64.wrap (n + 1)) H))))))
      ·
        refine .sg 1 [0,3,4,5,6,7,64,71,72] (.cp [0,3,4,5,6,7,64,71,73] (podestaref15_letter_calls (byteAt s i)) (.sg 1 [0,3,4,5,6,7,64,71,74] (.sp 74 (podestaref15_letter (byteAt s i)) H (fun hb H => ?_) (fun hb H => ?_))))
        ·
          refine .sg 4 [0,3,4,5,6,7,64,71,74,75,78] (reqH H fun hreq H => (.xs [0,3,4,5,6,7,64,71,74,79] hreq (.cp [0,3,4,5,6,7,64,71,74,80] (podestaref15_letter_calls (byteAt s (IntKind.i64.wrap (i + n)))) (.sg 3 [0,3,4,5,6,7,83] (.dn (.cd (podestaref15_letter (byteAt s (IntKind.i64.wrap (i + n)))) H (fun hb H => ?_) (fun hb H => ?_)))))))
          ·
            exact .sg 4 [0,3,4,5,6,7] (.kp [0,3,4,5,6,7] (.into (.to (ih (IntKind.i64.wrap (n + 1)) H))))
          ·
            refine .sg 1 [0,3,4,5,7] (.kp [0,3,4,5,7] ?_)
            obtain rfl := Option.some.inj H
            exact .to J
        ·
          refine .sg 9 [0,3,4,5,6,7,83] (.dn (.sg 2 [0,3,4,5,7] (.kp [0,3,4,5,7] ?_)))
          obtain rfl := Option.some.inj H
          exact .to J
    ·
      refine .sg 19 [0,3,4,5,6,7,83] (.dn (.sg 2 [0,3,4,5,7] (.kp [0,3,4,5,7] ?_)))
      obtain rfl := Option.some.inj H
      exact .to J
def podestaref15_Scan_l3 (s : ByteArray) (i : Int) : Nat → Int → Int → Option (Int)
  | 0, _, _ => none
  | m + 1, n1, k1 =>
    (bif ((decide (k1 < (((List.map strA podestaref15_signs).length : Nat) : Int))) && (n1 == 0)) then
    (ixO podestaref15_signs k1).bind fun x3 =>
    (bif (decide ((IntKind.i64.wrap (i + ((x3.size : Nat) : Int))) ≤ ((s.size : Nat) : Int))) then
      (ixO podestaref15_signs k1).bind fun x4 =>
      (subS s (some i) (some (IntKind.i64.wrap (i + ((x4.size : Nat) : Int))))).bind fun x5 =>
      (ixO podestaref15_signs k1).bind fun x6 =>
      (bif (x5 == x6) then
        (ixO podestaref15_signs k1).bind fun x7 =>
        podestaref15_Scan_l3 s i m ((x7.size : Nat) : Int) (IntKind.i64.wrap (k1 + 1))
      else
        podestaref15_Scan_l3 s i m n1 (IntKind.i64.wrap (k1 + 1)))
    else
      podestaref15_Scan_l3 s i m n1 (IntKind.i64.wrap (k1 + 1)))
  else
    some n1)
theorem podestaref15_Scan_l3_walk (q0 : Nat) (q1 : Nat) (q2 : Nat) (q3 : Nat) (q4 : Nat) (q5 : Nat) (s : ByteArray) (i : Int) (out : List Token) (v1 : Int) (x : ByteArray) (x1 : Bool) (x2 : Bool)  (r : (List Token) × Fault) (c0 : Ctx) (hc0 : c0.m.length = 0) (res : Int) (J : AX Try.prog tab podestaref15_Scan_F c0 (Rp tab.S c0 (.tup [.sl 66 (List.map Token.av r.1) false, Fault.av r.2]) []) (some ⟨[.code [1, 1, 1, 1, 0, 0, 0, 1, 0, 1, 1, 1, 1, 1, 1, 1], .blk 1, .loop [1, 1, 1, 1, 0, 0], .blk 0, .code [1, 1, 1, 1, 1]], [(0, .sc (.string s)), (3, .ptr 0 0 none), (4, .own 1 1000000), (5, .sc (.int .i64 i)), (7, .sc (.int .i64 res))], [.box 32 [.sc (.int .i64 0), .sc (.int .i64 0)], .row 66 (List.map Token.av out) 1000000 true]⟩)) :
    ∀ (m : Nat) (n1 : Int) (k1 : Int) (H : podestaref15_Scan_l3 s i m n1 k1 = some res), AX Try.prog tab podestaref15_Scan_F c0 (Rp tab.S c0 (.tup [.sl 66 (List.map Token.av r.1) false, Fault.av r.2]) []) (some ⟨[.code [1, 1, 1, 1, 0, 0, 0, 1, 0, 1, 1, 1, 1, 1, 1, 0, 1, 0, 0], .loop [1, 1, 1, 1, 0, 0, 0, 1, 0, 1, 1, 1, 1, 1, 1, 0, 1, 0], .blk 6, .code [1, 1, 1, 1, 0, 0, 0, 1, 0, 1, 1, 1, 1, 1, 1, 1], .blk 1, .loop [1, 1, 1, 1, 0, 0], .blk 0, .code [1, 1, 1, 1, 1]], [(0, .sc (.string s)), (3, .ptr 0 0 none), (4, .own 1 1000000), (5, .sc (.int .i64 i)), (7, .sc (.int .i64 n1)), (9, .sl 9 (List.map strA podestaref15_signs) true), (10, .sc (.int .i64 k1))], [.box 32 [.sc (.int .i64 0), .sc (.int .i64 0)], .row 66 (List.map Token.av out) 1000000 true]⟩) := by
  intro m
  induction m with
  | zero => intro n1 k1 H; cases H
  | succ m ih =>
    intro n1 k1 H
    rw [podestaref15_Scan_l3] at H
    refine .sg 2 [0,3,4,5,7,9,10] (.rg (.sg 5 [0,3,4,5,7,9,10,107] (.mx 0 [0,3,4,5,7,9,10,110] (.dn (.cd ((decide (k1 < (((List.map strA podestaref15_signs).length : Nat) : Int))) && (n1 == 0)) H (fun hb H => ?_) (fun hb H => ?_))))))
    ·
      refine .sg 4 [0,3,4,5,7,9,10] (.rg (.sg 3 [0,3,4,5,7,9,10,113,114,115] (bndO H fun x3 hv H => (.xi [0,3,4,5,7,9,10,113,116] strA hv (.sg 7 [0,3,4,5,7,9,10,123] (.sp 123 (decide ((IntKind.i64.wrap (i + ((x3.size : Nat) : Int))) ≤ ((s.size : Nat) : Int))) H (fun hb H => ?_) (fun hb H => ?_)))))))
      ·
        refine .sg 5 [0,3,4,5,7,9,10,123,124,125,126,127,128] (bndO H fun x4 hv H => (.xi [0,3,4,5,7,9,10,123,124,125,126,129] strA hv (.sg 3 [0,3,4,5,7,9,10,123,124,125,132] (bndO H fun x5 hv H => (.ss [0,3,4,5,7,9,10,123,133] hv (.sg 2 [0,3,4,5,7,9,10,123,133,134,135] (bndO H fun x6 hv H => (.xi [0,3,4,5,7,9,10,123,133,136] strA hv (.sg 3 [0,3,4,5,7,9,10,139] (.dn (.cd (x5 == x6) H (fun hb H => ?_) (fun hb H => ?_))))))))))))
        ·
          exact .rg (.sg 2 [0,3,4,5,9,10,140,141] (bndO H fun x7 hv H => (.xi [0,3,4,5,9,10,142] strA hv (.sg 3 [0,3,4,5,7,9,10] (.dn (.sg 2 [0,3,4,5,7,9,10] (.kp [0,3,4,5,7,9,10] (.into (.to (ih ((x7.size : Nat) : Int) (IntKind.i64.wrap (k1 + 1)) H))))))))))
        ·
          exact .sg 3 [0,3,4,5,7,9,10] (.kp [0,3,4,5,7,9,10] (.into (.to (ih n1 (IntKind.i64.wrap (k1 + 1)) H))))
      ·
        exact .sg 16 [0,3,4,5,7,9,10,139] (.dn (.sg 4 [0,3,4,5,7,9,10] (.kp [0,3,4,5,7,9,10] (.into (.to (ih n1 (IntKind.i64.wrap (k1 + 1)) H))))))
    ·
      refine .sg 1 [0,3,4,5,7] (.kp [0,3,4,5,7] ?_)
      obtain rfl := Option.some.inj H
      exact .to J
def podestaref15_Scan_l4 (s : ByteArray) (i : Int) : Nat → Int → Int → Option (Int)
  | 0, _, _ => none
  | m + 1, n2, k2 =>
    (bif ((decide (k2 < (((List.map strA podestaref15_signs).length : Nat) : Int))) && (n2 == 0)) then
    (ixO podestaref15_signs k2).bind fun x4 =>
    (bif (decide ((IntKind.i64.wrap (i + ((x4.size : Nat) : Int))) ≤ ((s.size : Nat) : Int))) then
      (ixO podestaref15_signs k2).bind fun x5 =>
      (subS s (some i) (some (IntKind.i64.wrap (i + ((x5.size : Nat) : Int))))).bind fun x6 =>
      (ixO podestaref15_signs k2).bind fun x7 =>
      (bif (x6 == x7) then
        (ixO podestaref15_signs k2).bind fun x8 =>
        podestaref15_Scan_l4 s i m ((x8.size : Nat) : Int) (IntKind.i64.wrap (k2 + 1))
      else
        podestaref15_Scan_l4 s i m n2 (IntKind.i64.wrap (k2 + 1)))
    else
      podestaref15_Scan_l4 s i m n2 (IntKind.i64.wrap (k2 + 1)))
  else
    some n2)
theorem podestaref15_Scan_l4_walk (q0 : Nat) (q1 : Nat) (q2 : Nat) (q3 : Nat) (q4 : Nat) (q5 : Nat) (s : ByteArray) (i : Int) (out : List Token) (v1 : Int) (x : ByteArray) (x1 : Bool)  (r : (List Token) × Fault) (c0 : Ctx) (hc0 : c0.m.length = 0) (res : Int) (J : AX Try.prog tab podestaref15_Scan_F c0 (Rp tab.S c0 (.tup [.sl 66 (List.map Token.av r.1) false, Fault.av r.2]) []) (some ⟨[.code [1, 1, 1, 1, 0, 0, 0, 1, 0, 1, 1, 1, 1, 1, 1, 1], .blk 1, .loop [1, 1, 1, 1, 0, 0], .blk 0, .code [1, 1, 1, 1, 1]], [(0, .sc (.string s)), (3, .ptr 0 0 none), (4, .own 1 1000000), (5, .sc (.int .i64 i)), (7, .sc (.int .i64 res))], [.box 32 [.sc (.int .i64 0), .sc (.int .i64 0)], .row 66 (List.map Token.av out) 1000000 true]⟩)) :
    ∀ (m : Nat) (n2 : Int) (k2 : Int) (H : podestaref15_Scan_l4 s i m n2 k2 = some res), AX Try.prog tab podestaref15_Scan_F c0 (Rp tab.S c0 (.tup [.sl 66 (List.map Token.av r.1) false, Fault.av r.2]) []) (some ⟨[.code [1, 1, 1, 1, 0, 0, 0, 1, 0, 1, 1, 1, 1, 1, 1, 0, 1, 0, 0], .loop [1, 1, 1, 1, 0, 0, 0, 1, 0, 1, 1, 1, 1, 1, 1, 0, 1, 0], .blk 6, .code [1, 1, 1, 1, 0, 0, 0, 1, 0, 1, 1, 1, 1, 1, 1, 1], .blk 1, .loop [1, 1, 1, 1, 0, 0], .blk 0, .code [1, 1, 1, 1, 1]], [(0, .sc (.string s)), (3, .ptr 0 0 none), (4, .own 1 1000000), (5, .sc (.int .i64 i)), (7, .sc (.int .i64 n2)), (9, .sl 9 (List.map strA podestaref15_signs) true), (10, .sc (.int .i64 k2))], [.box 32 [.sc (.int .i64 0), .sc (.int .i64 0)], .row 66 (List.map Token.av out) 1000000 true]⟩) := by
  intro m
  induction m with
  | zero => intro n2 k2 H; cases H
  | succ m ih =>
    intro n2 k2 H
    rw [podestaref15_Scan_l4] at H
    refine .sg 2 [0,3,4,5,7,9,10] (.rg (.sg 5 [0,3,4,5,7,9,10,107] (.mx 0 [0,3,4,5,7,9,10,110] (.dn (.cd ((decide (k2 < (((List.map strA podestaref15_signs).length : Nat) : Int))) && (n2 == 0)) H (fun hb H => ?_) (fun hb H => ?_))))))
    ·
      refine .sg 4 [0,3,4,5,7,9,10] (.rg (.sg 3 [0,3,4,5,7,9,10,113,114,115] (bndO H fun x4 hv H => (.xi [0,3,4,5,7,9,10,113,116] strA hv (.sg 7 [0,3,4,5,7,9,10,123] (.sp 123 (decide ((IntKind.i64.wrap (i + ((x4.size : Nat) : Int))) ≤ ((s.size : Nat) : Int))) H (fun hb H => ?_) (fun hb H => ?_)))))))
      ·
        refine .sg 5 [0,3,4,5,7,9,10,123,124,125,126,127,128] (bndO H fun x5 hv H => (.xi [0,3,4,5,7,9,10,123,124,125,126,129] strA hv (.sg 3 [0,3,4,5,7,9,10,123,124,125,132] (bndO H fun x6 hv H => (.ss [0,3,4,5,7,9,10,123,133] hv (.sg 2 [0,3,4,5,7,9,10,123,133,134,135] (bndO H fun x7 hv H => (.xi [0,3,4,5,7,9,10,123,133,136] strA hv (.sg 3 [0,3,4,5,7,9,10,139] (.dn (.cd (x6 == x7) H (fun hb H => ?_) (fun hb H => ?_))))))))))))
        ·
          exact .rg (.sg 2 [0,3,4,5,9,10,140,141] (bndO H fun x8 hv H => (.xi [0,3,4,5,9,10,142] strA hv (.sg 3 [0,3,4,5,7,9,10] (.dn (.sg 2 [0,3,4,5,7,9,10] (.kp [0,3,4,5,7,9,10] (.into (.to (ih ((x8.size : Nat) : Int) (IntKind.i64.wrap (k2 + 1)) H))))))))))
        ·
          exact .sg 3 [0,3,4,5,7,9,10] (.kp [0,3,4,5,7,9,10] (.into (.to (ih n2 (IntKind.i64.wrap (k2 + 1)) H))))
      ·
        exact .sg 16 [0,3,4,5,7,9,10,139] (.dn (.sg 4 [0,3,4,5,7,9,10] (.kp [0,3,4,5,7,9,10] (.into (.to (ih n2 (IntKind.i64.wrap (k2 + 1)) H))))))
    ·
      refine .sg 1 [0,3,4,5,7] (.kp [0,3,4,5,7] ?_)
      obtain rfl := Option.some.inj H
      exact .to J
def podestaref15_Scan_l5 (s : ByteArray) (i : Int) : Nat → Int → Int → Option (Int)
  | 0, _, _ => none
  | m + 1, n3, k3 =>
    (bif ((decide (k3 < (((List.map strA podestaref15_signs).length : Nat) : Int))) && (n3 == 0)) then
    (ixO podestaref15_signs k3).bind fun x5 =>
    (bif (decide ((IntKind.i64.wrap (i + ((x5.size : Nat) : Int))) ≤ ((s.size : Nat) : Int))) then
      (ixO podestaref15_signs k3).bind fun x6 =>
      (subS s (some i) (some (IntKind.i64.wrap (i + ((x6.size : Nat) : Int))))).bind fun x7 =>
      (ixO podestaref15_signs k3).bind fun x8 =>
      (bif (x7 == x8) then
        (ixO podestaref15_signs k3).bind fun x9 =>
        podestaref15_Scan_l5 s i m ((x9.size : Nat) : Int) (IntKind.i64.wrap (k3 + 1))
      else
        podestaref15_Scan_l5 s i m n3 (IntKind.i64.wrap (k3 + 1)))
    else
      podestaref15_Scan_l5 s i m n3 (IntKind.i64.wrap (k3 + 1)))
  else
    some n3)
theorem podestaref15_Scan_l5_walk (q0 : Nat) (q1 : Nat) (q2 : Nat) (q3 : Nat) (q4 : Nat) (q5 : Nat) (s : ByteArray) (i : Int) (out : List Token)  (r : (List Token) × Fault) (c0 : Ctx) (hc0 : c0.m.length = 0) (res : Int) (J : AX Try.prog tab podestaref15_Scan_F c0 (Rp tab.S c0 (.tup [.sl 66 (List.map Token.av r.1) false, Fault.av r.2]) []) (some ⟨[.code [1, 1, 1, 1, 0, 0, 0, 1, 0, 1, 1, 1, 1, 1, 1, 1], .blk 1, .loop [1, 1, 1, 1, 0, 0], .blk 0, .code [1, 1, 1, 1, 1]], [(0, .sc (.string s)), (3, .ptr 0 0 none), (4, .own 1 1000000), (5, .sc (.int .i64 i)), (7, .sc (.int .i64 res))], [.box 32 [.sc (.int .i64 0), .sc (.int .i64 0)], .row 66 (List.map Token.av out) 1000000 true]⟩)) :
    ∀ (m : Nat) (n3 : Int) (k3 : Int) (H : podestaref15_Scan_l5 s i m n3 k3 = some res), AX Try.prog tab podestaref15_Scan_F c0 (Rp tab.S c0 (.tup [.sl 66 (List.map Token.av r.1) false, Fault.av r.2]) []) (some ⟨[.code [1, 1, 1, 1, 0, 0, 0, 1, 0, 1, 1, 1, 1, 1, 1, 0, 1, 0, 0], .loop [1, 1, 1, 1, 0, 0, 0, 1, 0, 1, 1, 1, 1, 1, 1, 0, 1, 0], .blk 6, .code [1, 1, 1, 1, 0, 0, 0, 1, 0, 1, 1, 1, 1, 1, 1, 1], .blk 1, .loop [1, 1, 1, 1, 0, 0], .blk 0, .code [1, 1, 1, 1, 1]], [(0, .sc (.string s)), (3, .ptr 0 0 none), (4, .own 1 1000000), (5, .sc (.int .i64 i)), (7, .sc (.int .i64 n3)), (9, .sl 9 (List.map strA podestaref15_signs) true), (10, .sc (.int .i64 k3))], [.box 32 [.sc (.int .i64 0), .sc (.int .i64 0)], .row 66 (List.map Token.av out) 1000000 true]⟩) := by
  intro m
  induction m with
  | zero => intro n3 k3 H; cases H
  | succ m ih =>
    intro n3 k3 H
    rw [podestaref15_Scan_l5] at H
    refine .sg 2 [0,3,4,5,7,9,10] (.rg (.sg 5 [0,3,4,5,7,9,10,107] (.mx 0 [0,3,4,5,7,9,10,110] (.dn (.cd ((decide (k3 < (((List.map strA podestaref15_signs).length : Nat) : Int))) && (n3 == 0)) H (fun hb H => ?_) (fun hb H => ?_))))))
    ·
      refine .sg 4 [0,3,4,5,7,9,10] (.rg (.sg 3 [0,3,4,5,7,9,10,113,114,115] (bndO H fun x5 hv H => (.xi [0,3,4,5,7,9,10,113,116] strA hv (.sg 7 [0,3,4,5,7,9,10,123] (.sp 123 (decide ((IntKind.i64.wrap (i + ((x5.size : Nat) : Int))) ≤ ((s.size : Nat) : Int))) H (fun hb H => ?_) (fun hb H => ?_)))))))
      ·
        refine .sg 5 [0,3,4,5,7,9,10,123,124,125,126,127,128] (bndO H fun x6 hv H => (.xi [0,3,4,5,7,9,10,123,124,125,126,129] strA hv (.sg 3 [0,3,4,5,7,9,10,123,124,125,132] (bndO H fun x7 hv H => (.ss [0,3,4,5,7,9,10,123,133] hv (.sg 2 [0,3,4,5,7,9,10,123,133,134,135] (bndO H fun x8 hv H => (.xi [0,3,4,5,7,9,10,123,133,136] strA hv (.sg 3 [0,3,4,5,7,9,10,139] (.dn (.cd (x7 == x8) H (fun hb H => ?_) (fun hb H => ?_))))))))))))
        ·
          exact .rg (.sg 2 [0,3,4,5,9,10,140,141] (bndO H fun x9 hv H => (.xi [0,3,4,5,9,10,142] strA hv (.sg 3 [0,3,4,5,7,9,10] (.dn (.sg 2 [0,3,4,5,7,9,10] (.kp [0,3,4,5,7,9,10] (.into (.to (ih ((x9.size : Nat) : Int) (IntKind.i64.wrap (k3 + 1)) H))))))))))
        ·
          exact .sg 3 [0,3,4,5,7,9,10] (.kp [0,3,4,5,7,9,10] (.into (.to (ih n3 (IntKind.i64.wrap (k3 + 1)) H))))
      ·
        exact .sg 16 [0,3,4,5,7,9,10,139] (.dn (.sg 4 [0,3,4,5,7,9,10] (.kp [0,3,4,5,7,9,10] (.into (.to (ih n3 (IntKind.i64.wrap (k3 + 1)) H))))))
    ·
      refine .sg 1 [0,3,4,5,7] (.kp [0,3,4,5,7] ?_)
      obtain rfl := Option.some.inj H
      exact .to J
def podestaref15_Scan_l0 (q1 : Nat) (q2 : Nat) (q3 : Nat) (q4 : Nat) (q5 : Nat) (s : ByteArray) : Nat → Int → List Token → Option (Sum ((List Token)) ((List Token) × Fault))
  | 0, _, _ => none
  | m + 1, i, out =>
    (bif (decide (i < ((s.size : Nat) : Int))) then
    reqO (decide (0 ≤ i) && decide (i < ((s.size : Nat) : Int))) (
    (bif (((((byteAt s i) == 32) || ((byteAt s i) == 9)) || ((byteAt s i) == 10)) || ((byteAt s i) == 13)) then
      podestaref15_Scan_l0 q1 q2 q3 q4 q5 s m (IntKind.i64.wrap (i + 1)) out
    else
      (bif ((byteAt s i) == 35) then
        (podestaref15_Scan_l1 s q1 i).bind fun v =>
        podestaref15_Scan_l0 q1 q2 q3 q4 q5 s m v out
      else
        (bif ((podestaref15_letter (byteAt s i)) || (podestaref15_digit (byteAt s i))) then
          (podestaref15_Scan_l2 s i q2 0).bind fun v1 =>
          (subS s (some i) (some (IntKind.i64.wrap (i + v1)))).bind fun x =>
          (podestaref15_Word_raw 10000 x).bind fun x1 =>
          (bif (!x1) then
            (podestaref15_Digits_raw 10000 x).bind fun x2 =>
            (bif (!x2) then
              some (.inr ([], ({ E := 15, At := i } : Fault)))
            else
              (podestaref15_Scan_l3 s i q3 v1 0).bind fun v2 =>
              (bif (v2 == 0) then
                some (.inr ([], ({ E := 15, At := i } : Fault)))
              else
                (subS s (some i) (some (IntKind.i64.wrap (i + v2)))).bind fun x3 =>
                fitO (out.length + [({ Text := x3, At := i } : Token)].length) 24 (
                podestaref15_Scan_l0 q1 q2 q3 q4 q5 s m (IntKind.i64.wrap (i + v2)) (out ++ [({ Text := x3, At := i } : Token)]))))
          else
            (podestaref15_Scan_l4 s i q4 v1 0).bind fun v3 =>
            (bif (v3 == 0) then
              some (.inr ([], ({ E := 15, At := i } : Fault)))
            else
              (subS s (some i) (some (IntKind.i64.wrap (i + v3)))).bind fun x4 =>
              fitO (out.length + [({ Text := x4, At := i } : Token)].length) 24 (
              podestaref15_Scan_l0 q1 q2 q3 q4 q5 s m (IntKind.i64.wrap (i + v3)) (out ++ [({ Text := x4, At := i } : Token)]))))
        else
          (podestaref15_Scan_l5 s i q5 0 0).bind fun v4 =>
          (bif (v4 == 0) then
            some (.inr ([], ({ E := 15, At := i } : Fault)))
          else
            (subS s (some i) (some (IntKind.i64.wrap (i + v4)))).bind fun x5 =>
            fitO (out.length + [({ Text := x5, At := i } : Token)].length) 24 (
            podestaref15_Scan_l0 q1 q2 q3 q4 q5 s m (IntKind.i64.wrap (i + v4)) (out ++ [({ Text := x5, At := i } : Token)])))))))
  else
    some (.inl out))
theorem podestaref15_Scan_l0_walk (q0 : Nat) (q1 : Nat) (q2 : Nat) (q3 : Nat) (q4 : Nat) (q5 : Nat) (s : ByteArray)  (r : (List Token) × Fault) (c0 : Ctx) (hc0 : c0.m.length = 0) (res : Sum ((List Token)) ((List Token) × Fault)) (J : ∀ w : (List Token), res = .inl w → AX Try.prog tab podestaref15_Scan_F c0 (Rp tab.S c0 (.tup [.sl 66 (List.map Token.av r.1) false, Fault.av r.2]) []) (some ⟨[.code [1, 1, 1, 1, 1]], [(3, .ptr 0 0 none), (4, .own 1 1000000)], [.box 32 [.sc (.int .i64 0), .sc (.int .i64 0)], .row 66 (List.map Token.av w) 1000000 true]⟩)) (Jr : ∀ w, res = .inr w → w = r) :
    ∀ (m : Nat) (i : Int) (out : List Token) (H : podestaref15_Scan_l0 q1 q2 q3 q4 q5 s m i out = some res), AX Try.prog tab podestaref15_Scan_F c0 (Rp tab.S c0 (.tup [.sl 66 (List.map Token.av r.1) false, Fault.av r.2]) []) (some ⟨[.code [1, 1, 1, 1, 0, 0, 0], .loop [1, 1, 1, 1, 0, 0], .blk 0, .code [1, 1, 1, 1, 1]], [(0, .sc (.string s)), (3, .ptr 0 0 none), (4, .own 1 1000000), (5, .sc (.int .i64 i))], [.box 32 [.sc (.int .i64 0), .sc (.int .i64 0)], .row 66 (List.map Token.av out) 1000000 true]⟩) := by
  intro m
  induction m with
  | zero => intro i out H; cases H
  | succ m ih =>
    intro i out H
    rw [podestaref15_Scan_l0] at H
    refine .sg 3 [0,3,4,5,18] (.cd (decide (i < ((s.size : Nat) : Int))) H (fun hb H => ?_) (fun hb H => ?_))
    ·
      refine .sg 3 [0,3,4,5] (.rg (.sg 2 [0,3,4,5,19,20] (reqH H fun hreq H => (.xs [0,3,4,5,21] hreq (.sg 1 [0,3,4,5,6] (.dn (.sg 2 [0,3,4,5,6] (.rg (.sg 3 [0,3,4,5,6,24] (.mx 1 [0,3,4,5,6,27] (.sg 1 [0,3,4,5,6,28] (.mx 1 [0,3,4,5,6,31] (.sg 1 [0,3,4,5,6,32] (.mx 1 [0,3,4,5,6,35] (.dn (.cd (((((byteAt s i) == 32) || ((byteAt s i) == 9)) || ((byteAt s i) == 10)) || ((byteAt s i) == 13)) H (fun hb H => ?_) (fun hb H => ?_)))))))))))))))))
      ·
        exact .sg 3 [0,3,4,5] (.kp [0,3,4,5] (.into (.to (ih (IntKind.i64.wrap (i + 1)) out H))))
      ·
        refine .sg 4 [0,3,4,5,6,39] (.cd ((byteAt s i) == 35) H (fun hb H => ?_) (fun hb H => ?_))
        ·
          refine .sg 2 [0,3,4,5] ?_
          refine bndO H fun v hv H => (.into (.to (podestaref15_Scan_l1_walk q0 q1 q2 q3 q4 q5 s i out r c0 hc0 v ?_ q1 i hv)))
          exact .sg 1 [0,3,4,5] (.kp [0,3,4,5] (.into (.to (ih v out H))))
        ·
          refine .sg 5 [0,3,4,5,6,7] (.rg (.sg 1 [0,3,4,5,6,7,52] (.cp [0,3,4,5,6,7,53] (podestaref15_letter_calls (byteAt s i)) (.sg 1 [0,3,4,5,6,7,54] (.mm 54 (podestaref15_letter (byteAt s i)) 3 [.pure, .pure, .pure] [0, 3, 4, 5, 6, 7, 57] 57 (fun z => .sc (.bool (z || (podestaref15_digit (byteAt s i))))) ?J37 (fun hb J => ?ht37) (fun hb J => ?hf37))))))
          case ht37 =>
            exact .sg 3 [0,3,4,5,6,7,57] (.cl J)
          case hf37 =>
            exact .sg 1 [0,3,4,5,6,7,54,55] (.cp [0,3,4,5,6,7,54,56] (podestaref15_digit_calls (byteAt s i)) (.sg 1 [0,3,4,5,6,7,57] (.cl J)))
          refine .dn (.cd ((podestaref15_letter (byteAt s i)) || (podestaref15_digit (byteAt s i))) H (fun hb H => ?_) (fun hb H => ?_))
          ·
            refine .sg 2 [0,3,4,5,6,7] ?_
            refine bndO H fun v1 hv H => (.into (.to (podestaref15_Scan_l2_walk q0 q1 q2 q3 q4 q5 s i out r c0 hc0 v1 ?_ q2 0 hv)))
            refine .sg 1 [0,3,4,5,7] (.rg (.sg 5 [0,3,4,5,7,86,87,90] (bndO H fun x hv H => (.ss [0,3,4,5,7,91] hv (.sg 1 [0,3,4,5,7,8] (.dn (.sg 1 [0,3,4,5,7,8] (.rg (.sg 1 [0,3,4,5,7,8,92] (bndO H fun x1 hv H => (.cp [0,3,4,5,7,8,93] ((podestaref15_Word_walk 10000) x x1 hv) (.sg 2 [0,3,4,5,7,8,95] (.sp 95 (!x1) H (fun hb H => ?_) (fun hb H => ?_))))))))))))))
            ·
              refine .sg 1 [0,3,4,5,7,95,96] (bndO H fun x2 hv H => (.cp [0,3,4,5,7,95,97] ((podestaref15_Digits_walk 10000) x x2 hv) (.sg 2 [0,3,4,5,7,99] (.dn (.cd (!x2) H (fun hb H => ?_) (fun hb H => ?_))))))
              ·
                refine .sg 2 [2,3] ?_
                obtain rfl := Option.some.inj H
                obtain rfl := Jr _ rfl
                exact .ret Try.func14 hc0 [] [(66, false)]
              ·
                refine .sg 2 [0,3,4,5,7] (.rg (.cp [0,3,4,5,7,102] (podestaref15_signs_calls) (.sg 1 [0,3,4,5,7,9] (.dn (.sg 4 [0,3,4,5,7,9,10] ?_)))))
                refine bndO H fun v2 hv H => (.into (.to (podestaref15_Scan_l3_walk q0 q1 q2 q3 q4 q5 s i out v1 x x1 x2 r c0 hc0 v2 ?_ q3 v1 0 hv)))
                refine .sg 3 [0,3,4,5,7,146] (.cd (v2 == 0) H (fun hb H => ?_) (fun hb H => ?_))
                ·
                  refine .sg 2 [2,3] ?_
                  obtain rfl := Option.some.inj H
                  obtain rfl := Jr _ rfl
                  exact .ret Try.func14 hc0 [] [(66, false)]
                ·
                  exact .sg 2 [0,3,4,5,7] (.rg (.sg 6 [0,3,5,7,149,150,151,154] (bndO H fun x3 hv H => (.ss [0,3,5,7,149,155] hv (.sg 3 [0,3,5,7,149,158] (fitH H fun hfit H => (.ap [0,3,5,7,159] Token.av hfit (.sg 1 [0,3,4,5,7] (.dn (.sg 2 [0,3,4,5] (.tl hc0 [0,1] [0,3,4,5] (.into (.to (ih (IntKind.i64.wrap (i + v2)) (out ++ [({ Text := x3, At := i } : Token)]) H))))))))))))))
            ·
              refine .sg 4 [0,3,4,5,7,99] (.dn (.sg 3 [0,3,4,5,7] (.rg (.cp [0,3,4,5,7,102] (podestaref15_signs_calls) (.sg 1 [0,3,4,5,7,9] (.dn (.sg 4 [0,3,4,5,7,9,10] ?_)))))))
              refine bndO H fun v3 hv H => (.into (.to (podestaref15_Scan_l4_walk q0 q1 q2 q3 q4 q5 s i out v1 x x1 r c0 hc0 v3 ?_ q4 v1 0 hv)))
              refine .sg 3 [0,3,4,5,7,146] (.cd (v3 == 0) H (fun hb H => ?_) (fun hb H => ?_))
              ·
                refine .sg 2 [2,3] ?_
                obtain rfl := Option.some.inj H
                obtain rfl := Jr _ rfl
                exact .ret Try.func14 hc0 [] [(66, false)]
              ·
                exact .sg 2 [0,3,4,5,7] (.rg (.sg 6 [0,3,5,7,149,150,151,154] (bndO H fun x4 hv H => (.ss [0,3,5,7,149,155] hv (.sg 3 [0,3,5,7,149,158] (fitH H fun hfit H => (.ap [0,3,5,7,159] Token.av hfit (.sg 1 [0,3,4,5,7] (.dn (.sg 2 [0,3,4,5] (.tl hc0 [0,1] [0,3,4,5] (.into (.to (ih (IntKind.i64.wrap (i + v3)) (out ++ [({ Text := x4, At := i } : Token)]) H))))))))))))))
          ·
            refine .sg 2 [0,3,4,5,7] (.rg (.cp [0,3,4,5,7,102] (podestaref15_signs_calls) (.sg 1 [0,3,4,5,7,9] (.dn (.sg 4 [0,3,4,5,7,9,10] ?_)))))
            refine bndO H fun v4 hv H => (.into (.to (podestaref15_Scan_l5_walk q0 q1 q2 q3 q4 q5 s i out r c0 hc0 v4 ?_ q5 0 0 hv)))
            refine .sg 3 [0,3,4,5,7,146] (.cd (v4 == 0) H (fun hb H => ?_) (fun hb H => ?_))
            ·
              refine .sg 2 [2,3] ?_
              obtain rfl := Option.some.inj H
              obtain rfl := Jr _ rfl
              exact .ret Try.func14 hc0 [] [(66, false)]
            ·
              exact .sg 2 [0,3,4,5,7] (.rg (.sg 6 [0,3,5,7,149,150,151,154] (bndO H fun x5 hv H => (.ss [0,3,5,7,149,155] hv (.sg 3 [0,3,5,7,149,158] (fitH H fun hfit H => (.ap [0,3,5,7,159] Token.av hfit (.sg 1 [0,3,4,5,7] (.dn (.sg 2 [0,3,4,5] (.tl hc0 [0,1] [0,3,4,5] (.into (.to (ih (IntKind.i64.wrap (i + v4)) (out ++ [({ Text := x5, At := i } : Token)]) H))))))))))))))
    ·
      exact .sg 1 [3,4] (.kp [3,4] (.to (J out (Option.some.inj H).symm)))
def podestaref15_Scan_raw (q0 : Nat) (q1 : Nat) (q2 : Nat) (q3 : Nat) (q4 : Nat) (q5 : Nat) (s : ByteArray) : Option ((List Token) × Fault) :=
  (bif (decide (((s.size : Nat) : Int) > 16384)) then
    some ([], ({ E := 13, At := 16384 } : Fault))
  else
    loopO (podestaref15_Scan_l0 q1 q2 q3 q4 q5 s q0 0 ([] : List Token)) fun v =>
    some (v, ({ E := 0, At := 0 } : Fault)))
theorem podestaref15_Scan_walk (q0 : Nat) (q1 : Nat) (q2 : Nat) (q3 : Nat) (q4 : Nat) (q5 : Nat) (s : ByteArray) (r : (List Token) × Fault) (H : podestaref15_Scan_raw q0 q1 q2 q3 q4 q5 s = some r) : ACalls Try.prog tab.S 14 [.sc (.string s)] [] (.tup [.sl 66 (List.map Token.av r.1) false, Fault.av r.2]) [] := by
  refine .of_AX podestaref15_Scan_F Try.func14 fun c0 hc0 => ?_
  rw [podestaref15_Scan_raw] at H
  refine .sg 5 [0,3,13] (.cd (decide (((s.size : Nat) : Int) > 16384)) H (fun hb H => ?_) (fun hb H => ?_))
  ·
    refine .sg 2 [2,3] ?_
    obtain rfl := Option.some.inj H
    exact .ret Try.func14 hc0 [] [(66, false)]
  ·
    refine .sg 7 [0,3,4,5] ?_
    refine .ad 4 66 true (.kp [0,3,4,5] ?_)
    rcases loopO_some H with ⟨v, hv, H⟩ | hv
    case inr =>
      exact .into (.to (podestaref15_Scan_l0_walk q0 q1 q2 q3 q4 q5 s r c0 hc0 (.inr r) (fun _ e => by cases e) (fun _ e => (Sum.inr.inj e).symm) q0 0 ([] : List Token) hv))
    refine .into (.to (podestaref15_Scan_l0_walk q0 q1 q2 q3 q4 q5 s r c0 hc0 (.inl v) (fun w e => ?_) (fun _ e => by cases e) q0 0 ([] : List Token) hv))
    have e := Sum.inl.inj e
    subst e
    refine .sg 2 [2,3] ?_
    obtain rfl := Option.some.inj H
    exact .ret Try.func14 hc0

structure Eye where
  L : List Token
  I : Int
  End : Int
  Deep : Int
  F : Fault
  deriving DecidableEq, Inhabited
end Go.Proofs.Ytinmkhkehfjcaaa

set_option linter.unusedVariables false
set_option linter.unusedSimpArgs false
set_option maxRecDepth 100000
set_option maxHeartbeats 4000000
namespace Go.Proofs.Ytinmkhkehfjcaaa
open Go.Sh
structure Node where
  Kind : Int
  Text : ByteArray
  Num : Int
  Kids : List Node
  At : Int
mutual
def Node.av : Node → AV
  | ⟨r_Kind, r_Text, r_Num, r_Kids, r_At⟩ => .agg [.sc (.int .i64 r_Kind), .sc (.string r_Text), .sc (.int .i64 r_Num), .sl 29 (Node.avs r_Kids) false, .sc (.int .i64 r_At)]
def Node.avs : List Node → List AV
  | [] => []
  | x :: l => Node.av x :: Node.avs l
end
theorem Node.avs_map : ∀ l : List Node, Node.avs l = l.map Node.av
  | [] => by rw [Node.avs]; rfl
  | x :: l => by rw [Node.avs, Node.avs_map l]; rfl
def Node.ch (r : Node) : List AV := [.sc (.int .i64 r.Kind), .sc (.string r.Text), .sc (.int .i64 r.Num), .sl 29 (List.map Node.av r.Kids) false, .sc (.int .i64 r.At)]
def Node.ag (r : Node) : AV := .agg [.sc (.int .i64 r.Kind), .sc (.string r.Text), .sc (.int .i64 r.Num), .sl 29 (List.map Node.av r.Kids) false, .sc (.int .i64 r.At)]
theorem Node.av_eq (r : Node) : Node.av r = Node.ag r := by
  cases r
  rw [Node.av, Node.avs_map]
  rfl

/-! ### podestaref15.Taken: function 33 -/
noncomputable def podestaref15_Taken_F : Go.Sh.Fn := ⟨33, bodyOf Try.f33, 6⟩
def podestaref15_Taken (s : ByteArray) : Bool :=
  (podestaref15_in [(ByteArray.mk #[118, 97, 114]), (ByteArray.mk #[111, 110]), (ByteArray.mk #[105, 102]), (ByteArray.mk #[101, 108, 115, 101]), (ByteArray.mk #[119, 104, 105, 108, 101]), (ByteArray.mk #[97, 98, 111, 114, 116]), (ByteArray.mk #[97, 100, 100]), (ByteArray.mk #[100, 101, 108]), (ByteArray.mk #[109, 111, 100]), (ByteArray.mk #[112, 114, 105, 111]), (ByteArray.mk #[105, 100, 108, 101]), (ByteArray.mk #[104, 97, 114, 100]), (ByteArray.mk #[99, 104, 101, 99, 107]), (ByteArray.mk #[100, 111]), (ByteArray.mk #[100, 114, 111, 112]), (ByteArray.mk #[111, 117, 116]), (ByteArray.mk #[115, 101, 116]), (ByteArray.mk #[116, 101, 108, 108])] s)
theorem podestaref15_Taken_calls (s : ByteArray) : ACalls Try.prog tab.S 33 [.sc (.string s)] [] (.sc (.bool (podestaref15_Taken s))) [] := by
  generalize H : podestaref15_Taken s = r
  refine .of_AX podestaref15_Taken_F Try.func33 fun c0 hc0 => ?_
  rw [podestaref15_Taken] at H
  refine .sg 3 [0] (.rg (.sg 2 [3,4] (.cp [5] (podestaref15_in_calls [(ByteArray.mk #[118, 97, 114]), (ByteArray.mk #[111, 110]), (ByteArray.mk #[105, 102]), (ByteArray.mk #[101, 108, 115, 101]), (ByteArray.mk #[119, 104, 105, 108, 101]), (ByteArray.mk #[97, 98, 111, 114, 116]), (ByteArray.mk #[97, 100, 100]), (ByteArray.mk #[100, 101, 108]), (ByteArray.mk #[109, 111, 100]), (ByteArray.mk #[112, 114, 105, 111]), (ByteArray.mk #[105, 100, 108, 101]), (ByteArray.mk #[104, 97, 114, 100]), (ByteArray.mk #[99, 104, 101, 99, 107]), (ByteArray.mk #[100, 111]), (ByteArray.mk #[100, 114, 111, 112]), (ByteArray.mk #[111, 117, 116]), (ByteArray.mk #[115, 101, 116]), (ByteArray.mk #[116, 101, 108, 108])] s true) (.sg 1 [2] (.dn ?_)))))
  subst H
  exact .ret Try.func33 hc0

/-! ### (*podesta/podestaref15.Eye).At: function 15 -/
noncomputable def podestaref15_Eye_At_F : Go.Sh.Fn := ⟨15, bodyOf Try.f15, 28⟩
def podestaref15_Eye_At_raw (x : Eye) : Option (Int × Eye) :=
  (bif (decide (x.I < (((List.map Token.av x.L).length : Nat) : Int))) then
    (ixO x.L x.I).bind fun x1 =>
    some (x1.At, x)
  else
    some (x.End, x))
theorem podestaref15_Eye_At_walk (x : Eye) (r : Int × Eye) (H : podestaref15_Eye_At_raw x = some r) : ACalls Try.prog tab.S 15 [.ptr 0 0 none] [.box 44 [.sl 66 (List.map Token.av x.L) false, .sc (.int .i64 x.I), .sc (.int .i64 x.End), .sc (.int .i64 x.Deep), .sc (.int .i64 x.F.E), .sc (.int .i64 x.F.At)]] (.sc (.int .i64 r.1)) [.box 44 [.sl 66 (List.map Token.av r.2.L) false, .sc (.int .i64 r.2.I), .sc (.int .i64 r.2.End), .sc (.int .i64 r.2.Deep), .sc (.int .i64 r.2.F.E), .sc (.int .i64 r.2.F.At)]] := by
  refine .of_AX podestaref15_Eye_At_F Try.func15 fun c0 hc0 => ?_
  rw [podestaref15_Eye_At_raw] at H
  refine .sg 5 [0,12] (.cd (decide (x.I < (((List.map Token.av x.L).length : Nat) : Int))) H (fun hb H => ?_) (fun hb H => ?_))
  ·
    refine .sg 1 [0] (.rg (.sg 8 [16,20] (bndO H fun x1 hv H => (.xi [21] Token.av hv (.sg 3 [2] (.dn ?_))))))
    obtain rfl := Option.some.inj H
    exact .ret Try.func15 hc0 [0]
  ·
    refine .sg 3 [2] ?_
    obtain rfl := Option.some.inj H
    exact .ret Try.func15 hc0 [0]

/-! ### (*podesta/podestaref15.Eye).Bad: function 34 -/
noncomputable def podestaref15_Eye_Bad_F : Go.Sh.Fn := ⟨34, bodyOf Try.f34, 17⟩
def podestaref15_Eye_Bad_raw (x : Eye) (e1 : Int) : Option (Eye) :=
  (bif (x.F.E == 0) then
    (podestaref15_Eye_At_raw x).bind fun v =>
    some ({ v.2 with F := ({ E := e1, At := v.1 } : Fault) } : Eye)
  else
    some x)
theorem podestaref15_Eye_Bad_walk (x : Eye) (e1 : Int) (r : Eye) (H : podestaref15_Eye_Bad_raw x e1 = some r) : ACalls Try.prog tab.S 34 [.ptr 0 0 none, .sc (.int .i64 e1)] [.box 44 [.sl 66 (List.map Token.av x.L) false, .sc (.int .i64 x.I), .sc (.int .i64 x.End), .sc (.int .i64 x.Deep), .sc (.int .i64 x.F.E), .sc (.int .i64 x.F.At)]] (.tup []) [.box 44 [.sl 66 (List.map Token.av r.L) false, .sc (.int .i64 r.I), .sc (.int .i64 r.End), .sc (.int .i64 r.Deep), .sc (.int .i64 r.F.E), .sc (.int .i64 r.F.At)]] := by
  refine .of_AX podestaref15_Eye_Bad_F Try.func34 fun c0 hc0 => ?_
  rw [podestaref15_Eye_Bad_raw] at H
  refine .sg 2 [0,1,9] (.cd (x.F.E == 0) H (fun hb H => ?_) (fun hb H => ?_))
  ·
    refine .rg (.sg 3 [10,11,12] (bndO H fun v hv H => (.ch [10,11,13] [0] (podestaref15_Eye_At_walk x v hv) (.sg 4 [] (.dn ?_)))))
    obtain rfl := Option.some.inj H
    exact .ret Try.func34 hc0 [0]
  ·
    refine .sg 1 [] ?_
    obtain rfl := Option.some.inj H
    exact .ret Try.func34 hc0 [0]

/-! ### (*podesta/podestaref15.Eye).See: function 32 -/
noncomputable def podestaref15_Eye_See_F : Go.Sh.Fn := ⟨32, bodyOf Try.f32, 32⟩
def podestaref15_Eye_See_raw (x : Eye) : Option (ByteArray × Eye) :=
  (bif ((x.F.E == 0) && (decide (x.I < (((List.map Token.av x.L).length : Nat) : Int)))) then
    (ixO x.L x.I).bind fun x1 =>
    some (x1.Text, x)
  else
    some ((ByteArray.mk #[]), x))
theorem podestaref15_Eye_See_walk (x : Eye) (r : ByteArray × Eye) (H : podestaref15_Eye_See_raw x = some r) : ACalls Try.prog tab.S 32 [.ptr 0 0 none] [.box 44 [.sl 66 (List.map Token.av x.L) false, .sc (.int .i64 x.I), .sc (.int .i64 x.End), .sc (.int .i64 x.Deep), .sc (.int .i64 x.F.E), .sc (.int .i64 x.F.At)]] (.sc (.string r.1)) [.box 44 [.sl 66 (List.map Token.av r.2.L) false, .sc (.int .i64 r.2.I), .sc (.int .i64 r.2.End), .sc (.int .i64 r.2.Deep), .sc (.int .i64 r.2.F.E), .sc (.int .i64 r.2.F.At)]] := by
  refine .of_AX podestaref15_Eye_See_F Try.func32 fun c0 hc0 => ?_
  rw [podestaref15_Eye_See_raw] at H
  refine .sg 4 [0] (.rg (.sg 7 [0,9] (.mx 0 [0,20] (.dn (.cd ((x.F.E == 0) && (decide (x.I < (((List.map Token.av x.L).length : Nat) : Int)))) H (fun hb H => ?_) (fun hb H => ?_))))))
  ·
    refine .sg 1 [0] (.rg (.sg 8 [24,28] (bndO H fun x1 hv H => (.xi [29] Token.av hv (.sg 3 [2] (.dn ?_))))))
    obtain rfl := Option.some.inj H
    exact .ret Try.func32 hc0 [0]
  ·
    refine .sg 3 [2] ?_
    obtain rfl := Option.some.inj H
    exact .ret Try.func32 hc0 [0]

/-! ### (*podesta/podestaref15.Eye).Eat: function 16 -/
noncomputable def podestaref15_Eye_Eat_F : Go.Sh.Fn := ⟨16, bodyOf Try.f16, 20⟩
def podestaref15_Eye_Eat_raw (x : Eye) (s : ByteArray) : Option (Bool × Eye) :=
  (podestaref15_Eye_See_raw x).bind fun v =>
  (bif ((v.1 == s) && (s != (ByteArray.mk #[]))) then
    some (true, ({ v.2 with I := (IntKind.i64.wrap (v.2.I + 1)) } : Eye))
  else
    some (false, v.2))
theorem podestaref15_Eye_Eat_walk (x : Eye) (s : ByteArray) (r : Bool × Eye) (H : podestaref15_Eye_Eat_raw x s = some r) : ACalls Try.prog tab.S 16 [.ptr 0 0 none, .sc (.string s)] [.box 44 [.sl 66 (List.map Token.av x.L) false, .sc (.int .i64 x.I), .sc (.int .i64 x.End), .sc (.int .i64 x.Deep), .sc (.int .i64 x.F.E), .sc (.int .i64 x.F.At)]] (.sc (.bool r.1)) [.box 44 [.sl 66 (List.map Token.av r.2.L) false, .sc (.int .i64 r.2.I), .sc (.int .i64 r.2.End), .sc (.int .i64 r.2.Deep), .sc (.int .i64 r.2.F.E), .sc (.int .i64 r.2.F.At)]] := by
  refine .of_AX podestaref15_Eye_Eat_F Try.func16 fun c0 hc0 => ?_
  rw [podestaref15_Eye_Eat_raw] at H
  refine .sg 4 [0,1] (.rg (.sg 1 [0,1,5] (bndO H fun v hv H => (.ch [0,1,6] [0] (podestaref15_Eye_See_walk x v hv) (.sg 3 [0,1,9] (.mx 0 [0,12] (.dn (.cd ((v.1 == s) && (s != (ByteArray.mk #[]))) H (fun hb H => ?_) (fun hb H => ?_)))))))))
  ·
    refine .sg 4 [4] ?_
    obtain rfl := Option.some.inj H
    exact .ret Try.func16 hc0 [0]
  ·
    refine .sg 3 [4] ?_
    obtain rfl := Option.some.inj H
    exact .ret Try.func16 hc0 [0]

/-! ### (*podesta/podestaref15.Eye).Must: function 18 -/
noncomputable def podestaref15_Eye_Must_F : Go.Sh.Fn := ⟨18, bodyOf Try.f18, 10⟩
def podestaref15_Eye_Must_raw (x : Eye) (s : ByteArray) : Option (Eye) :=
  (podestaref15_Eye_Eat_raw x s).bind fun v =>
  (bif (!v.1) then
    (podestaref15_Eye_Bad_raw v.2 15).bind fun v1 =>
    some v1
  else
    some v.2)
theorem podestaref15_Eye_Must_walk (x : Eye) (s : ByteArray) (r : Eye) (H : podestaref15_Eye_Must_raw x s = some r) : ACalls Try.prog tab.S 18 [.ptr 0 0 none, .sc (.string s)] [.box 44 [.sl 66 (List.map Token.av x.L) false, .sc (.int .i64 x.I), .sc (.int .i64 x.End), .sc (.int .i64 x.Deep), .sc (.int .i64 x.F.E), .sc (.int .i64 x.F.At)]] (.tup []) [.box 44 [.sl 66 (List.map Token.av r.L) false, .sc (.int .i64 r.I), .sc (.int .i64 r.End), .sc (.int .i64 r.Deep), .sc (.int .i64 r.F.E), .sc (.int .i64 r.F.At)]] := by
  refine .of_AX podestaref15_Eye_Must_F Try.func18 fun c0 hc0 => ?_
  rw [podestaref15_Eye_Must_raw] at H
  refine .sg 1 [0,1] (.rg (.sg 2 [0,4,5] (bndO H fun v hv H => (.ch [0,6] [0] (podestaref15_Eye_Eat_walk x s v hv) (.sg 1 [0,7] (.dn (.cd (!v.1) H (fun hb H => ?_) (fun hb H => ?_))))))))
  ·
    refine .rg (.sg 1 [8] (bndO H fun v1 hv H => (.ch [] [0] (podestaref15_Eye_Bad_walk v.2 15 v1 hv) (.dn ?_))))
    obtain rfl := Option.some.inj H
    exact .ret Try.func18 hc0 [0]
  ·
    refine .sg 1 [] ?_
    obtain rfl := Option.some.inj H
    exact .ret Try.func18 hc0 [0]

/-! ### (*podesta/podestaref15.Eye).Name: function 17 -/
noncomputable def podestaref15_Eye_Name_F : Go.Sh.Fn := ⟨17, bodyOf Try.f17, 23⟩
def podestaref15_Eye_Name_raw (x : Eye) : Option (ByteArray × Eye) :=
  (podestaref15_Eye_See_raw x).bind fun v =>
  (podestaref15_Word_raw 10000 v.1).bind fun x1 =>
  (bif ((!x1) || (podestaref15_Taken v.1)) then
    (podestaref15_Eye_Bad_raw v.2 15).bind fun v1 =>
    some ((ByteArray.mk #[]), v1)
  else
    some (v.1, ({ v.2 with I := (IntKind.i64.wrap (v.2.I + 1)) } : Eye)))
theorem podestaref15_Eye_Name_walk (x : Eye) (r : ByteArray × Eye) (H : podestaref15_Eye_Name_raw x = some r) : ACalls Try.prog tab.S 17 [.ptr 0 0 none] [.box 44 [.sl 66 (List.map Token.av x.L) false, .sc (.int .i64 x.I), .sc (.int .i64 x.End), .sc (.int .i64 x.Deep), .sc (.int .i64 x.F.E), .sc (.int .i64 x.F.At)]] (.sc (.string r.1)) [.box 44 [.sl 66 (List.map Token.av r.2.L) false, .sc (.int .i64 r.2.I), .sc (.int .i64 r.2.End), .sc (.int .i64 r.2.Deep), .sc (.int .i64 r.2.F.E), .sc (.int .i64 r.2.F.At)]] := by
  refine .of_AX podestaref15_Eye_Name_F Try.func17 fun c0 hc0 => ?_
  rw [podestaref15_Eye_Name_raw] at H
  refine .sg 3 [0] (.rg (.sg 1 [0,4] (bndO H fun v hv H => (.ch [0,5] [0] (podestaref15_Eye_See_walk x v hv) (.sg 1 [0,3] (.dn (.sg 2 [0,3] (.rg (.sg 1 [0,3,6] (bndO H fun x1 hv H => (.cp [0,3,7] ((podestaref15_Word_walk 10000) v.1 x1 hv) (.sg 2 [0,3,9] (.mm 9 (!x1) 3 [.pure, .pure, .pure] [0, 3, 12] 12 (fun z => .sc (.bool (z || (podestaref15_Taken v.1)))) ?J1 (fun hb J => ?ht1) (fun hb J => ?hf1))))))))))))))
  case ht1 =>
    exact .sg 3 [0,3,12] (.cl J)
  case hf1 =>
    exact .sg 1 [0,3,9,10] (.cp [0,3,9,11] (podestaref15_Taken_calls v.1) (.sg 1 [0,3,12] (.cl J)))
  refine .dn (.cd ((!x1) || (podestaref15_Taken v.1)) H (fun hb H => ?_) (fun hb H => ?_))
  ·
    refine .sg 1 [0] (.rg (.sg 1 [13] (bndO H fun v1 hv H => (.ch [] [0] (podestaref15_Eye_Bad_walk v.2 15 v1 hv) (.dn (.sg 2 [2] ?_))))))
    obtain rfl := Option.some.inj H
    exact .ret Try.func17 hc0 [0]
  ·
    refine .sg 5 [2] ?_
    obtain rfl := Option.some.inj H
    exact .ret Try.func17 hc0 [0]

/-! ### (*podesta/podestaref15.Eye).Int: function 19 -/
noncomputable def podestaref15_Eye_Int_F : Go.Sh.Fn := ⟨19, bodyOf Try.f19, 20⟩
def podestaref15_Eye_Int_raw (x : Eye) : Option (Int × Eye) :=
  (podestaref15_Eye_See_raw x).bind fun v =>
  (podestaref15_Digits_raw 10000 v.1).bind fun x1 =>
  (bif (!x1) then
    (podestaref15_Eye_Bad_raw v.2 15).bind fun v1 =>
    some (0, v1)
  else
    (podestaref15_Num_raw 10000 v.1).bind fun x2 =>
    some (x2, ({ v.2 with I := (IntKind.i64.wrap (v.2.I + 1)) } : Eye)))
theorem podestaref15_Eye_Int_walk (x : Eye) (r : Int × Eye) (H : podestaref15_Eye_Int_raw x = some r) : ACalls Try.prog tab.S 19 [.ptr 0 0 none] [.box 44 [.sl 66 (List.map Token.av x.L) false, .sc (.int .i64 x.I), .sc (.int .i64 x.End), .sc (.int .i64 x.Deep), .sc (.int .i64 x.F.E), .sc (.int .i64 x.F.At)]] (.sc (.int .i64 r.1)) [.box 44 [.sl 66 (List.map Token.av r.2.L) false, .sc (.int .i64 r.2.I), .sc (.int .i64 r.2.End), .sc (.int .i64 r.2.Deep), .sc (.int .i64 r.2.F.E), .sc (.int .i64 r.2.F.At)]] := by
  refine .of_AX podestaref15_Eye_Int_F Try.func19 fun c0 hc0 => ?_
  rw [podestaref15_Eye_Int_raw] at H
  refine .sg 3 [0] (.rg (.sg 1 [0,4] (bndO H fun v hv H => (.ch [0,5] [0] (podestaref15_Eye_See_walk x v hv) (.sg 1 [0,3] (.dn (.sg 2 [0,3] (.rg (.sg 1 [0,3,6] (bndO H fun x1 hv H => (.cp [0,3,7] ((podestaref15_Digits_walk 10000) v.1 x1 hv) (.sg 1 [0,3,8] (.dn (.cd (!x1) H (fun hb H => ?_) (fun hb H => ?_)))))))))))))))
  ·
    refine .sg 1 [0] (.rg (.sg 1 [9] (bndO H fun v1 hv H => (.ch [] [0] (podestaref15_Eye_Bad_walk v.2 15 v1 hv) (.dn (.sg 2 [2] ?_))))))
    obtain rfl := Option.some.inj H
    exact .ret Try.func19 hc0 [0]
  ·
    refine .sg 4 [3] (.rg (.sg 1 [18] (bndO H fun x2 hv H => (.cp [19] ((podestaref15_Num_walk 10000) v.1 x2 hv) (.sg 1 [2] (.dn ?_))))))
    obtain rfl := Option.some.inj H
    exact .ret Try.func19 hc0 [0]

/-! ### (*podesta/podestaref15.Eye).down: function 42 -/
noncomputable def podestaref15_Eye_down_F : Go.Sh.Fn := ⟨42, bodyOf Try.f42, 17⟩
def podestaref15_Eye_down_raw (x : Eye) : Option (Bool × Eye) :=
  (bif (decide (x.Deep ≥ 40)) then
    (podestaref15_Eye_Bad_raw x 13).bind fun v =>
    some (false, v)
  else
    some (true, ({ x with Deep := (IntKind.i64.wrap (x.Deep + 1)) } : Eye)))
theorem podestaref15_Eye_down_walk (x : Eye) (r : Bool × Eye) (H : podestaref15_Eye_down_raw x = some r) : ACalls Try.prog tab.S 42 [.ptr 0 0 none] [.box 44 [.sl 66 (List.map Token.av x.L) false, .sc (.int .i64 x.I), .sc (.int .i64 x.End), .sc (.int .i64 x.Deep), .sc (.int .i64 x.F.E), .sc (.int .i64 x.F.At)]] (.sc (.bool r.1)) [.box 44 [.sl 66 (List.map Token.av r.2.L) false, .sc (.int .i64 r.2.I), .sc (.int .i64 r.2.End), .sc (.int .i64 r.2.Deep), .sc (.int .i64 r.2.F.E), .sc (.int .i64 r.2.F.At)]] := by
  refine .of_AX podestaref15_Eye_down_F Try.func42 fun c0 hc0 => ?_
  rw [podestaref15_Eye_down_raw] at H
  refine .sg 5 [0,7] (.cd (decide (x.Deep ≥ 40)) H (fun hb H => ?_) (fun hb H => ?_))
  ·
    refine .sg 1 [0] (.rg (.sg 1 [8] (bndO H fun v hv H => (.ch [] [0] (podestaref15_Eye_Bad_walk x 13 v hv) (.dn (.sg 2 [2] ?_))))))
    obtain rfl := Option.some.inj H
    exact .ret Try.func42 hc0 [0]
  ·
    refine .sg 5 [2] ?_
    obtain rfl := Option.some.inj H
    exact .ret Try.func42 hc0 [0]

end Go.Proofs.Ytinmkhkehfjcaaa

set_option linter.unusedVariables false
set_option linter.unusedSimpArgs false
set_option maxRecDepth 100000
set_option maxHeartbeats 4000000
namespace Go.Proofs.Ytinmkhkehfjcaaa
open Go.Sh
theorem LQ.ab {P : Program} {G : Tab} {n : Nat} {ops : Array Oper} {i : Nat} {t : Tmps} {h : List AO} [ok : Ok P G] {α : Type} (f : α → AV) {A B : List α} {by_ : Nat} (hfit : (A.length + B.length) * by_ ≤ reach) (hA : A = []) (e : anA (appNE G n ops i t h) = some (A.map f, B.map f, by_) := by kernel_rfl) : LSpec P G.S n ops i .loud t h (.own h.length 1000000) (h ++ [.row (anT (appNE G n ops i t h)) ((A ++ B).map f) 1000000 true]) := LSpec.ab f hfit hA e
theorem LQ.ap {P : Program} {G : Tab} {n : Nat} {ops : Array Oper} {i : Nat} {t : Tmps} {h : List AO} [ok : Ok P G] {α : Type} (f : α → AV) {A B : List α} {by_ : Nat} (hfit : (A.length + B.length) * by_ ≤ reach) (e : apA (appE G n ops i t h) = some (A.map f, B.map f, by_) := by kernel_rfl) : LSpec P G.S n ops i .loud t h (apR (appE G n ops i t h)) (apH f A B (appE G n ops i t h) h) := LSpec.ap f hfit e
theorem LQ.so {P : Program} {G : Tab} {n : Nat} {ops : Array Oper} {i : Nat} {t : Tmps} {h : List AO} [ok : Ok P G] {α : Type} (f : α → AV) {A A' : List α} {l u m : Option Int} (hv : Go.Sh.sliceO A l u m = some A') (e : soA (sliceE G n ops i t) = some (A.map f, l, u, m) := by kernel_rfl) : LSpec P G.S n ops i .pure t h (.sl (soT (sliceE G n ops i t)) (A'.map f) (soF (sliceE G n ops i t))) h := LSpec.so f hv e
theorem LQ.cc {P : Program} {G : Tab} {n : Nat} {ops : Array Oper} {i : Nat} {t : Tmps} {h : List AO} [ok : Ok P G] (os : List Nat) {f : FuncId} {avs : List AV} {r : AV} (hc : ACalls P G.S f avs [] r []) (ds : List (TypeId × Bool) := []) (hos : rowsAt h os = true := by kernel_rfl) (e : callWE (giveO os h) ds n ops i t f = some avs := by kernel_rfl) : LSpec P G.S n ops i .loud t h r (Go.Sh.settle os h) := LSpec.cc os hc ds hos e
theorem LQ.cp {P : Program} {G : Tab} {n : Nat} {ops : Array Oper} {i : Nat} {t : Tmps} {h : List AO} [ok : Ok P G] {f : FuncId} {avs : List AV} {r : AV} (hc : ACalls P G.S f avs [] r []) (ds : List (TypeId × Bool) := []) (e : callWE plainO ds n ops i t f = some avs := by kernel_rfl) : LSpec P G.S n ops i .pure t h r h := LSpec.cp hc ds e

/-! ### podestaref15.level: function 59 -/
noncomputable def podestaref15_level_F : Go.Sh.Fn := ⟨59, bodyOf Try.f59, 21⟩
def podestaref15_level (k1 : Int) (stroke : Bool) : (List ByteArray) :=
  (bif (k1 == 0) then
    [(ByteArray.mk #[124, 124])]
  else
    (bif (k1 == 1) then
      [(ByteArray.mk #[38, 38])]
    else
      (bif (k1 == 2) then
        [(ByteArray.mk #[61, 61]), (ByteArray.mk #[33, 61]), (ByteArray.mk #[60]), (ByteArray.mk #[60, 61]), (ByteArray.mk #[62]), (ByteArray.mk #[62, 61])]
      else
        (bif (k1 == 3) then
          [(ByteArray.mk #[43]), (ByteArray.mk #[45])]
        else
          (bif stroke then
            [(ByteArray.mk #[42]), (ByteArray.mk #[47]), (ByteArray.mk #[37])]
          else
            [(ByteArray.mk #[42]), (ByteArray.mk #[37])])))))
theorem podestaref15_level_calls (k1 : Int) (stroke : Bool) : ACalls Try.prog tab.S 59 [.sc (.int .i64 k1), .sc (.bool stroke)] [] (.sl 9 (List.map strA (podestaref15_level k1 stroke)) true) [] := by
  generalize H : podestaref15_level k1 stroke = r
  refine .of_AX podestaref15_level_F Try.func59 fun c0 hc0 => ?_
  rw [podestaref15_level] at H
  refine .sg 8 [1,5,6] (.cd (k1 == 0) H (fun hb H => ?_) (fun hb H => ?_))
  ·
    refine .sg 2 [4] ?_
    subst H
    exact .ret Try.func59 hc0
  ·
    refine .sg 2 [1,5,9] (.cd (k1 == 1) H (fun hb H => ?_) (fun hb H => ?_))
    ·
      refine .sg 2 [4] ?_
      subst H
      exact .ret Try.func59 hc0
    ·
      refine .sg 2 [1,5,12] (.cd (k1 == 2) H (fun hb H => ?_) (fun hb H => ?_))
      ·
        refine .sg 2 [4] ?_
        subst H
        exact .ret Try.func59 hc0
      ·
        refine .sg 2 [1,15] (.cd (k1 == 3) H (fun hb H => ?_) (fun hb H => ?_))
        ·
          refine .sg 2 [4] ?_
          subst H
          exact .ret Try.func59 hc0
        ·
          refine .sg 5 [18] (.cd stroke H (fun hb H => ?_) (fun hb H => ?_))
          ·
            refine .sg 2 [4] ?_
            subst H
            exact .ret Try.func59 hc0
          ·
            refine .sg 3 [4] ?_
            subst H
            exact .ret Try.func59 hc0

/-! ### (*podesta/podestaref15.Eye).one: function 58 -/
noncomputable def podestaref15_Eye_one_F : Go.Sh.Fn := ⟨58, bodyOf Try.f58, 67⟩
def podestaref15_Eye_one_raw (g_podestaref15_Eye_one : Eye → Option (Node × Eye)) (g_podestaref15_Eye_part : Eye → Int → Bool → Option (Node × Eye)) (g_podestaref15_Eye_Expr : Eye → Bool → Option (Node × Eye)) (g_podestaref15_Eye_match : Eye → Option (Node × Eye)) (g_podestaref15_Eye_given : Eye → ByteArray → Int → Option (Node × Eye)) (g_podestaref15_Eye_acts : Eye → Option (Node × Eye)) (g_podestaref15_Eye_rest : Eye → Node → Bool → Option (Eye × Node)) (g_podestaref15_Eye_stmt : Eye → Option (Node × Eye)) (g_podestaref15_Eye_block : Eye → Option (Node × Eye)) (x : Eye) : Option (Node × Eye) :=
  (podestaref15_Eye_down_raw x).bind fun v =>
  (bif (!v.1) then
    some (({ Kind := 0, Text := ⟨#[]⟩, Num := 0, Kids := [], At := 0 } : Node), v.2)
  else
    (podestaref15_Eye_At_raw v.2).bind fun v1 =>
    (podestaref15_Eye_See_raw v1.2).bind fun v2 =>
    (bif ((v2.1 == (ByteArray.mk #[45])) || (v2.1 == (ByteArray.mk #[33]))) then
      (g_podestaref15_Eye_one ({ v2.2 with I := (IntKind.i64.wrap (v2.2.I + 1)) } : Eye)).bind fun v3 =>
      some (({ Kind := 21, Text := v2.1, Num := 0, Kids := [v3.1], At := v1.1 } : Node), ({ v3.2 with Deep := (IntKind.i64.wrap (v3.2.Deep - 1)) } : Eye))
    else
      (bif (v2.1 == (ByteArray.mk #[40])) then
        (g_podestaref15_Eye_Expr ({ v2.2 with I := (IntKind.i64.wrap (v2.2.I + 1)) } : Eye) true).bind fun v4 =>
        (podestaref15_Eye_Must_raw v4.2 (ByteArray.mk #[41])).bind fun v5 =>
        some (v4.1, ({ v5 with Deep := (IntKind.i64.wrap (v5.Deep - 1)) } : Eye))
      else
        (podestaref15_Digits_raw 10000 v2.1).bind fun x1 =>
        (bif x1 then
          (podestaref15_Eye_Int_raw v2.2).bind fun v6 =>
          some (({ Kind := 18, Text := ⟨#[]⟩, Num := v6.1, Kids := [], At := v1.1 } : Node), ({ v6.2 with Deep := (IntKind.i64.wrap (v6.2.Deep - 1)) } : Eye))
        else
          (podestaref15_Eye_Name_raw v2.2).bind fun v7 =>
          some (({ Kind := 19, Text := v7.1, Num := 0, Kids := [], At := v1.1 } : Node), ({ v7.2 with Deep := (IntKind.i64.wrap (v7.2.Deep - 1)) } : Eye))))))
theorem podestaref15_Eye_one_walk (g_podestaref15_Eye_one : Eye → Option (Node × Eye)) (H_g_podestaref15_Eye_one : ∀ (x : Eye) (r : Node × Eye) (H : g_podestaref15_Eye_one x = some r), ACalls Try.prog tab.S 58 [.ptr 0 0 none] [.box 44 [.sl 66 (List.map Token.av x.L) false, .sc (.int .i64 x.I), .sc (.int .i64 x.End), .sc (.int .i64 x.Deep), .sc (.int .i64 x.F.E), .sc (.int .i64 x.F.At)]] (Node.ag r.1) [.box 44 [.sl 66 (List.map Token.av r.2.L) false, .sc (.int .i64 r.2.I), .sc (.int .i64 r.2.End), .sc (.int .i64 r.2.Deep), .sc (.int .i64 r.2.F.E), .sc (.int .i64 r.2.F.At)]]) (g_podestaref15_Eye_part : Eye → Int → Bool → Option (Node × Eye)) (H_g_podestaref15_Eye_part : ∀ (x : Eye) (k1 : Int) (stroke : Bool) (r : Node × Eye) (H : g_podestaref15_Eye_part x k1 stroke = some r), ACalls Try.prog tab.S 53 [.ptr 0 0 none, .sc (.int .i64 k1), .sc (.bool stroke)] [.box 44 [.sl 66 (List.map Token.av x.L) false, .sc (.int .i64 x.I), .sc (.int .i64 x.End), .sc (.int .i64 x.Deep), .sc (.int .i64 x.F.E), .sc (.int .i64 x.F.At)]] (Node.ag r.1) [.box 44 [.sl 66 (List.map Token.av r.2.L) false, .sc (.int .i64 r.2.I), .sc (.int .i64 r.2.End), .sc (.int .i64 r.2.Deep), .sc (.int .i64 r.2.F.E), .sc (.int .i64 r.2.F.At)]]) (g_podestaref15_Eye_Expr : Eye → Bool → Option (Node × Eye)) (H_g_podestaref15_Eye_Expr : ∀ (x : Eye) (stroke : Bool) (r : Node × Eye) (H : g_podestaref15_Eye_Expr x stroke = some r), ACalls Try.prog tab.S 43 [.ptr 0 0 none, .sc (.bool stroke)] [.box 44 [.sl 66 (List.map Token.av x.L) false, .sc (.int .i64 x.I), .sc (.int .i64 x.End), .sc (.int .i64 x.Deep), .sc (.int .i64 x.F.E), .sc (.int .i64 x.F.At)]] (Node.ag r.1) [.box 44 [.sl 66 (List.map Token.av r.2.L) false, .sc (.int .i64 r.2.I), .sc (.int .i64 r.2.End), .sc (.int .i64 r.2.Deep), .sc (.int .i64 r.2.F.E), .sc (.int .i64 r.2.F.At)]]) (g_podestaref15_Eye_match : Eye → Option (Node × Eye)) (H_g_podestaref15_Eye_match : ∀ (x : Eye) (r : Node × Eye) (H : g_podestaref15_Eye_match x = some r), ACalls Try.prog tab.S 44 [.ptr 0 0 none] [.box 44 [.sl 66 (List.map Token.av x.L) false, .sc (.int .i64 x.I), .sc (.int .i64 x.End), .sc (.int .i64 x.Deep), .sc (.int .i64 x.F.E), .sc (.int .i64 x.F.At)]] (Node.ag r.1) [.box 44 [.sl 66 (List.map Token.av r.2.L) false, .sc (.int .i64 r.2.I), .sc (.int .i64 r.2.End), .sc (.int .i64 r.2.Deep), .sc (.int .i64 r.2.F.E), .sc (.int .i64 r.2.F.At)]]) (g_podestaref15_Eye_given : Eye → ByteArray → Int → Option (Node × Eye)) (H_g_podestaref15_Eye_given : ∀ (x : Eye) (s : ByteArray) (at_ : Int) (r : Node × Eye) (H : g_podestaref15_Eye_given x s at_ = some r), ACalls Try.prog tab.S 45 [.ptr 0 0 none, .sc (.string s), .sc (.int .i64 at_)] [.box 44 [.sl 66 (List.map Token.av x.L) false, .sc (.int .i64 x.I), .sc (.int .i64 x.End), .sc (.int .i64 x.Deep), .sc (.int .i64 x.F.E), .sc (.int .i64 x.F.At)]] (Node.ag r.1) [.box 44 [.sl 66 (List.map Token.av r.2.L) false, .sc (.int .i64 r.2.I), .sc (.int .i64 r.2.End), .sc (.int .i64 r.2.Deep), .sc (.int .i64 r.2.F.E), .sc (.int .i64 r.2.F.At)]]) (g_podestaref15_Eye_acts : Eye → Option (Node × Eye)) (H_g_podestaref15_Eye_acts : ∀ (x : Eye) (r : Node × Eye) (H : g_podestaref15_Eye_acts x = some r), ACalls Try.prog tab.S 46 [.ptr 0 0 none] [.box 44 [.sl 66 (List.map Token.av x.L) false, .sc (.int .i64 x.I), .sc (.int .i64 x.End), .sc (.int .i64 x.Deep), .sc (.int .i64 x.F.E), .sc (.int .i64 x.F.At)]] (Node.ag r.1) [.box 44 [.sl 66 (List.map Token.av r.2.L) false, .sc (.int .i64 r.2.I), .sc (.int .i64 r.2.End), .sc (.int .i64 r.2.Deep), .sc (.int .i64 r.2.F.E), .sc (.int .i64 r.2.F.At)]]) (g_podestaref15_Eye_rest : Eye → Node → Bool → Option (Eye × Node)) (H_g_podestaref15_Eye_rest : ∀ (x : Eye) (n : Node) (acts : Bool) (r : Eye × Node) (H : g_podestaref15_Eye_rest x n acts = some r), ACalls Try.prog tab.S 47 [.ptr 0 0 none, .ptr 1 0 none, .sc (.bool acts)] [.box 44 [.sl 66 (List.map Token.av x.L) false, .sc (.int .i64 x.I), .sc (.int .i64 x.End), .sc (.int .i64 x.Deep), .sc (.int .i64 x.F.E), .sc (.int .i64 x.F.At)], .box 29 [.sc (.int .i64 n.Kind), .sc (.string n.Text), .sc (.int .i64 n.Num), .own 2 1000000, .sc (.int .i64 n.At)], .row 29 (List.map Node.av n.Kids) 1000000 true] (.tup []) [.box 44 [.sl 66 (List.map Token.av r.1.L) false, .sc (.int .i64 r.1.I), .sc (.int .i64 r.1.End), .sc (.int .i64 r.1.Deep), .sc (.int .i64 r.1.F.E), .sc (.int .i64 r.1.F.At)], .box 29 [.sc (.int .i64 r.2.Kind), .sc (.string r.2.Text), .sc (.int .i64 r.2.Num), .own 2 1000000, .sc (.int .i64 r.2.At)], .row 29 (List.map Node.av r.2.Kids) 1000000 true]) (g_podestaref15_Eye_stmt : Eye → Option (Node × Eye)) (H_g_podestaref15_Eye_stmt : ∀ (x : Eye) (r : Node × Eye) (H : g_podestaref15_Eye_stmt x = some r), ACalls Try.prog tab.S 36 [.ptr 0 0 none] [.box 44 [.sl 66 (List.map Token.av x.L) false, .sc (.int .i64 x.I), .sc (.int .i64 x.End), .sc (.int .i64 x.Deep), .sc (.int .i64 x.F.E), .sc (.int .i64 x.F.At)]] (Node.ag r.1) [.box 44 [.sl 66 (List.map Token.av r.2.L) false, .sc (.int .i64 r.2.I), .sc (.int .i64 r.2.End), .sc (.int .i64 r.2.Deep), .sc (.int .i64 r.2.F.E), .sc (.int .i64 r.2.F.At)]]) (g_podestaref15_Eye_block : Eye → Option (Node × Eye)) (H_g_podestaref15_Eye_block : ∀ (x : Eye) (r : Node × Eye) (H : g_podestaref15_Eye_block x = some r), ACalls Try.prog tab.S 20 [.ptr 0 0 none] [.box 44 [.sl 66 (List.map Token.av x.L) false, .sc (.int .i64 x.I), .sc (.int .i64 x.End), .sc (.int .i64 x.Deep), .sc (.int .i64 x.F.E), .sc (.int .i64 x.F.At)]] (Node.ag r.1) [.box 44 [.sl 66 (List.map Token.av r.2.L) false, .sc (.int .i64 r.2.I), .sc (.int .i64 r.2.End), .sc (.int .i64 r.2.Deep), .sc (.int .i64 r.2.F.E), .sc (.int .i64 r.2.F.At)]]) (x : Eye) (r : Node × Eye) (H : podestaref15_Eye_one_raw g_podestaref15_Eye_one g_podestaref15_Eye_part g_podestaref15_Eye_Expr g_podestaref15_Eye_match g_podestaref15_Eye_given g_podestaref15_Eye_acts g_podestaref15_Eye_rest g_podestaref15_Eye_stmt g_podestaref15_Eye_block x = some r) : ACalls Try.prog tab.S 58 [.ptr 0 0 none] [.box 44 [.sl 66 (List.map Token.av x.L) false, .sc (.int .i64 x.I), .sc (.int .i64 x.End), .sc (.int .i64 x.Deep), .sc (.int .i64 x.F.E), .sc (.int .i64 x.F.At)]] (Node.ag r.1) [.box 44 [.sl 66 (List.map Token.av r.2.L) false, .sc (.int .i64 r.2.I), .sc (.int .i64 r.2.End), .sc (.int .i64 r.2.Deep), .sc (.int .i64 r.2.F.E), .sc (.int .i64 r.2.F.At)]] := by
  refine .of_AX podestaref15_Eye_one_F Try.func58 fun c0 hc0 => ?_
  rw [podestaref15_Eye_one_raw] at H
  refine .sg 4 [0,2] (.rg (.sg 1 [0,2,6] (bndO H fun v hv H => (.ch [0,2,7] [0] (podestaref15_Eye_down_walk x v hv) (.sg 1 [0,2,8] (.dn (.cd (!v.1) H (fun hb H => ?_) (fun hb H => ?_))))))))
  ·
    refine .sg 2 [2] ?_
    obtain rfl := Option.some.inj H
    exact .ret Try.func58 hc0 [0] [(29, false)]
  ·
    refine .sg 2 [0,2] (.rg (.sg 1 [0,2,10] (bndO H fun v1 hv H => (.ch [0,2,11] [0] (podestaref15_Eye_At_walk v.2 v1 hv) (.sg 1 [0,2,3] (.dn (.sg 3 [0,2,3,4] (.rg (.sg 1 [0,2,3,4,12] (bndO H fun v2 hv H => (.ch [0,2,3,4,13] [0] (podestaref15_Eye_See_walk v1.2 v2 hv) (.sg 1 [0,2,3,4,5] (.dn (.sg 3 [0,2,3,4,5] (.rg (.sg 3 [0,2,3,4,5,21] (.mx 1 [0,2,3,4,5,24] (.sg 1 [0,2,3,4,5,18] (.dn (.cd ((v2.1 == (ByteArray.mk #[45])) || (v2.1 == (ByteArray.mk #[33]))) H (fun hb H => ?_) (fun hb H => ?_)))))))))))))))))))))
    ·
      refine .sg 2 [0,2,3,4,5] (.rg (.sg 2 [0,2,3,4,32,33] (bndO H fun v3 hv H => (.ch [0,2,3,4,32,34] [0] (H_g_podestaref15_Eye_one ({ v2.2 with I := (IntKind.i64.wrap (v2.2.I + 1)) } : Eye) v3 hv) (.bg [0,2,3,4,32,35] Node.av Node.ag Node.av_eq ([v3.1] : List Node) 29 true (.sg 3 [0,2,4] (.dn (.sg 5 [2] ?_))))))))
      obtain rfl := Option.some.inj H
      exact .ret Try.func58 hc0 [0] [(0, false)]
    ·
      refine .sg 2 [0,2,3,4,5,38] (.cd (v2.1 == (ByteArray.mk #[40])) H (fun hb H => ?_) (fun hb H => ?_))
      ·
        refine .sg 3 [0,2,4] (.rg (.sg 1 [0,2,4,48] (bndO H fun v4 hv H => (.ch [0,2,4,49] [0] (H_g_podestaref15_Eye_Expr ({ v2.2 with I := (IntKind.i64.wrap (v2.2.I + 1)) } : Eye) true v4 hv) (.sg 1 [0,2,4] (.dn (.rg (.sg 1 [0,2,4,50] (bndO H fun v5 hv H => (.ch [0,2,4] [0] (podestaref15_Eye_Must_walk v4.2 (ByteArray.mk #[41]) v5 hv) (.dn (.sg 5 [2] ?_))))))))))))
        obtain rfl := Option.some.inj H
        exact .ret Try.func58 hc0 [0]
      ·
        refine .sg 1 [0,2,3,4,5] (.rg (.sg 1 [0,2,3,4,53] (bndO H fun x1 hv H => (.cp [0,2,3,4,54] ((podestaref15_Digits_walk 10000) v2.1 x1 hv) (.sg 1 [0,2,3,4,52] (.dn (.cd x1 H (fun hb H => ?_) (fun hb H => ?_))))))))
        ·
          refine .rg (.sg 1 [0,2,3,4,55] (bndO H fun v6 hv H => (.ch [0,2,3,4,56] [0] (podestaref15_Eye_Int_walk v2.2 v6 hv) (.sg 3 [0,2,4] (.dn (.sg 5 [2] ?_))))))
          obtain rfl := Option.some.inj H
          exact .ret Try.func58 hc0 [0] [(29, false)]
        ·
          refine .rg (.sg 1 [0,2,3,4,14] (bndO H fun v7 hv H => (.ch [0,2,3,4,15] [0] (podestaref15_Eye_Name_walk v2.2 v7 hv) (.sg 3 [0,2,4] (.dn (.sg 5 [2] ?_))))))
          obtain rfl := Option.some.inj H
          exact .ret Try.func58 hc0 [0] [(29, false)]

/-! ### (*podesta/podestaref15.Eye).part: function 53 -/
noncomputable def podestaref15_Eye_part_F : Go.Sh.Fn := ⟨53, bodyOf Try.f53, 48⟩
def podestaref15_Eye_part_l0 (g_podestaref15_Eye_part : Eye → Int → Bool → Option (Node × Eye)) (k1 : Int) (stroke : Bool) (v1 : Node × Eye) : Nat → Bool → List Token → Int → Int → Int → Int → Int → Int → ByteArray → Int → List Node → Option ((List Token) × Int × Int × Int × Int × Int × Int × ByteArray × Int × (List Node))
  | 0, _, _, _, _, _, _, _, _, _, _, _ => none
  | m + 1, again, x_0, x_1, x_2, x_3, x_4_0, x_4_1, n_0, n_1, n_2, n_3 =>
    (bif again then
    (podestaref15_Eye_See_raw ({ L := x_0, I := x_1, End := x_2, Deep := x_3, F := ({ E := x_4_0, At := x_4_1 } : Fault) } : Eye)).bind fun v2 =>
    (bif (podestaref15_in (podestaref15_level k1 stroke) v2.1) then
      (g_podestaref15_Eye_part ({ v2.2 with I := (IntKind.i64.wrap (v2.2.I + 1)) } : Eye) (IntKind.i64.wrap (k1 + 1)) stroke).bind fun v3 =>
      podestaref15_Eye_part_l0 g_podestaref15_Eye_part k1 stroke v1 m (k1 != 2) v3.2.L v3.2.I v3.2.End v3.2.Deep v3.2.F.E v3.2.F.At 20 v2.1 0 [({ Kind := n_0, Text := n_1, Num := n_2, Kids := n_3, At := v1.1.At } : Node), v3.1]
    else
      podestaref15_Eye_part_l0 g_podestaref15_Eye_part k1 stroke v1 m false v2.2.L v2.2.I v2.2.End v2.2.Deep v2.2.F.E v2.2.F.At n_0 n_1 n_2 n_3)
  else
    some (x_0, x_1, x_2, x_3, x_4_0, x_4_1, n_0, n_1, n_2, n_3))
theorem podestaref15_Eye_part_l0_walk (q0 : Nat) (g_podestaref15_Eye_one : Eye → Option (Node × Eye)) (H_g_podestaref15_Eye_one : ∀ (x : Eye) (r : Node × Eye) (H : g_podestaref15_Eye_one x = some r), ACalls Try.prog tab.S 58 [.ptr 0 0 none] [.box 44 [.sl 66 (List.map Token.av x.L) false, .sc (.int .i64 x.I), .sc (.int .i64 x.End), .sc (.int .i64 x.Deep), .sc (.int .i64 x.F.E), .sc (.int .i64 x.F.At)]] (Node.ag r.1) [.box 44 [.sl 66 (List.map Token.av r.2.L) false, .sc (.int .i64 r.2.I), .sc (.int .i64 r.2.End), .sc (.int .i64 r.2.Deep), .sc (.int .i64 r.2.F.E), .sc (.int .i64 r.2.F.At)]]) (g_podestaref15_Eye_part : Eye → Int → Bool → Option (Node × Eye)) (H_g_podestaref15_Eye_part : ∀ (x : Eye) (k1 : Int) (stroke : Bool) (r : Node × Eye) (H : g_podestaref15_Eye_part x k1 stroke = some r), ACalls Try.prog tab.S 53 [.ptr 0 0 none, .sc (.int .i64 k1), .sc (.bool stroke)] [.box 44 [.sl 66 (List.map Token.av x.L) false, .sc (.int .i64 x.I), .sc (.int .i64 x.End), .sc (.int .i64 x.Deep), .sc (.int .i64 x.F.E), .sc (.int .i64 x.F.At)]] (Node.ag r.1) [.box 44 [.sl 66 (List.map Token.av r.2.L) false, .sc (.int .i64 r.2.I), .sc (.int .i64 r.2.End), .sc (.int .i64 r.2.Deep), .sc (.int .i64 r.2.F.E), .sc (.int .i64 r.2.F.At)]]) (g_podestaref15_Eye_Expr : Eye → Bool → Option (Node × Eye)) (H_g_podestaref15_Eye_Expr : ∀ (x : Eye) (stroke : Bool) (r : Node × Eye) (H : g_podestaref15_Eye_Expr x stroke = some r), ACalls Try.prog tab.S 43 [.ptr 0 0 none, .sc (.bool stroke)] [.box 44 [.sl 66 (List.map Token.av x.L) false, .sc (.int .i64 x.I), .sc (.int .i64 x.End), .sc (.int .i64 x.Deep), .sc (.int .i64 x.F.E), .sc (.int .i64 x.F.At)]] (Node.ag r.1) [.box 44 [.sl 66 (List.map Token.av r.2.L) false, .sc (.int .i64 r.2.I), .sc (.int .i64 r.2.End), .sc (.int .i64 r.2.Deep), .sc (.int .i64 r.2.F.E), .sc (.int .i64 r.2.F.At)]]) (g_podestaref15_Eye_match : Eye → Option (Node × Eye)) (H_g_podestaref15_Eye_match : ∀ (x : Eye) (r : Node × Eye) (H : g_podestaref15_Eye_match x = some r), ACalls Try.prog tab.S 44 [.ptr 0 0 none] [.box 44 [.sl 66 (List.map Token.av x.L) false, .sc (.int .i64 x.I), .sc (.int .i64 x.End), .sc (.int .i64 x.Deep), .sc (.int .i64 x.F.E), .sc (.int .i64 x.F.At)]] (Node.ag r.1) [.box 44 [.sl 66 (List.map Token.av r.2.L) false, .sc (.int .i64 r.2.I), .sc (.int .i64 r.2.End), .sc (.int .i64 r.2.Deep), .sc (.int .i64 r.2.F.E), .sc (.int .i64 r.2.F.At)]]) (g_podestaref15_Eye_given : Eye → ByteArray → Int → Option (Node × Eye)) (H_g_podestaref15_Eye_given : ∀ (x : Eye) (s : ByteArray) (at_ : Int) (r : Node × Eye) (H : g_podestaref15_Eye_given x s at_ = some r), ACalls Try.prog tab.S 45 [.ptr 0 0 none, .sc (.string s), .sc (.int .i64 at_)] [.box 44 [.sl 66 (List.map Token.av x.L) false, .sc (.int .i64 x.I), .sc (.int .i64 x.End), .sc (.int .i64 x.Deep), .sc (.int .i64 x.F.E), .sc (.int .i64 x.F.At)]] (Node.ag r.1) [.box 44 [.sl 66 (List.map Token.av r.2.L) false, .sc (.int .i64 r.2.I), .sc (.int .i64 r.2.End), .sc (.int .i64 r.2.Deep), .sc (.int .i64 r.2.F.E), .sc (.int .i64 r.2.F.At)]]) (g_podestaref15_Eye_acts : Eye → Option (Node × Eye)) (H_g_podestaref15_Eye_acts : ∀ (x : Eye) (r : Node × Eye) (H : g_podestaref15_Eye_acts x = some r), ACalls Try.prog tab.S 46 [.ptr 0 0 none] [.box 44 [.sl 66 (List.map Token.av x.L) false, .sc (.int .i64 x.I), .sc (.int .i64 x.End), .sc (.int .i64 x.Deep), .sc (.int .i64 x.F.E), .sc (.int .i64 x.F.At)]] (Node.ag r.1) [.box 44 [.sl 66 (List.map Token.av r.2.L) false, .sc (.int .i64 r.2.I), .sc (.int .i64 r.2.End), .sc (.int .i64 r.2.Deep), .sc (.int .i64 r.2.F.E), .sc (.int .i64 r.2.F.At)]]) (g_podestaref15_Eye_rest : Eye → Node → Bool → Option (Eye × Node)) (H_g_podestaref15_Eye_rest : ∀ (x : Eye) (n : Node) (acts : Bool) (r : Eye × Node) (H : g_podestaref15_Eye_rest x n acts = some r), ACalls Try.prog tab.S 47 [.ptr 0 0 none, .ptr 1 0 none, .sc (.bool acts)] [.box 44 [.sl 66 (List.map Token.av x.L) false, .sc (.int .i64 x.I), .sc (.int .i64 x.End), .sc (.int .i64 x.Deep), .sc (.int .i64 x.F.E), .sc (.int .i64 x.F.At)], .box 29 [.sc (.int .i64 n.Kind), .sc (.string n.Text), .sc (.int .i64 n.Num), .own 2 1000000, .sc (.int .i64 n.At)], .row 29 (List.map Node.av n.Kids) 1000000 true] (.tup []) [.box 44 [.sl 66 (List.map Token.av r.1.L) false, .sc (.int .i64 r.1.I), .sc (.int .i64 r.1.End), .sc (.int .i64 r.1.Deep), .sc (.int .i64 r.1.F.E), .sc (.int .i64 r.1.F.At)], .box 29 [.sc (.int .i64 r.2.Kind), .sc (.string r.2.Text), .sc (.int .i64 r.2.Num), .own 2 1000000, .sc (.int .i64 r.2.At)], .row 29 (List.map Node.av r.2.Kids) 1000000 true]) (g_podestaref15_Eye_stmt : Eye → Option (Node × Eye)) (H_g_podestaref15_Eye_stmt : ∀ (x : Eye) (r : Node × Eye) (H : g_podestaref15_Eye_stmt x = some r), ACalls Try.prog tab.S 36 [.ptr 0 0 none] [.box 44 [.sl 66 (List.map Token.av x.L) false, .sc (.int .i64 x.I), .sc (.int .i64 x.End), .sc (.int .i64 x.Deep), .sc (.int .i64 x.F.E), .sc (.int .i64 x.F.At)]] (Node.ag r.1) [.box 44 [.sl 66 (List.map Token.av r.2.L) false, .sc (.int .i64 r.2.I), .sc (.int .i64 r.2.End), .sc (.int .i64 r.2.Deep), .sc (.int .i64 r.2.F.E), .sc (.int .i64 r.2.F.At)]]) (g_podestaref15_Eye_block : Eye → Option (Node × Eye)) (H_g_podestaref15_Eye_block : ∀ (x : Eye) (r : Node × Eye) (H : g_podestaref15_Eye_block x = some r), ACalls Try.prog tab.S 20 [.ptr 0 0 none] [.box 44 [.sl 66 (List.map Token.av x.L) false, .sc (.int .i64 x.I), .sc (.int .i64 x.End), .sc (.int .i64 x.Deep), .sc (.int .i64 x.F.E), .sc (.int .i64 x.F.At)]] (Node.ag r.1) [.box 44 [.sl 66 (List.map Token.av r.2.L) false, .sc (.int .i64 r.2.I), .sc (.int .i64 r.2.End), .sc (.int .i64 r.2.Deep), .sc (.int .i64 r.2.F.E), .sc (.int .i64 r.2.F.At)]]) (x : Eye) (k1 : Int) (stroke : Bool) (v1 : Node × Eye)  (r : Node × Eye) (c0 : Ctx) (hc0 : c0.m.length = 1) (res : (List Token) × Int × Int × Int × Int × Int × Int × ByteArray × Int × (List Node)) (J : AX Try.prog tab podestaref15_Eye_part_F c0 (Rp tab.S c0 (Node.ag r.1) [.box 44 [.sl 66 (List.map Token.av r.2.L) false, .sc (.int .i64 r.2.I), .sc (.int .i64 r.2.End), .sc (.int .i64 r.2.Deep), .sc (.int .i64 r.2.F.E), .sc (.int .i64 r.2.F.At)]]) (some ⟨[.code [1, 1, 1, 1]], [(6, .ptr 1 0 none), (7, .ptr 2 0 none)], [.box 44 [.sl 66 (List.map Token.av res.1) false, .sc (.int .i64 res.2.1), .sc (.int .i64 res.2.2.1), .sc (.int .i64 res.2.2.2.1), .sc (.int .i64 res.2.2.2.2.1), .sc (.int .i64 res.2.2.2.2.2.1)], .box 29 [.sc (.int .i64 0), .sc (.string ⟨#[]⟩), .sc (.int .i64 0), .sl 0 [] true, .sc (.int .i64 0)], .box 29 [.sc (.int .i64 res.2.2.2.2.2.2.1), .sc (.string res.2.2.2.2.2.2.2.1), .sc (.int .i64 res.2.2.2.2.2.2.2.2.1), .sl 29 (List.map Node.av res.2.2.2.2.2.2.2.2.2) false, .sc (.int .i64 v1.1.At)]]⟩)) :
    ∀ (m : Nat) (again : Bool) (x_0 : List Token) (x_1 : Int) (x_2 : Int) (x_3 : Int) (x_4_0 : Int) (x_4_1 : Int) (n_0 : Int) (n_1 : ByteArray) (n_2 : Int) (n_3 : List Node) (H : podestaref15_Eye_part_l0 g_podestaref15_Eye_part k1 stroke v1 m again x_0 x_1 x_2 x_3 x_4_0 x_4_1 n_0 n_1 n_2 n_3 = some res), AX Try.prog tab podestaref15_Eye_part_F c0 (Rp tab.S c0 (Node.ag r.1) [.box 44 [.sl 66 (List.map Token.av r.2.L) false, .sc (.int .i64 r.2.I), .sc (.int .i64 r.2.End), .sc (.int .i64 r.2.Deep), .sc (.int .i64 r.2.F.E), .sc (.int .i64 r.2.F.At)]]) (some ⟨[.code [1, 1, 1, 0, 1, 0, 0], .loop [1, 1, 1, 0, 1, 0], .blk 0, .code [1, 1, 1, 1]], [(0, .ptr 0 0 none), (1, .sc (.int .i64 k1)), (2, .sc (.bool stroke)), (6, .ptr 1 0 none), (7, .ptr 2 0 none), (8, .sc (.bool again))], [.box 44 [.sl 66 (List.map Token.av x_0) false, .sc (.int .i64 x_1), .sc (.int .i64 x_2), .sc (.int .i64 x_3), .sc (.int .i64 x_4_0), .sc (.int .i64 x_4_1)], .box 29 [.sc (.int .i64 0), .sc (.string ⟨#[]⟩), .sc (.int .i64 0), .sl 0 [] true, .sc (.int .i64 0)], .box 29 [.sc (.int .i64 n_0), .sc (.string n_1), .sc (.int .i64 n_2), .sl 29 (List.map Node.av n_3) false, .sc (.int .i64 v1.1.At)]]⟩) := by
  intro m
  induction m with
  | zero => intro again x_0 x_1 x_2 x_3 x_4_0 x_4_1 n_0 n_1 n_2 n_3 H; cases H
  | succ m ih =>
    intro again x_0 x_1 x_2 x_3 x_4_0 x_4_1 n_0 n_1 n_2 n_3 H
    rw [podestaref15_Eye_part_l0] at H
    refine .sg 3 [0,1,2,6,7,19] (.cd again H (fun hb H => ?_) (fun hb H => ?_))
    ·
      refine .sg 5 [0,1,2,6,7,8] (.rg (.sg 1 [0,1,2,6,7,8,20] (bndO H fun v2 hv H => (.ch [0,1,2,6,7,8,21] [0] (podestaref15_Eye_See_walk ({ L := x_0, I := x_1, End := x_2, Deep := x_3, F := ({ E := x_4_0, At := x_4_1 } : Fault) } : Eye) v2 hv) (.sg 1 [0,1,2,6,7,8,9] (.dn (.sg 1 [0,1,2,6,7,8,9] (.rg (.sg 2 [0,1,2,6,7,8,9,22,23] (.cp [0,1,2,6,7,8,9,24] (podestaref15_level_calls k1 stroke) (.sg 1 [0,1,2,6,7,8,9,24,25] (.cp [0,1,2,6,7,8,9,26] (podestaref15_in_calls (podestaref15_level k1 stroke) v2.1 true) (.dn (.cd (podestaref15_in (podestaref15_level k1 stroke) v2.1) H (fun hb H => ?_) (fun hb H => ?_)))))))))))))))
      ·
        exact .sg 3 [0,1,2,6,7,9] (bndO H fun v3 hv_v3 H => (.rp hc0 [0, 1, 2, 6, 7] [⟨6, [], [], .loud, [(36, .ptr 0 0 none), (38, .sc (.int .i64 (IntKind.i64.wrap (k1 + 1)))), (39, .sc (.bool stroke))], [.box 44 [.sl 66 (List.map Token.av v2.2.L) false, .sc (.int .i64 (IntKind.i64.wrap (v2.2.I + 1))), .sc (.int .i64 v2.2.End), .sc (.int .i64 v2.2.Deep), .sc (.int .i64 v2.2.F.E), .sc (.int .i64 v2.2.F.At)], .box 29 [.sc (.int .i64 0), .sc (.string ⟨#[]⟩), .sc (.int .i64 0), .sl 0 [] true, .sc (.int .i64 0)], .box 29 [.sc (.int .i64 n_0), .sc (.string n_1), .sc (.int .i64 n_2), .sl 29 (List.map Node.av n_3) false, .sc (.int .i64 v1.1.At)]], Node.ag v3.1, [.box 44 [.sl 66 (List.map Token.av v3.2.L) false, .sc (.int .i64 v3.2.I), .sc (.int .i64 v3.2.End), .sc (.int .i64 v3.2.Deep), .sc (.int .i64 v3.2.F.E), .sc (.int .i64 v3.2.F.At)], .box 29 [.sc (.int .i64 0), .sc (.string ⟨#[]⟩), .sc (.int .i64 0), .sl 0 [] true, .sc (.int .i64 0)], .box 29 [.sc (.int .i64 n_0), .sc (.string n_1), .sc (.int .i64 n_2), .sl 29 (List.map Node.av n_3) false, .sc (.int .i64 v1.1.At)]]⟩, ⟨7, [], [], .pure, [(35, .agg [.sc (.int .i64 n_0), .sc (.string n_1), .sc (.int .i64 n_2), .sl 29 (List.map Node.av n_3) false, .sc (.int .i64 v1.1.At)]), (40, Node.ag v3.1)], [.box 44 [.sl 66 (List.map Token.av v3.2.L) false, .sc (.int .i64 v3.2.I), .sc (.int .i64 v3.2.End), .sc (.int .i64 v3.2.Deep), .sc (.int .i64 v3.2.F.E), .sc (.int .i64 v3.2.F.At)], .box 29 [.sc (.int .i64 0), .sc (.string ⟨#[]⟩), .sc (.int .i64 0), .sl 0 [] true, .sc (.int .i64 0)], .box 29 [.sc (.int .i64 n_0), .sc (.string n_1), .sc (.int .i64 n_2), .sl 29 (List.map Node.av n_3) false, .sc (.int .i64 v1.1.At)]], .sl 29 (List.map Node.av [({ Kind := n_0, Text := n_1, Num := n_2, Kids := n_3, At := v1.1.At } : Node), v3.1]) true, [.box 44 [.sl 66 (List.map Token.av v3.2.L) false, .sc (.int .i64 v3.2.I), .sc (.int .i64 v3.2.End), .sc (.int .i64 v3.2.Deep), .sc (.int .i64 v3.2.F.E), .sc (.int .i64 v3.2.F.At)], .box 29 [.sc (.int .i64 0), .sc (.string ⟨#[]⟩), .sc (.int .i64 0), .sl 0 [] true, .sc (.int .i64 0)], .box 29 [.sc (.int .i64 n_0), .sc (.string n_1), .sc (.int .i64 n_2), .sl 29 (List.map Node.av n_3) false, .sc (.int .i64 v1.1.At)]]⟩] [[0, 1, 2], [0, 1, 2], [0, 1, 2], [0, 1, 2], [0, 1, 2], [0, 1, 2]] (.cons (LQ.ch [0] (H_g_podestaref15_Eye_part ({ v2.2 with I := (IntKind.i64.wrap (v2.2.I + 1)) } : Eye) (IntKind.i64.wrap (k1 + 1)) stroke v3 hv_v3)) (.cons (LQ.bg Node.av Node.ag Node.av_eq ([({ Kind := n_0, Text := n_1, Num := n_2, Kids := n_3, At := v1.1.At } : Node), v3.1] : List Node) 29 true) .nil)) (by kernel_rfl) (.sg 2 [0,1,2,6,7,8] (.kp [0,1,2,6,7,8] (.wh [(0, true), (0, true), (0, false)] (.into (.to (ih (k1 != 2) v3.2.L v3.2.I v3.2.End v3.2.Deep v3.2.F.E v3.2.F.At 20 v2.1 0 [({ Kind := n_0, Text := n_1, Num := n_2, Kids := n_3, At := v1.1.At } : Node), v3.1] H))))))))
      ·
        exact .sg 2 [0,1,2,6,7,8] (.kp [0,1,2,6,7,8] (.into (.to (ih false v2.2.L v2.2.I v2.2.End v2.2.Deep v2.2.F.E v2.2.F.At n_0 n_1 n_2 n_3 H))))
    ·
      refine .sg 1 [6,7] (.kp [6,7] ?_)
      obtain rfl := Option.some.inj H
      exact .to J
def podestaref15_Eye_part_raw (q0 : Nat) (g_podestaref15_Eye_one : Eye → Option (Node × Eye)) (g_podestaref15_Eye_part : Eye → Int → Bool → Option (Node × Eye)) (g_podestaref15_Eye_Expr : Eye → Bool → Option (Node × Eye)) (g_podestaref15_Eye_match : Eye → Option (Node × Eye)) (g_podestaref15_Eye_given : Eye → ByteArray → Int → Option (Node × Eye)) (g_podestaref15_Eye_acts : Eye → Option (Node × Eye)) (g_podestaref15_Eye_rest : Eye → Node → Bool → Option (Eye × Node)) (g_podestaref15_Eye_stmt : Eye → Option (Node × Eye)) (g_podestaref15_Eye_block : Eye → Option (Node × Eye)) (x : Eye) (k1 : Int) (stroke : Bool) : Option (Node × Eye) :=
  (bif (k1 == 5) then
    (g_podestaref15_Eye_one x).bind fun v =>
    some (v.1, v.2)
  else
    (g_podestaref15_Eye_part x (IntKind.i64.wrap (k1 + 1)) stroke).bind fun v1 =>
    (podestaref15_Eye_part_l0 g_podestaref15_Eye_part k1 stroke v1 q0 true v1.2.L v1.2.I v1.2.End v1.2.Deep v1.2.F.E v1.2.F.At v1.1.Kind v1.1.Text v1.1.Num v1.1.Kids).bind fun v2 =>
    some (({ Kind := v2.2.2.2.2.2.2.1, Text := v2.2.2.2.2.2.2.2.1, Num := v2.2.2.2.2.2.2.2.2.1, Kids := v2.2.2.2.2.2.2.2.2.2, At := v1.1.At } : Node), ({ L := v2.1, I := v2.2.1, End := v2.2.2.1, Deep := v2.2.2.2.1, F := ({ E := v2.2.2.2.2.1, At := v2.2.2.2.2.2.1 } : Fault) } : Eye)))
theorem podestaref15_Eye_part_walk (q0 : Nat) (g_podestaref15_Eye_one : Eye → Option (Node × Eye)) (H_g_podestaref15_Eye_one : ∀ (x : Eye) (r : Node × Eye) (H : g_podestaref15_Eye_one x = some r), ACalls Try.prog tab.S 58 [.ptr 0 0 none] [.box 44 [.sl 66 (List.map Token.av x.L) false, .sc (.int .i64 x.I), .sc (.int .i64 x.End), .sc (.int .i64 x.Deep), .sc (.int .i64 x.F.E), .sc (.int .i64 x.F.At)]] (Node.ag r.1) [.box 44 [.sl 66 (List.map Token.av r.2.L) false, .sc (.int .i64 r.2.I), .sc (.int .i64 r.2.End), .sc (.int .i64 r.2.Deep), .sc (.int .i64 r.2.F.E), .sc (.int .i64 r.2.F.At)]]) (g_podestaref15_Eye_part : Eye → Int → Bool → Option (Node × Eye)) (H_g_podestaref15_Eye_part : ∀ (x : Eye) (k1 : Int) (stroke : Bool) (r : Node × Eye) (H : g_podestaref15_Eye_part x k1 stroke = some r), ACalls Try.prog tab.S 53 [.ptr 0 0 none, .sc (.int .i64 k1), .sc (.bool stroke)] [.box 44 [.sl 66 (List.map Token.av x.L) false, .sc (.int .i64 x.I), .sc (.int .i64 x.End), .sc (.int .i64 x.Deep), .sc (.int .i64 x.F.E), .sc (.int .i64 x.F.At)]] (Node.ag r.1) [.box 44 [.sl 66 (List.map Token.av r.2.L) false, .sc (.int .i64 r.2.I), .sc (.int .i64 r.2.End), .sc (.int .i64 r.2.Deep), .sc (.int .i64 r.2.F.E), .sc (.int .i64 r.2.F.At)]]) (g_podestaref15_Eye_Expr : Eye → Bool → Option (Node × Eye)) (H_g_podestaref15_Eye_Expr : ∀ (x : Eye) (stroke : Bool) (r : Node × Eye) (H : g_podestaref15_Eye_Expr x stroke = some r), ACalls Try.prog tab.S 43 [.ptr 0 0 none, .sc (.bool stroke)] [.box 44 [.sl 66 (List.map Token.av x.L) false, .sc (.int .i64 x.I), .sc (.int .i64 x.End), .sc (.int .i64 x.Deep), .sc (.int .i64 x.F.E), .sc (.int .i64 x.F.At)]] (Node.ag r.1) [.box 44 [.sl 66 (List.map Token.av r.2.L) false, .sc (.int .i64 r.2.I), .sc (.int .i64 r.2.End), .sc (.int .i64 r.2.Deep), .sc (.int .i64 r.2.F.E), .sc (.int .i64 r.2.F.At)]]) (g_podestaref15_Eye_match : Eye → Option (Node × Eye)) (H_g_podestaref15_Eye_match : ∀ (x : Eye) (r : Node × Eye) (H : g_podestaref15_Eye_match x = some r), ACalls Try.prog tab.S 44 [.ptr 0 0 none] [.box 44 [.sl 66 (List.map Token.av x.L) false, .sc (.int .i64 x.I), .sc (.int .i64 x.End), .sc (.int .i64 x.Deep), .sc (.int .i64 x.F.E), .sc (.int .i64 x.F.At)]] (Node.ag r.1) [.box 44 [.sl 66 (List.map Token.av r.2.L) false, .sc (.int .i64 r.2.I), .sc (.int .i64 r.2.End), .sc (.int .i64 r.2.Deep), .sc (.int .i64 r.2.F.E), .sc (.int .i64 r.2.F.At)]]) (g_podestaref15_Eye_given : Eye → ByteArray → Int → Option (Node × Eye)) (H_g_podestaref15_Eye_given : ∀ (x : Eye) (s : ByteArray) (at_ : Int) (r : Node × Eye) (H : g_podestaref15_Eye_given x s at_ = some r), ACalls Try.prog tab.S 45 [.ptr 0 0 none, .sc (.string s), .sc (.int .i64 at_)] [.box 44 [.sl 66 (List.map Token.av x.L) false, .sc (.int .i64 x.I), .sc (.int .i64 x.End), .sc (.int .i64 x.Deep), .sc (.int .i64 x.F.E), .sc (.int .i64 x.F.At)]] (Node.ag r.1) [.box 44 [.sl 66 (List.map Token.av r.2.L) false, .sc (.int .i64 r.2.I), .sc (.int .i64 r.2.End), .sc (.int .i64 r.2.Deep), .sc (.int .i64 r.2.F.E), .sc (.int .i64 r.2.F.At)]]) (g_podestaref15_Eye_acts : Eye → Option (Node × Eye)) (H_g_podestaref15_Eye_acts : ∀ (x : Eye) (r : Node × Eye) (H : g_podestaref15_Eye_acts x = some r), ACalls Try.prog tab.S 46 [.ptr 0 0 none] [.box 44 [.sl 66 (List.map Token.av x.L) false, .sc (.int .i64 x.I), .sc (.int .i64 x.End), .sc (.int .i64 x.Deep), .sc (.int .i64 x.F.E), .sc (.int .i64 x.F.At)]] (Node.ag r.1) [.box 44 [.sl 66 (List.map Token.av r.2.L) false, .sc (.int .i64 r.2.I), .sc (.int .i64 r.2.End), .sc (.int .i64 r.2.Deep), .sc (.int .i64 r.2.F.E), .sc (.int .i64 r.2.F.At)]]) (g_podestaref15_Eye_rest : Eye → Node → Bool → Option (Eye × Node)) (H_g_podestaref15_Eye_rest : ∀ (x : Eye) (n : Node) (acts : Bool) (r : Eye × Node) (H : g_podestaref15_Eye_rest x n acts = some r), ACalls Try.prog tab.S 47 [.ptr 0 0 none, .ptr 1 0 none, .sc (.bool acts)] [.box 44 [.sl 66 (List.map Token.av x.L) false, .sc (.int .i64 x.I), .sc (.int .i64 x.End), .sc (.int .i64 x.Deep), .sc (.int .i64 x.F.E), .sc (.int .i64 x.F.At)], .box 29 [.sc (.int .i64 n.Kind), .sc (.string n.Text), .sc (.int .i64 n.Num), .own 2 1000000, .sc (.int .i64 n.At)], .row 29 (List.map Node.av n.Kids) 1000000 true] (.tup []) [.box 44 [.sl 66 (List.map Token.av r.1.L) false, .sc (.int .i64 r.1.I), .sc (.int .i64 r.1.End), .sc (.int .i64 r.1.Deep), .sc (.int .i64 r.1.F.E), .sc (.int .i64 r.1.F.At)], .box 29 [.sc (.int .i64 r.2.Kind), .sc (.string r.2.Text), .sc (.int .i64 r.2.Num), .own 2 1000000, .sc (.int .i64 r.2.At)], .row 29 (List.map Node.av r.2.Kids) 1000000 true]) (g_podestaref15_Eye_stmt : Eye → Option (Node × Eye)) (H_g_podestaref15_Eye_stmt : ∀ (x : Eye) (r : Node × Eye) (H : g_podestaref15_Eye_stmt x = some r), ACalls Try.prog tab.S 36 [.ptr 0 0 none] [.box 44 [.sl 66 (List.map Token.av x.L) false, .sc (.int .i64 x.I), .sc (.int .i64 x.End), .sc (.int .i64 x.Deep), .sc (.int .i64 x.F.E), .sc (.int .i64 x.F.At)]] (Node.ag r.1) [.box 44 [.sl 66 (List.map Token.av r.2.L) false, .sc (.int .i64 r.2.I), .sc (.int .i64 r.2.End), .sc (.int .i64 r.2.Deep), .sc (.int .i64 r.2.F.E), .sc (.int .i64 r.2.F.At)]]) (g_podestaref15_Eye_block : Eye → Option (Node × Eye)) (H_g_podestaref15_Eye_block : ∀ (x : Eye) (r : Node × Eye) (H : g_podestaref15_Eye_block x = some r), ACalls Try.prog tab.S 20 [.ptr 0 0 none] [.box 44 [.sl 66 (List.map Token.av x.L) false, .sc (.int .i64 x.I), .sc (.int .i64 x.End), .sc (.int .i64 x.Deep), .sc (.int .i64 x.F.E), .sc (.int .i64 x.F.At)]] (Node.ag r.1) [.box 44 [.sl 66 (List.map Token.av r.2.L) false, .sc (.int .i64 r.2.I), .sc (.int .i64 r.2.End), .sc (.int .i64 r.2.Deep), .sc (.int .i64 r.2.F.E), .sc (.int .i64 r.2.F.At)]]) (x : Eye) (k1 : Int) (stroke : Bool) (r : Node × Eye) (H : podestaref15_Eye_part_raw q0 g_podestaref15_Eye_one g_podestaref15_Eye_part g_podestaref15_Eye_Expr g_podestaref15_Eye_match g_podestaref15_Eye_given g_podestaref15_Eye_acts g_podestaref15_Eye_rest g_podestaref15_Eye_stmt g_podestaref15_Eye_block x k1 stroke = some r) : ACalls Try.prog tab.S 53 [.ptr 0 0 none, .sc (.int .i64 k1), .sc (.bool stroke)] [.box 44 [.sl 66 (List.map Token.av x.L) false, .sc (.int .i64 x.I), .sc (.int .i64 x.End), .sc (.int .i64 x.Deep), .sc (.int .i64 x.F.E), .sc (.int .i64 x.F.At)]] (Node.ag r.1) [.box 44 [.sl 66 (List.map Token.av r.2.L) false, .sc (.int .i64 r.2.I), .sc (.int .i64 r.2.End), .sc (.int .i64 r.2.Deep), .sc (.int .i64 r.2.F.E), .sc (.int .i64 r.2.F.At)]] := by
  refine .of_AX podestaref15_Eye_part_F Try.func53 fun c0 hc0 => ?_
  rw [podestaref15_Eye_part_raw] at H
  refine .sg 5 [0,1,2,6,11] (.cd (k1 == 5) H (fun hb H => ?_) (fun hb H => ?_))
  ·
    refine .sg 1 [0,6] (.rg (.sg 1 [6,12] (bndO H fun v hv H => (.ch [6,13] [0] (H_g_podestaref15_Eye_one x v hv) (.sg 1 [6] (.dn ?_))))))
    obtain rfl := Option.some.inj H
    exact .ret Try.func53 hc0 [0]
  ·
    refine .sg 2 [0,1,2,6] (.rg (.sg 4 [0,1,2,6,14,16,17] (bndO H fun v1 hv H => (.ch [0,1,2,6,18] [0] (H_g_podestaref15_Eye_part x (IntKind.i64.wrap (k1 + 1)) stroke v1 hv) (.sg 2 [0,1,2,6,7] (.dn (.sg 4 [0,1,2,6,7,8] ?_)))))))
    refine bndO H fun v2 hv H => (.into (.to (podestaref15_Eye_part_l0_walk q0 g_podestaref15_Eye_one H_g_podestaref15_Eye_one g_podestaref15_Eye_part H_g_podestaref15_Eye_part g_podestaref15_Eye_Expr H_g_podestaref15_Eye_Expr g_podestaref15_Eye_match H_g_podestaref15_Eye_match g_podestaref15_Eye_given H_g_podestaref15_Eye_given g_podestaref15_Eye_acts H_g_podestaref15_Eye_acts g_podestaref15_Eye_rest H_g_podestaref15_Eye_rest g_podestaref15_Eye_stmt H_g_podestaref15_Eye_stmt g_podestaref15_Eye_block H_g_podestaref15_Eye_block x k1 stroke v1 r c0 hc0 v2 ?_ q0 true v1.2.L v1.2.I v1.2.End v1.2.Deep v1.2.F.E v1.2.F.At v1.1.Kind v1.1.Text v1.1.Num v1.1.Kids hv)))
    refine .sg 2 [6] ?_
    obtain rfl := Option.some.inj H
    exact .ret Try.func53 hc0 [0]

/-! ### (*podesta/podestaref15.Eye).Expr: function 43 -/
noncomputable def podestaref15_Eye_Expr_F : Go.Sh.Fn := ⟨43, bodyOf Try.f43, 21⟩
def podestaref15_Eye_Expr_raw (g_podestaref15_Eye_one : Eye → Option (Node × Eye)) (g_podestaref15_Eye_part : Eye → Int → Bool → Option (Node × Eye)) (g_podestaref15_Eye_Expr : Eye → Bool → Option (Node × Eye)) (g_podestaref15_Eye_match : Eye → Option (Node × Eye)) (g_podestaref15_Eye_given : Eye → ByteArray → Int → Option (Node × Eye)) (g_podestaref15_Eye_acts : Eye → Option (Node × Eye)) (g_podestaref15_Eye_rest : Eye → Node → Bool → Option (Eye × Node)) (g_podestaref15_Eye_stmt : Eye → Option (Node × Eye)) (g_podestaref15_Eye_block : Eye → Option (Node × Eye)) (x : Eye) (stroke : Bool) : Option (Node × Eye) :=
  (podestaref15_Eye_down_raw x).bind fun v =>
  (bif (!v.1) then
    some (({ Kind := 0, Text := ⟨#[]⟩, Num := 0, Kids := [], At := 0 } : Node), v.2)
  else
    (g_podestaref15_Eye_part v.2 0 stroke).bind fun v1 =>
    some (v1.1, ({ v1.2 with Deep := (IntKind.i64.wrap (v1.2.Deep - 1)) } : Eye)))
theorem podestaref15_Eye_Expr_walk (g_podestaref15_Eye_one : Eye → Option (Node × Eye)) (H_g_podestaref15_Eye_one : ∀ (x : Eye) (r : Node × Eye) (H : g_podestaref15_Eye_one x = some r), ACalls Try.prog tab.S 58 [.ptr 0 0 none] [.box 44 [.sl 66 (List.map Token.av x.L) false, .sc (.int .i64 x.I), .sc (.int .i64 x.End), .sc (.int .i64 x.Deep), .sc (.int .i64 x.F.E), .sc (.int .i64 x.F.At)]] (Node.ag r.1) [.box 44 [.sl 66 (List.map Token.av r.2.L) false, .sc (.int .i64 r.2.I), .sc (.int .i64 r.2.End), .sc (.int .i64 r.2.Deep), .sc (.int .i64 r.2.F.E), .sc (.int .i64 r.2.F.At)]]) (g_podestaref15_Eye_part : Eye → Int → Bool → Option (Node × Eye)) (H_g_podestaref15_Eye_part : ∀ (x : Eye) (k1 : Int) (stroke : Bool) (r : Node × Eye) (H : g_podestaref15_Eye_part x k1 stroke = some r), ACalls Try.prog tab.S 53 [.ptr 0 0 none, .sc (.int .i64 k1), .sc (.bool stroke)] [.box 44 [.sl 66 (List.map Token.av x.L) false, .sc (.int .i64 x.I), .sc (.int .i64 x.End), .sc (.int .i64 x.Deep), .sc (.int .i64 x.F.E), .sc (.int .i64 x.F.At)]] (Node.ag r.1) [.box 44 [.sl 66 (List.map Token.av r.2.L) false, .sc (.int .i64 r.2.I), .sc (.int .i64 r.2.End), .sc (.int .i64 r.2.Deep), .sc (.int .i64 r.2.F.E), .sc (.int .i64 r.2.F.At)]]) (g_podestaref15_Eye_Expr : Eye → Bool → Option (Node × Eye)) (H_g_podestaref15_Eye_Expr : ∀ (x : Eye) (stroke : Bool) (r : Node × Eye) (H : g_podestaref15_Eye_Expr x stroke = some r), ACalls Try.prog tab.S 43 [.ptr 0 0 none, .sc (.bool stroke)] [.box 44 [.sl 66 (List.map Token.av x.L) false, .sc (.int .i64 x.I), .sc (.int .i64 x.End), .sc (.int .i64 x.Deep), .sc (.int .i64 x.F.E), .sc (.int .i64 x.F.At)]] (Node.ag r.1) [.box 44 [.sl 66 (List.map Token.av r.2.L) false, .sc (.int .i64 r.2.I), .sc (.int .i64 r.2.End), .sc (.int .i64 r.2.Deep), .sc (.int .i64 r.2.F.E), .sc (.int .i64 r.2.F.At)]]) (g_podestaref15_Eye_match : Eye → Option (Node × Eye)) (H_g_podestaref15_Eye_match : ∀ (x : Eye) (r : Node × Eye) (H : g_podestaref15_Eye_match x = some r), ACalls Try.prog tab.S 44 [.ptr 0 0 none] [.box 44 [.sl 66 (List.map Token.av x.L) false, .sc (.int .i64 x.I), .sc (.int .i64 x.End), .sc (.int .i64 x.Deep), .sc (.int .i64 x.F.E), .sc (.int .i64 x.F.At)]] (Node.ag r.1) [.box 44 [.sl 66 (List.map Token.av r.2.L) false, .sc (.int .i64 r.2.I), .sc (.int .i64 r.2.End), .sc (.int .i64 r.2.Deep), .sc (.int .i64 r.2.F.E), .sc (.int .i64 r.2.F.At)]]) (g_podestaref15_Eye_given : Eye → ByteArray → Int → Option (Node × Eye)) (H_g_podestaref15_Eye_given : ∀ (x : Eye) (s : ByteArray) (at_ : Int) (r : Node × Eye) (H : g_podestaref15_Eye_given x s at_ = some r), ACalls Try.prog tab.S 45 [.ptr 0 0 none, .sc (.string s), .sc (.int .i64 at_)] [.box 44 [.sl 66 (List.map Token.av x.L) false, .sc (.int .i64 x.I), .sc (.int .i64 x.End), .sc (.int .i64 x.Deep), .sc (.int .i64 x.F.E), .sc (.int .i64 x.F.At)]] (Node.ag r.1) [.box 44 [.sl 66 (List.map Token.av r.2.L) false, .sc (.int .i64 r.2.I), .sc (.int .i64 r.2.End), .sc (.int .i64 r.2.Deep), .sc (.int .i64 r.2.F.E), .sc (.int .i64 r.2.F.At)]]) (g_podestaref15_Eye_acts : Eye → Option (Node × Eye)) (H_g_podestaref15_Eye_acts : ∀ (x : Eye) (r : Node × Eye) (H : g_podestaref15_Eye_acts x = some r), ACalls Try.prog tab.S 46 [.ptr 0 0 none] [.box 44 [.sl 66 (List.map Token.av x.L) false, .sc (.int .i64 x.I), .sc (.int .i64 x.End), .sc (.int .i64 x.Deep), .sc (.int .i64 x.F.E), .sc (.int .i64 x.F.At)]] (Node.ag r.1) [.box 44 [.sl 66 (List.map Token.av r.2.L) false, .sc (.int .i64 r.2.I), .sc (.int .i64 r.2.End), .sc (.int .i64 r.2.Deep), .sc (.int .i64 r.2.F.E), .sc (.int .i64 r.2.F.At)]]) (g_podestaref15_Eye_rest : Eye → Node → Bool → Option (Eye × Node)) (H_g_podestaref15_Eye_rest : ∀ (x : Eye) (n : Node) (acts : Bool) (r : Eye × Node) (H : g_podestaref15_Eye_rest x n acts = some r), ACalls Try.prog tab.S 47 [.ptr 0 0 none, .ptr 1 0 none, .sc (.bool acts)] [.box 44 [.sl 66 (List.map Token.av x.L) false, .sc (.int .i64 x.I), .sc (.int .i64 x.End), .sc (.int .i64 x.Deep), .sc (.int .i64 x.F.E), .sc (.int .i64 x.F.At)], .box 29 [.sc (.int .i64 n.Kind), .sc (.string n.Text), .sc (.int .i64 n.Num), .own 2 1000000, .sc (.int .i64 n.At)], .row 29 (List.map Node.av n.Kids) 1000000 true] (.tup []) [.box 44 [.sl 66 (List.map Token.av r.1.L) false, .sc (.int .i64 r.1.I), .sc (.int .i64 r.1.End), .sc (.int .i64 r.1.Deep), .sc (.int .i64 r.1.F.E), .sc (.int .i64 r.1.F.At)], .box 29 [.sc (.int .i64 r.2.Kind), .sc (.string r.2.Text), .sc (.int .i64 r.2.Num), .own 2 1000000, .sc (.int .i64 r.2.At)], .row 29 (List.map Node.av r.2.Kids) 1000000 true]) (g_podestaref15_Eye_stmt : Eye → Option (Node × Eye)) (H_g_podestaref15_Eye_stmt : ∀ (x : Eye) (r : Node × Eye) (H : g_podestaref15_Eye_stmt x = some r), ACalls Try.prog tab.S 36 [.ptr 0 0 none] [.box 44 [.sl 66 (List.map Token.av x.L) false, .sc (.int .i64 x.I), .sc (.int .i64 x.End), .sc (.int .i64 x.Deep), .sc (.int .i64 x.F.E), .sc (.int .i64 x.F.At)]] (Node.ag r.1) [.box 44 [.sl 66 (List.map Token.av r.2.L) false, .sc (.int .i64 r.2.I), .sc (.int .i64 r.2.End), .sc (.int .i64 r.2.Deep), .sc (.int .i64 r.2.F.E), .sc (.int .i64 r.2.F.At)]]) (g_podestaref15_Eye_block : Eye → Option (Node × Eye)) (H_g_podestaref15_Eye_block : ∀ (x : Eye) (r : Node × Eye) (H : g_podestaref15_Eye_block x = some r), ACalls Try.prog tab.S 20 [.ptr 0 0 none] [.box 44 [.sl 66 (List.map Token.av x.L) false, .sc (.int .i64 x.I), .sc (.int .i64 x.End), .sc (.int .i64 x.Deep), .sc (.int .i64 x.F.E), .sc (.int .i64 x.F.At)]] (Node.ag r.1) [.box 44 [.sl 66 (List.map Token.av r.2.L) false, .sc (.int .i64 r.2.I), .sc (.int .i64 r.2.End), .sc (.int .i64 r.2.Deep), .sc (.int .i64 r.2.F.E), .sc (.int .i64 r.2.F.At)]]) (x : Eye) (stroke : Bool) (r : Node × Eye) (H : podestaref15_Eye_Expr_raw g_podestaref15_Eye_one g_podestaref15_Eye_part g_podestaref15_Eye_Expr g_podestaref15_Eye_match g_podestaref15_Eye_given g_podestaref15_Eye_acts g_podestaref15_Eye_rest g_podestaref15_Eye_stmt g_podestaref15_Eye_block x stroke = some r) : ACalls Try.prog tab.S 43 [.ptr 0 0 none, .sc (.bool stroke)] [.box 44 [.sl 66 (List.map Token.av x.L) false, .sc (.int .i64 x.I), .sc (.int .i64 x.End), .sc (.int .i64 x.Deep), .sc (.int .i64 x.F.E), .sc (.int .i64 x.F.At)]] (Node.ag r.1) [.box 44 [.sl 66 (List.map Token.av r.2.L) false, .sc (.int .i64 r.2.I), .sc (.int .i64 r.2.End), .sc (.int .i64 r.2.Deep), .sc (.int .i64 r.2.F.E), .sc (.int .i64 r.2.F.At)]] := by
  refine .of_AX podestaref15_Eye_Expr_F Try.func43 fun c0 hc0 => ?_
  rw [podestaref15_Eye_Expr_raw] at H
  refine .sg 4 [0,1,4] (.rg (.sg 1 [0,1,4,6] (bndO H fun v hv H => (.ch [0,1,4,7] [0] (podestaref15_Eye_down_walk x v hv) (.sg 1 [0,1,4,8] (.dn (.cd (!v.1) H (fun hb H => ?_) (fun hb H => ?_))))))))
  ·
    refine .sg 2 [4] ?_
    obtain rfl := Option.some.inj H
    exact .ret Try.func43 hc0 [0] [(29, false)]
  ·
    refine .sg 2 [0,1,4] (.rg (.sg 2 [0,4,10,11] (bndO H fun v1 hv H => (.ch [0,4,12] [0] (H_g_podestaref15_Eye_part v.2 0 stroke v1 hv) (.sg 2 [0,4,5] (.dn (.sg 4 [4] ?_)))))))
    obtain rfl := Option.some.inj H
    exact .ret Try.func43 hc0 [0]

/-! ### (*podesta/podestaref15.Eye).match: function 44 -/
noncomputable def podestaref15_Eye_match_F : Go.Sh.Fn := ⟨44, bodyOf Try.f44, 43⟩
def podestaref15_Eye_match_l0 (g_podestaref15_Eye_Expr : Eye → Bool → Option (Node × Eye)) : Nat → Bool → List Token → Int → Int → Int → Int → Int → List Node → Option ((List Token) × Int × Int × Int × Int × Int × (List Node))
  | 0, _, _, _, _, _, _, _, _ => none
  | m + 1, again, x_0, x_1, x_2, x_3, x_4_0, x_4_1, o3 =>
    (bif again then
    (podestaref15_Eye_At_raw ({ L := x_0, I := x_1, End := x_2, Deep := x_3, F := ({ E := x_4_0, At := x_4_1 } : Fault) } : Eye)).bind fun v3 =>
    (podestaref15_Eye_Name_raw v3.2).bind fun v4 =>
    (podestaref15_Eye_Must_raw v4.2 (ByteArray.mk #[61])).bind fun v5 =>
    (g_podestaref15_Eye_Expr v5 false).bind fun v6 =>
    (podestaref15_Eye_Eat_raw v6.2 (ByteArray.mk #[47])).bind fun v7 =>
    (bif v7.1 then
      (podestaref15_Eye_Int_raw v7.2).bind fun v8 =>
      fitO (o3.length + [({ Kind := 13, Text := v4.1, Num := v8.1, Kids := [v6.1], At := v3.1 } : Node)].length) 64 (
      (podestaref15_Eye_Eat_raw v8.2 (ByteArray.mk #[44])).bind fun v9 =>
      podestaref15_Eye_match_l0 g_podestaref15_Eye_Expr m v9.1 v9.2.L v9.2.I v9.2.End v9.2.Deep v9.2.F.E v9.2.F.At (o3 ++ [({ Kind := 13, Text := v4.1, Num := v8.1, Kids := [v6.1], At := v3.1 } : Node)]))
    else
      fitO (o3.length + [({ Kind := 13, Text := v4.1, Num := (-1), Kids := [v6.1], At := v3.1 } : Node)].length) 64 (
      (podestaref15_Eye_Eat_raw v7.2 (ByteArray.mk #[44])).bind fun v10 =>
      podestaref15_Eye_match_l0 g_podestaref15_Eye_Expr m v10.1 v10.2.L v10.2.I v10.2.End v10.2.Deep v10.2.F.E v10.2.F.At (o3 ++ [({ Kind := 13, Text := v4.1, Num := (-1), Kids := [v6.1], At := v3.1 } : Node)])))
  else
    some (x_0, x_1, x_2, x_3, x_4_0, x_4_1, o3))
theorem podestaref15_Eye_match_l0_walk (q0 : Nat) (g_podestaref15_Eye_one : Eye → Option (Node × Eye)) (H_g_podestaref15_Eye_one : ∀ (x : Eye) (r : Node × Eye) (H : g_podestaref15_Eye_one x = some r), ACalls Try.prog tab.S 58 [.ptr 0 0 none] [.box 44 [.sl 66 (List.map Token.av x.L) false, .sc (.int .i64 x.I), .sc (.int .i64 x.End), .sc (.int .i64 x.Deep), .sc (.int .i64 x.F.E), .sc (.int .i64 x.F.At)]] (Node.ag r.1) [.box 44 [.sl 66 (List.map Token.av r.2.L) false, .sc (.int .i64 r.2.I), .sc (.int .i64 r.2.End), .sc (.int .i64 r.2.Deep), .sc (.int .i64 r.2.F.E), .sc (.int .i64 r.2.F.At)]]) (g_podestaref15_Eye_part : Eye → Int → Bool → Option (Node × Eye)) (H_g_podestaref15_Eye_part : ∀ (x : Eye) (k1 : Int) (stroke : Bool) (r : Node × Eye) (H : g_podestaref15_Eye_part x k1 stroke = some r), ACalls Try.prog tab.S 53 [.ptr 0 0 none, .sc (.int .i64 k1), .sc (.bool stroke)] [.box 44 [.sl 66 (List.map Token.av x.L) false, .sc (.int .i64 x.I), .sc (.int .i64 x.End), .sc (.int .i64 x.Deep), .sc (.int .i64 x.F.E), .sc (.int .i64 x.F.At)]] (Node.ag r.1) [.box 44 [.sl 66 (List.map Token.av r.2.L) false, .sc (.int .i64 r.2.I), .sc (.int .i64 r.2.End), .sc (.int .i64 r.2.Deep), .sc (.int .i64 r.2.F.E), .sc (.int .i64 r.2.F.At)]]) (g_podestaref15_Eye_Expr : Eye → Bool → Option (Node × Eye)) (H_g_podestaref15_Eye_Expr : ∀ (x : Eye) (stroke : Bool) (r : Node × Eye) (H : g_podestaref15_Eye_Expr x stroke = some r), ACalls Try.prog tab.S 43 [.ptr 0 0 none, .sc (.bool stroke)] [.box 44 [.sl 66 (List.map Token.av x.L) false, .sc (.int .i64 x.I), .sc (.int .i64 x.End), .sc (.int .i64 x.Deep), .sc (.int .i64 x.F.E), .sc (.int .i64 x.F.At)]] (Node.ag r.1) [.box 44 [.sl 66 (List.map Token.av r.2.L) false, .sc (.int .i64 r.2.I), .sc (.int .i64 r.2.End), .sc (.int .i64 r.2.Deep), .sc (.int .i64 r.2.F.E), .sc (.int .i64 r.2.F.At)]]) (g_podestaref15_Eye_match : Eye → Option (Node × Eye)) (H_g_podestaref15_Eye_match : ∀ (x : Eye) (r : Node × Eye) (H : g_podestaref15_Eye_match x = some r), ACalls Try.prog tab.S 44 [.ptr 0 0 none] [.box 44 [.sl 66 (List.map Token.av x.L) false, .sc (.int .i64 x.I), .sc (.int .i64 x.End), .sc (.int .i64 x.Deep), .sc (.int .i64 x.F.E), .sc (.int .i64 x.F.At)]] (Node.ag r.1) [.box 44 [.sl 66 (List.map Token.av r.2.L) false, .sc (.int .i64 r.2.I), .sc (.int .i64 r.2.End), .sc (.int .i64 r.2.Deep), .sc (.int .i64 r.2.F.E), .sc (.int .i64 r.2.F.At)]]) (g_podestaref15_Eye_given : Eye → ByteArray → Int → Option (Node × Eye)) (H_g_podestaref15_Eye_given : ∀ (x : Eye) (s : ByteArray) (at_ : Int) (r : Node × Eye) (H : g_podestaref15_Eye_given x s at_ = some r), ACalls Try.prog tab.S 45 [.ptr 0 0 none, .sc (.string s), .sc (.int .i64 at_)] [.box 44 [.sl 66 (List.map Token.av x.L) false, .sc (.int .i64 x.I), .sc (.int .i64 x.End), .sc (.int .i64 x.Deep), .sc (.int .i64 x.F.E), .sc (.int .i64 x.F.At)]] (Node.ag r.1) [.box 44 [.sl 66 (List.map Token.av r.2.L) false, .sc (.int .i64 r.2.I), .sc (.int .i64 r.2.End), .sc (.int .i64 r.2.Deep), .sc (.int .i64 r.2.F.E), .sc (.int .i64 r.2.F.At)]]) (g_podestaref15_Eye_acts : Eye → Option (Node × Eye)) (H_g_podestaref15_Eye_acts : ∀ (x : Eye) (r : Node × Eye) (H : g_podestaref15_Eye_acts x = some r), ACalls Try.prog tab.S 46 [.ptr 0 0 none] [.box 44 [.sl 66 (List.map Token.av x.L) false, .sc (.int .i64 x.I), .sc (.int .i64 x.End), .sc (.int .i64 x.Deep), .sc (.int .i64 x.F.E), .sc (.int .i64 x.F.At)]] (Node.ag r.1) [.box 44 [.sl 66 (List.map Token.av r.2.L) false, .sc (.int .i64 r.2.I), .sc (.int .i64 r.2.End), .sc (.int .i64 r.2.Deep), .sc (.int .i64 r.2.F.E), .sc (.int .i64 r.2.F.At)]]) (g_podestaref15_Eye_rest : Eye → Node → Bool → Option (Eye × Node)) (H_g_podestaref15_Eye_rest : ∀ (x : Eye) (n : Node) (acts : Bool) (r : Eye × Node) (H : g_podestaref15_Eye_rest x n acts = some r), ACalls Try.prog tab.S 47 [.ptr 0 0 none, .ptr 1 0 none, .sc (.bool acts)] [.box 44 [.sl 66 (List.map Token.av x.L) false, .sc (.int .i64 x.I), .sc (.int .i64 x.End), .sc (.int .i64 x.Deep), .sc (.int .i64 x.F.E), .sc (.int .i64 x.F.At)], .box 29 [.sc (.int .i64 n.Kind), .sc (.string n.Text), .sc (.int .i64 n.Num), .own 2 1000000, .sc (.int .i64 n.At)], .row 29 (List.map Node.av n.Kids) 1000000 true] (.tup []) [.box 44 [.sl 66 (List.map Token.av r.1.L) false, .sc (.int .i64 r.1.I), .sc (.int .i64 r.1.End), .sc (.int .i64 r.1.Deep), .sc (.int .i64 r.1.F.E), .sc (.int .i64 r.1.F.At)], .box 29 [.sc (.int .i64 r.2.Kind), .sc (.string r.2.Text), .sc (.int .i64 r.2.Num), .own 2 1000000, .sc (.int .i64 r.2.At)], .row 29 (List.map Node.av r.2.Kids) 1000000 true]) (g_podestaref15_Eye_stmt : Eye → Option (Node × Eye)) (H_g_podestaref15_Eye_stmt : ∀ (x : Eye) (r : Node × Eye) (H : g_podestaref15_Eye_stmt x = some r), ACalls Try.prog tab.S 36 [.ptr 0 0 none] [.box 44 [.sl 66 (List.map Token.av x.L) false, .sc (.int .i64 x.I), .sc (.int .i64 x.End), .sc (.int .i64 x.Deep), .sc (.int .i64 x.F.E), .sc (.int .i64 x.F.At)]] (Node.ag r.1) [.box 44 [.sl 66 (List.map Token.av r.2.L) false, .sc (.int .i64 r.2.I), .sc (.int .i64 r.2.End), .sc (.int .i64 r.2.Deep), .sc (.int .i64 r.2.F.E), .sc (.int .i64 r.2.F.At)]]) (g_podestaref15_Eye_block : Eye → Option (Node × Eye)) (H_g_podestaref15_Eye_block : ∀ (x : Eye) (r : Node × Eye) (H : g_podestaref15_Eye_block x = some r), ACalls Try.prog tab.S 20 [.ptr 0 0 none] [.box 44 [.sl 66 (List.map Token.av x.L) false, .sc (.int .i64 x.I), .sc (.int .i64 x.End), .sc (.int .i64 x.Deep), .sc (.int .i64 x.F.E), .sc (.int .i64 x.F.At)]] (Node.ag r.1) [.box 44 [.sl 66 (List.map Token.av r.2.L) false, .sc (.int .i64 r.2.I), .sc (.int .i64 r.2.End), .sc (.int .i64 r.2.Deep), .sc (.int .i64 r.2.F.E), .sc (.int .i64 r.2.F.At)]]) (x : Eye) (v : Int × Eye) (v1 : Eye) (v2 : Bool × Eye)  (r : Node × Eye) (c0 : Ctx) (hc0 : c0.m.length = 1) (res : (List Token) × Int × Int × Int × Int × Int × (List Node)) (J : AX Try.prog tab podestaref15_Eye_match_F c0 (Rp tab.S c0 (Node.ag r.1) [.box 44 [.sl 66 (List.map Token.av r.2.L) false, .sc (.int .i64 r.2.I), .sc (.int .i64 r.2.End), .sc (.int .i64 r.2.Deep), .sc (.int .i64 r.2.F.E), .sc (.int .i64 r.2.F.At)]]) (some ⟨[.code [1, 1, 1, 1, 1]], [(0, .ptr 0 0 none), (2, .ptr 1 0 none), (3, .ptr 2 0 none)], [.box 44 [.sl 66 (List.map Token.av res.1) false, .sc (.int .i64 res.2.1), .sc (.int .i64 res.2.2.1), .sc (.int .i64 res.2.2.2.1), .sc (.int .i64 res.2.2.2.2.1), .sc (.int .i64 res.2.2.2.2.2.1)], .box 29 [.sc (.int .i64 0), .sc (.string ⟨#[]⟩), .sc (.int .i64 0), .sl 0 [] true, .sc (.int .i64 0)], .box 29 [.sc (.int .i64 12), .sc (.string ⟨#[]⟩), .sc (.int .i64 0), .own 3 1000000, .sc (.int .i64 v.1)], .row 29 (List.map Node.av res.2.2.2.2.2.2) 1000000 true]⟩)) :
    ∀ (m : Nat) (again : Bool) (x_0 : List Token) (x_1 : Int) (x_2 : Int) (x_3 : Int) (x_4_0 : Int) (x_4_1 : Int) (o3 : List Node) (H : podestaref15_Eye_match_l0 g_podestaref15_Eye_Expr m again x_0 x_1 x_2 x_3 x_4_0 x_4_1 o3 = some res), AX Try.prog tab podestaref15_Eye_match_F c0 (Rp tab.S c0 (Node.ag r.1) [.box 44 [.sl 66 (List.map Token.av r.2.L) false, .sc (.int .i64 r.2.I), .sc (.int .i64 r.2.End), .sc (.int .i64 r.2.Deep), .sc (.int .i64 r.2.F.E), .sc (.int .i64 r.2.F.At)]]) (some ⟨[.code [1, 1, 1, 1, 0, 1, 0, 0], .loop [1, 1, 1, 1, 0, 1, 0], .blk 0, .code [1, 1, 1, 1, 1]], [(0, .ptr 0 0 none), (2, .ptr 1 0 none), (3, .ptr 2 0 none), (4, .sc (.bool again))], [.box 44 [.sl 66 (List.map Token.av x_0) false, .sc (.int .i64 x_1), .sc (.int .i64 x_2), .sc (.int .i64 x_3), .sc (.int .i64 x_4_0), .sc (.int .i64 x_4_1)], .box 29 [.sc (.int .i64 0), .sc (.string ⟨#[]⟩), .sc (.int .i64 0), .sl 0 [] true, .sc (.int .i64 0)], .box 29 [.sc (.int .i64 12), .sc (.string ⟨#[]⟩), .sc (.int .i64 0), .own 3 1000000, .sc (.int .i64 v.1)], .row 29 (List.map Node.av o3) 1000000 true]⟩) := by
  intro m
  induction m with
  | zero => intro again x_0 x_1 x_2 x_3 x_4_0 x_4_1 o3 H; cases H
  | succ m ih =>
    intro again x_0 x_1 x_2 x_3 x_4_0 x_4_1 o3 H
    rw [podestaref15_Eye_match_l0] at H
    refine .sg 3 [0,2,3,14] (.cd again H (fun hb H => ?_) (fun hb H => ?_))
    ·
      refine .sg 4 [0,2,3] (.rg (.sg 1 [0,2,3,17] (bndO H fun v3 hv H => (.ch [0,2,3,18] [0] (podestaref15_Eye_At_walk ({ L := x_0, I := x_1, End := x_2, Deep := x_3, F := ({ E := x_4_0, At := x_4_1 } : Fault) } : Eye) v3 hv) (.sg 3 [0,2,3,5] (.dn (.sg 1 [0,2,3,5] (.rg (.sg 1 [0,2,3,5,20] (bndO H fun v4 hv H => (.ch [0,2,3,5,21] [0] (podestaref15_Eye_Name_walk v3.2 v4 hv) (.sg 2 [0,2,3,5] (.dn (.sg 1 [0,2,3,5] (.rg (.sg 1 [0,2,3,5,23] (bndO H fun v5 hv H => (.ch [0,2,3,5] [0] (podestaref15_Eye_Must_walk v4.2 (ByteArray.mk #[61]) v5 hv) (.dn (.sg 1 [0,2,3,5] (.rg (.sg 1 [0,2,3,5,25] (bndO H fun v6 hv H => (.ch [0,2,3,5,26] [0] (H_g_podestaref15_Eye_Expr v5 false v6 hv) (.bg [0,2,3,5,27] Node.av Node.ag Node.av_eq ([v6.1] : List Node) 29 true (.sg 2 [0,2,3,5] (.dn (.sg 2 [0,2,3,5] (.rg (.sg 1 [0,2,3,5,29] (bndO H fun v7 hv H => (.ch [0,2,3,5,30] [0] (podestaref15_Eye_Eat_walk v6.2 (ByteArray.mk #[47]) v7 hv) (.dn (.cd v7.1 H (fun hb H => ?_) (fun hb H => ?_)))))))))))))))))))))))))))))))))))
      ·
        exact .rg (.sg 1 [0,2,3,5,31] (bndO H fun v8 hv H => (.ch [0,2,3,5,32] [0] (podestaref15_Eye_Int_walk v7.2 v8 hv) (.sg 2 [0,2,3,5] (.dn (.rg (.sg 3 [0,2,3,35,36] (.wk 36 [(0, false)] (.bg [0,2,3,35,37] Node.av Node.ag Node.av_eq ([({ Kind := 13, Text := v4.1, Num := v8.1, Kids := [v6.1], At := v3.1 } : Node)] : List Node) 29 true (fitH H fun hfit H => (.ap [0,2,3,38] Node.av hfit (.sg 2 [0,2,3] (.dn (.sg 1 [0,2,3] (.rg (.sg 1 [0,2,3,15] (bndO H fun v9 hv H => (.ch [0,2,3,16] [0] (podestaref15_Eye_Eat_walk v8.2 (ByteArray.mk #[44]) v9 hv) (.sg 1 [0,2,3,4] (.dn (.tl hc0 [0,1,2,3] [0,2,3,4] (.into (.to (ih v9.1 v9.2.L v9.2.I v9.2.End v9.2.Deep v9.2.F.E v9.2.F.At (o3 ++ [({ Kind := 13, Text := v4.1, Num := v8.1, Kids := [v6.1], At := v3.1 } : Node)]) H))))))))))))))))))))))))
      ·
        exact .sg 1 [0,2,3,5] (.rg (.sg 3 [0,2,3,35,36] (.wk 36 [(0, false)] (.bg [0,2,3,35,37] Node.av Node.ag Node.av_eq ([({ Kind := 13, Text := v4.1, Num := (-1), Kids := [v6.1], At := v3.1 } : Node)] : List Node) 29 true (fitH H fun hfit H => (.ap [0,2,3,38] Node.av hfit (.sg 2 [0,2,3] (.dn (.sg 1 [0,2,3] (.rg (.sg 1 [0,2,3,15] (bndO H fun v10 hv H => (.ch [0,2,3,16] [0] (podestaref15_Eye_Eat_walk v7.2 (ByteArray.mk #[44]) v10 hv) (.sg 1 [0,2,3,4] (.dn (.tl hc0 [0,1,2,3] [0,2,3,4] (.into (.to (ih v10.1 v10.2.L v10.2.I v10.2.End v10.2.Deep v10.2.F.E v10.2.F.At (o3 ++ [({ Kind := 13, Text := v4.1, Num := (-1), Kids := [v6.1], At := v3.1 } : Node)]) H)))))))))))))))))))
    ·
      refine .sg 1 [0,2,3] (.kp [0,2,3] ?_)
      obtain rfl := Option.some.inj H
      exact .to J
def podestaref15_Eye_match_raw (q0 : Nat) (g_podestaref15_Eye_one : Eye → Option (Node × Eye)) (g_podestaref15_Eye_part : Eye → Int → Bool → Option (Node × Eye)) (g_podestaref15_Eye_Expr : Eye → Bool → Option (Node × Eye)) (g_podestaref15_Eye_match : Eye → Option (Node × Eye)) (g_podestaref15_Eye_given : Eye → ByteArray → Int → Option (Node × Eye)) (g_podestaref15_Eye_acts : Eye → Option (Node × Eye)) (g_podestaref15_Eye_rest : Eye → Node → Bool → Option (Eye × Node)) (g_podestaref15_Eye_stmt : Eye → Option (Node × Eye)) (g_podestaref15_Eye_block : Eye → Option (Node × Eye)) (x : Eye) : Option (Node × Eye) :=
  (podestaref15_Eye_At_raw x).bind fun v =>
  (podestaref15_Eye_Must_raw v.2 (ByteArray.mk #[91])).bind fun v1 =>
  (podestaref15_Eye_Eat_raw v1 (ByteArray.mk #[93])).bind fun v2 =>
  (bif v2.1 then
    some (({ Kind := 12, Text := ⟨#[]⟩, Num := 0, Kids := ([] : List Node), At := v.1 } : Node), v2.2)
  else
    (podestaref15_Eye_match_l0 g_podestaref15_Eye_Expr q0 true v2.2.L v2.2.I v2.2.End v2.2.Deep v2.2.F.E v2.2.F.At ([] : List Node)).bind fun v3 =>
    (podestaref15_Eye_Must_raw ({ L := v3.1, I := v3.2.1, End := v3.2.2.1, Deep := v3.2.2.2.1, F := ({ E := v3.2.2.2.2.1, At := v3.2.2.2.2.2.1 } : Fault) } : Eye) (ByteArray.mk #[93])).bind fun v4 =>
    some (({ Kind := 12, Text := ⟨#[]⟩, Num := 0, Kids := v3.2.2.2.2.2.2, At := v.1 } : Node), v4))
theorem podestaref15_Eye_match_walk (q0 : Nat) (g_podestaref15_Eye_one : Eye → Option (Node × Eye)) (H_g_podestaref15_Eye_one : ∀ (x : Eye) (r : Node × Eye) (H : g_podestaref15_Eye_one x = some r), ACalls Try.prog tab.S 58 [.ptr 0 0 none] [.box 44 [.sl 66 (List.map Token.av x.L) false, .sc (.int .i64 x.I), .sc (.int .i64 x.End), .sc (.int .i64 x.Deep), .sc (.int .i64 x.F.E), .sc (.int .i64 x.F.At)]] (Node.ag r.1) [.box 44 [.sl 66 (List.map Token.av r.2.L) false, .sc (.int .i64 r.2.I), .sc (.int .i64 r.2.End), .sc (.int .i64 r.2.Deep), .sc (.int .i64 r.2.F.E), .sc (.int .i64 r.2.F.At)]]) (g_podestaref15_Eye_part : Eye → Int → Bool → Option (Node × Eye)) (H_g_podestaref15_Eye_part : ∀ (x : Eye) (k1 : Int) (stroke : Bool) (r : Node × Eye) (H : g_podestaref15_Eye_part x k1 stroke = some r), ACalls Try.prog tab.S 53 [.ptr 0 0 none, .sc (.int .i64 k1), .sc (.bool stroke)] [.box 44 [.sl 66 (List.map Token.av x.L) false, .sc (.int .i64 x.I), .sc (.int .i64 x.End), .sc (.int .i64 x.Deep), .sc (.int .i64 x.F.E), .sc (.int .i64 x.F.At)]] (Node.ag r.1) [.box 44 [.sl 66 (List.map Token.av r.2.L) false, .sc (.int .i64 r.2.I), .sc (.int .i64 r.2.End), .sc (.int .i64 r.2.Deep), .sc (.int .i64 r.2.F.E), .sc (.int .i64 r.2.F.At)]]) (g_podestaref15_Eye_Expr : Eye → Bool → Option (Node × Eye)) (H_g_podestaref15_Eye_Expr : ∀ (x : Eye) (stroke : Bool) (r : Node × Eye) (H : g_podestaref15_Eye_Expr x stroke = some r), ACalls Try.prog tab.S 43 [.ptr 0 0 none, .sc (.bool stroke)] [.box 44 [.sl 66 (List.map Token.av x.L) false, .sc (.int .i64 x.I), .sc (.int .i64 x.End), .sc (.int .i64 x.Deep), .sc (.int .i64 x.F.E), .sc (.int .i64 x.F.At)]] (Node.ag r.1) [.box 44 [.sl 66 (List.map Token.av r.2.L) false, .sc (.int .i64 r.2.I), .sc (.int .i64 r.2.End), .sc (.int .i64 r.2.Deep), .sc (.int .i64 r.2.F.E), .sc (.int .i64 r.2.F.At)]]) (g_podestaref15_Eye_match : Eye → Option (Node × Eye)) (H_g_podestaref15_Eye_match : ∀ (x : Eye) (r : Node × Eye) (H : g_podestaref15_Eye_match x = some r), ACalls Try.prog tab.S 44 [.ptr 0 0 none] [.box 44 [.sl 66 (List.map Token.av x.L) false, .sc (.int .i64 x.I), .sc (.int .i64 x.End), .sc (.int .i64 x.Deep), .sc (.int .i64 x.F.E), .sc (.int .i64 x.F.At)]] (Node.ag r.1) [.box 44 [.sl 66 (List.map Token.av r.2.L) false, .sc (.int .i64 r.2.I), .sc (.int .i64 r.2.End), .sc (.int .i64 r.2.Deep), .sc (.int .i64 r.2.F.E), .sc (.int .i64 r.2.F.At)]]) (g_podestaref15_Eye_given : Eye → ByteArray → Int → Option (Node × Eye)) (H_g_podestaref15_Eye_given : ∀ (x : Eye) (s : ByteArray) (at_ : Int) (r : Node × Eye) (H : g_podestaref15_Eye_given x s at_ = some r), ACalls Try.prog tab.S 45 [.ptr 0 0 none, .sc (.string s), .sc (.int .i64 at_)] [.box 44 [.sl 66 (List.map Token.av x.L) false, .sc (.int .i64 x.I), .sc (.int .i64 x.End), .sc (.int .i64 x.Deep), .sc (.int .i64 x.F.E), .sc (.int .i64 x.F.At)]] (Node.ag r.1) [.box 44 [.sl 66 (List.map Token.av r.2.L) false, .sc (.int .i64 r.2.I), .sc (.int .i64 r.2.End), .sc (.int .i64 r.2.Deep), .sc (.int .i64 r.2.F.E), .sc (.int .i64 r.2.F.At)]]) (g_podestaref15_Eye_acts : Eye → Option (Node × Eye)) (H_g_podestaref15_Eye_acts : ∀ (x : Eye) (r : Node × Eye) (H : g_podestaref15_Eye_acts x = some r), ACalls Try.prog tab.S 46 [.ptr 0 0 none] [.box 44 [.sl 66 (List.map Token.av x.L) false, .sc (.int .i64 x.I), .sc (.int .i64 x.End), .sc (.int .i64 x.Deep), .sc (.int .i64 x.F.E), .sc (.int .i64 x.F.At)]] (Node.ag r.1) [.box 44 [.sl 66 (List.map Token.av r.2.L) false, .sc (.int .i64 r.2.I), .sc (.int .i64 r.2.End), .sc (.int .i64 r.2.Deep), .sc (.int .i64 r.2.F.E), .sc (.int .i64 r.2.F.At)]]) (g_podestaref15_Eye_rest : Eye → Node → Bool → Option (Eye × Node)) (H_g_podestaref15_Eye_rest : ∀ (x : Eye) (n : Node) (acts : Bool) (r : Eye × Node) (H : g_podestaref15_Eye_rest x n acts = some r), ACalls Try.prog tab.S 47 [.ptr 0 0 none, .ptr 1 0 none, .sc (.bool acts)] [.box 44 [.sl 66 (List.map Token.av x.L) false, .sc (.int .i64 x.I), .sc (.int .i64 x.End), .sc (.int .i64 x.Deep), .sc (.int .i64 x.F.E), .sc (.int .i64 x.F.At)], .box 29 [.sc (.int .i64 n.Kind), .sc (.string n.Text), .sc (.int .i64 n.Num), .own 2 1000000, .sc (.int .i64 n.At)], .row 29 (List.map Node.av n.Kids) 1000000 true] (.tup []) [.box 44 [.sl 66 (List.map Token.av r.1.L) false, .sc (.int .i64 r.1.I), .sc (.int .i64 r.1.End), .sc (.int .i64 r.1.Deep), .sc (.int .i64 r.1.F.E), .sc (.int .i64 r.1.F.At)], .box 29 [.sc (.int .i64 r.2.Kind), .sc (.string r.2.Text), .sc (.int .i64 r.2.Num), .own 2 1000000, .sc (.int .i64 r.2.At)], .row 29 (List.map Node.av r.2.Kids) 1000000 true]) (g_podestaref15_Eye_stmt : Eye → Option (Node × Eye)) (H_g_podestaref15_Eye_stmt : ∀ (x : Eye) (r : Node × Eye) (H : g_podestaref15_Eye_stmt x = some r), ACalls Try.prog tab.S 36 [.ptr 0 0 none] [.box 44 [.sl 66 (List.map Token.av x.L) false, .sc (.int .i64 x.I), .sc (.int .i64 x.End), .sc (.int .i64 x.Deep), .sc (.int .i64 x.F.E), .sc (.int .i64 x.F.At)]] (Node.ag r.1) [.box 44 [.sl 66 (List.map Token.av r.2.L) false, .sc (.int .i64 r.2.I), .sc (.int .i64 r.2.End), .sc (.int .i64 r.2.Deep), .sc (.int .i64 r.2.F.E), .sc (.int .i64 r.2.F.At)]]) (g_podestaref15_Eye_block : Eye → Option (Node × Eye)) (H_g_podestaref15_Eye_block : ∀ (x : Eye) (r : Node × Eye) (H : g_podestaref15_Eye_block x = some r), ACalls Try.prog tab.S 20 [.ptr 0 0 none] [.box 44 [.sl 66 (List.map Token.av x.L) false, .sc (.int .i64 x.I), .sc (.int .i64 x.End), .sc (.int .i64 x.Deep), .sc (.int .i64 x.F.E), .sc (.int .i64 x.F.At)]] (Node.ag r.1) [.box 44 [.sl 66 (List.map Token.av r.2.L) false, .sc (.int .i64 r.2.I), .sc (.int .i64 r.2.End), .sc (.int .i64 r.2.Deep), .sc (.int .i64 r.2.F.E), .sc (.int .i64 r.2.F.At)]]) (x : Eye) (r : Node × Eye) (H : podestaref15_Eye_match_raw q0 g_podestaref15_Eye_one g_podestaref15_Eye_part g_podestaref15_Eye_Expr g_podestaref15_Eye_match g_podestaref15_Eye_given g_podestaref15_Eye_acts g_podestaref15_Eye_rest g_podestaref15_Eye_stmt g_podestaref15_Eye_block x = some r) : ACalls Try.prog tab.S 44 [.ptr 0 0 none] [.box 44 [.sl 66 (List.map Token.av x.L) false, .sc (.int .i64 x.I), .sc (.int .i64 x.End), .sc (.int .i64 x.Deep), .sc (.int .i64 x.F.E), .sc (.int .i64 x.F.At)]] (Node.ag r.1) [.box 44 [.sl 66 (List.map Token.av r.2.L) false, .sc (.int .i64 r.2.I), .sc (.int .i64 r.2.End), .sc (.int .i64 r.2.Deep), .sc (.int .i64 r.2.F.E), .sc (.int .i64 r.2.F.At)]] := by
  refine .of_AX podestaref15_Eye_match_F Try.func44 fun c0 hc0 => ?_
  rw [podestaref15_Eye_match_raw] at H
  refine .sg 3 [0,2] (.rg (.sg 1 [0,2,6] (bndO H fun v hv H => (.ch [0,2,7] [0] (podestaref15_Eye_At_walk x v hv) (.sg 3 [0,2,3] (.dn (.sg 1 [0,2,3] (.adb 2 3 29 (.rg (.sg 1 [0,2,3,9] (bndO H fun v1 hv H => (.ch [0,2,3] [0] (podestaref15_Eye_Must_walk v.2 (ByteArray.mk #[91]) v1 hv) (.dn (.sg 2 [0,2,3] (.rg (.sg 1 [0,2,3,11] (bndO H fun v2 hv H => (.ch [0,2,3,12] [0] (podestaref15_Eye_Eat_walk v1 (ByteArray.mk #[93]) v2 hv) (.dn (.cd v2.1 H (fun hb H => ?_) (fun hb H => ?_)))))))))))))))))))))
  ·
    refine .sg 2 [2] ?_
    obtain rfl := Option.some.inj H
    exact .ret Try.func44 hc0 [0]
  ·
    refine .sg 5 [0,2,3,4] ?_
    refine bndO H fun v3 hv H => (.into (.to (podestaref15_Eye_match_l0_walk q0 g_podestaref15_Eye_one H_g_podestaref15_Eye_one g_podestaref15_Eye_part H_g_podestaref15_Eye_part g_podestaref15_Eye_Expr H_g_podestaref15_Eye_Expr g_podestaref15_Eye_match H_g_podestaref15_Eye_match g_podestaref15_Eye_given H_g_podestaref15_Eye_given g_podestaref15_Eye_acts H_g_podestaref15_Eye_acts g_podestaref15_Eye_rest H_g_podestaref15_Eye_rest g_podestaref15_Eye_stmt H_g_podestaref15_Eye_stmt g_podestaref15_Eye_block H_g_podestaref15_Eye_block x v v1 v2 r c0 hc0 v3 ?_ q0 true v2.2.L v2.2.I v2.2.End v2.2.Deep v2.2.F.E v2.2.F.At ([] : List Node) hv)))
    refine .sg 1 [0,2,3] (.rg (.sg 1 [2,3,40] (bndO H fun v4 hv H => (.ch [2,3] [0] (podestaref15_Eye_Must_walk ({ L := v3.1, I := v3.2.1, End := v3.2.2.1, Deep := v3.2.2.2.1, F := ({ E := v3.2.2.2.2.1, At := v3.2.2.2.2.2.1 } : Fault) } : Eye) (ByteArray.mk #[93]) v4 hv) (.dn (.sg 2 [2] ?_))))))
    obtain rfl := Option.some.inj H
    exact .ret Try.func44 hc0 [0]

/-! ### (*podesta/podestaref15.Eye).given: function 45 -/
noncomputable def podestaref15_Eye_given_F : Go.Sh.Fn := ⟨45, bodyOf Try.f45, 14⟩
def podestaref15_Eye_given_raw (g_podestaref15_Eye_one : Eye → Option (Node × Eye)) (g_podestaref15_Eye_part : Eye → Int → Bool → Option (Node × Eye)) (g_podestaref15_Eye_Expr : Eye → Bool → Option (Node × Eye)) (g_podestaref15_Eye_match : Eye → Option (Node × Eye)) (g_podestaref15_Eye_given : Eye → ByteArray → Int → Option (Node × Eye)) (g_podestaref15_Eye_acts : Eye → Option (Node × Eye)) (g_podestaref15_Eye_rest : Eye → Node → Bool → Option (Eye × Node)) (g_podestaref15_Eye_stmt : Eye → Option (Node × Eye)) (g_podestaref15_Eye_block : Eye → Option (Node × Eye)) (x : Eye) (s : ByteArray) (at_ : Int) : Option (Node × Eye) :=
  (podestaref15_Eye_Eat_raw x s).bind fun v =>
  (bif v.1 then
    (g_podestaref15_Eye_Expr v.2 true).bind fun v1 =>
    some (v1.1, v1.2)
  else
    some (({ Kind := 18, Text := ⟨#[]⟩, Num := 0, Kids := [], At := at_ } : Node), v.2))
theorem podestaref15_Eye_given_walk (g_podestaref15_Eye_one : Eye → Option (Node × Eye)) (H_g_podestaref15_Eye_one : ∀ (x : Eye) (r : Node × Eye) (H : g_podestaref15_Eye_one x = some r), ACalls Try.prog tab.S 58 [.ptr 0 0 none] [.box 44 [.sl 66 (List.map Token.av x.L) false, .sc (.int .i64 x.I), .sc (.int .i64 x.End), .sc (.int .i64 x.Deep), .sc (.int .i64 x.F.E), .sc (.int .i64 x.F.At)]] (Node.ag r.1) [.box 44 [.sl 66 (List.map Token.av r.2.L) false, .sc (.int .i64 r.2.I), .sc (.int .i64 r.2.End), .sc (.int .i64 r.2.Deep), .sc (.int .i64 r.2.F.E), .sc (.int .i64 r.2.F.At)]]) (g_podestaref15_Eye_part : Eye → Int → Bool → Option (Node × Eye)) (H_g_podestaref15_Eye_part : ∀ (x : Eye) (k1 : Int) (stroke : Bool) (r : Node × Eye) (H : g_podestaref15_Eye_part x k1 stroke = some r), ACalls Try.prog tab.S 53 [.ptr 0 0 none, .sc (.int .i64 k1), .sc (.bool stroke)] [.box 44 [.sl 66 (List.map Token.av x.L) false, .sc (.int .i64 x.I), .sc (.int .i64 x.End), .sc (.int .i64 x.Deep), .sc (.int .i64 x.F.E), .sc (.int .i64 x.F.At)]] (Node.ag r.1) [.box 44 [.sl 66 (List.map Token.av r.2.L) false, .sc (.int .i64 r.2.I), .sc (.int .i64 r.2.End), .sc (.int .i64 r.2.Deep), .sc (.int .i64 r.2.F.E), .sc (.int .i64 r.2.F.At)]]) (g_podestaref15_Eye_Expr : Eye → Bool → Option (Node × Eye)) (H_g_podestaref15_Eye_Expr : ∀ (x : Eye) (stroke : Bool) (r : Node × Eye) (H : g_podestaref15_Eye_Expr x stroke = some r), ACalls Try.prog tab.S 43 [.ptr 0 0 none, .sc (.bool stroke)] [.box 44 [.sl 66 (List.map Token.av x.L) false, .sc (.int .i64 x.I), .sc (.int .i64 x.End), .sc (.int .i64 x.Deep), .sc (.int .i64 x.F.E), .sc (.int .i64 x.F.At)]] (Node.ag r.1) [.box 44 [.sl 66 (List.map Token.av r.2.L) false, .sc (.int .i64 r.2.I), .sc (.int .i64 r.2.End), .sc (.int .i64 r.2.Deep), .sc (.int .i64 r.2.F.E), .sc (.int .i64 r.2.F.At)]]) (g_podestaref15_Eye_match : Eye → Option (Node × Eye)) (H_g_podestaref15_Eye_match : ∀ (x : Eye) (r : Node × Eye) (H : g_podestaref15_Eye_match x = some r), ACalls Try.prog tab.S 44 [.ptr 0 0 none] [.box 44 [.sl 66 (List.map Token.av x.L) false, .sc (.int .i64 x.I), .sc (.int .i64 x.End), .sc (.int .i64 x.Deep), .sc (.int .i64 x.F.E), .sc (.int .i64 x.F.At)]] (Node.ag r.1) [.box 44 [.sl 66 (List.map Token.av r.2.L) false, .sc (.int .i64 r.2.I), .sc (.int .i64 r.2.End), .sc (.int .i64 r.2.Deep), .sc (.int .i64 r.2.F.E), .sc (.int .i64 r.2.F.At)]]) (g_podestaref15_Eye_given : Eye → ByteArray → Int → Option (Node × Eye)) (H_g_podestaref15_Eye_given : ∀ (x : Eye) (s : ByteArray) (at_ : Int) (r : Node × Eye) (H : g_podestaref15_Eye_given x s at_ = some r), ACalls Try.prog tab.S 45 [.ptr 0 0 none, .sc (.string s), .sc (.int .i64 at_)] [.box 44 [.sl 66 (List.map Token.av x.L) false, .sc (.int .i64 x.I), .sc (.int .i64 x.End), .sc (.int .i64 x.Deep), .sc (.int .i64 x.F.E), .sc (.int .i64 x.F.At)]] (Node.ag r.1) [.box 44 [.sl 66 (List.map Token.av r.2.L) false, .sc (.int .i64 r.2.I), .sc (.int .i64 r.2.End), .sc (.int .i64 r.2.Deep), .sc (.int .i64 r.2.F.E), .sc (.int .i64 r.2.F.At)]]) (g_podestaref15_Eye_acts : Eye → Option (Node × Eye)) (H_g_podestaref15_Eye_acts : ∀ (x : Eye) (r : Node × Eye) (H : g_podestaref15_Eye_acts x = some r), ACalls Try.prog tab.S 46 [.ptr 0 0 none] [.box 44 [.sl 66 (List.map Token.av x.L) false, .sc (.int .i64 x.I), .sc (.int .i64 x.End), .sc (.int .i64 x.Deep), .sc (.int .i64 x.F.E), .sc (.int .i64 x.F.At)]] (Node.ag r.1) [.box 44 [.sl 66 (List.map Token.av r.2.L) false, .sc (.int .i64 r.2.I), .sc (.int .i64 r.2.End), .sc (.int .i64 r.2.Deep), .sc (.int .i64 r.2.F.E), .sc (.int .i64 r.2.F.At)]]) (g_podestaref15_Eye_rest : Eye → Node → Bool → Option (Eye × Node)) (H_g_podestaref15_Eye_rest : ∀ (x : Eye) (n : Node) (acts : Bool) (r : Eye × Node) (H : g_podestaref15_Eye_rest x n acts = some r), ACalls Try.prog tab.S 47 [.ptr 0 0 none, .ptr 1 0 none, .sc (.bool acts)] [.box 44 [.sl 66 (List.map Token.av x.L) false, .sc (.int .i64 x.I), .sc (.int .i64 x.End), .sc (.int .i64 x.Deep), .sc (.int .i64 x.F.E), .sc (.int .i64 x.F.At)], .box 29 [.sc (.int .i64 n.Kind), .sc (.string n.Text), .sc (.int .i64 n.Num), .own 2 1000000, .sc (.int .i64 n.At)], .row 29 (List.map Node.av n.Kids) 1000000 true] (.tup []) [.box 44 [.sl 66 (List.map Token.av r.1.L) false, .sc (.int .i64 r.1.I), .sc (.int .i64 r.1.End), .sc (.int .i64 r.1.Deep), .sc (.int .i64 r.1.F.E), .sc (.int .i64 r.1.F.At)], .box 29 [.sc (.int .i64 r.2.Kind), .sc (.string r.2.Text), .sc (.int .i64 r.2.Num), .own 2 1000000, .sc (.int .i64 r.2.At)], .row 29 (List.map Node.av r.2.Kids) 1000000 true]) (g_podestaref15_Eye_stmt : Eye → Option (Node × Eye)) (H_g_podestaref15_Eye_stmt : ∀ (x : Eye) (r : Node × Eye) (H : g_podestaref15_Eye_stmt x = some r), ACalls Try.prog tab.S 36 [.ptr 0 0 none] [.box 44 [.sl 66 (List.map Token.av x.L) false, .sc (.int .i64 x.I), .sc (.int .i64 x.End), .sc (.int .i64 x.Deep), .sc (.int .i64 x.F.E), .sc (.int .i64 x.F.At)]] (Node.ag r.1) [.box 44 [.sl 66 (List.map Token.av r.2.L) false, .sc (.int .i64 r.2.I), .sc (.int .i64 r.2.End), .sc (.int .i64 r.2.Deep), .sc (.int .i64 r.2.F.E), .sc (.int .i64 r.2.F.At)]]) (g_podestaref15_Eye_block : Eye → Option (Node × Eye)) (H_g_podestaref15_Eye_block : ∀ (x : Eye) (r : Node × Eye) (H : g_podestaref15_Eye_block x = some r), ACalls Try.prog tab.S 20 [.ptr 0 0 none] [.box 44 [.sl 66 (List.map Token.av x.L) false, .sc (.int .i64 x.I), .sc (.int .i64 x.End), .sc (.int .i64 x.Deep), .sc (.int .i64 x.F.E), .sc (.int .i64 x.F.At)]] (Node.ag r.1) [.box 44 [.sl 66 (List.map Token.av r.2.L) false, .sc (.int .i64 r.2.I), .sc (.int .i64 r.2.End), .sc (.int .i64 r.2.Deep), .sc (.int .i64 r.2.F.E), .sc (.int .i64 r.2.F.At)]]) (x : Eye) (s : ByteArray) (at_ : Int) (r : Node × Eye) (H : podestaref15_Eye_given_raw g_podestaref15_Eye_one g_podestaref15_Eye_part g_podestaref15_Eye_Expr g_podestaref15_Eye_match g_podestaref15_Eye_given g_podestaref15_Eye_acts g_podestaref15_Eye_rest g_podestaref15_Eye_stmt g_podestaref15_Eye_block x s at_ = some r) : ACalls Try.prog tab.S 45 [.ptr 0 0 none, .sc (.string s), .sc (.int .i64 at_)] [.box 44 [.sl 66 (List.map Token.av x.L) false, .sc (.int .i64 x.I), .sc (.int .i64 x.End), .sc (.int .i64 x.Deep), .sc (.int .i64 x.F.E), .sc (.int .i64 x.F.At)]] (Node.ag r.1) [.box 44 [.sl 66 (List.map Token.av r.2.L) false, .sc (.int .i64 r.2.I), .sc (.int .i64 r.2.End), .sc (.int .i64 r.2.Deep), .sc (.int .i64 r.2.F.E), .sc (.int .i64 r.2.F.At)]] := by
  refine .of_AX podestaref15_Eye_given_F Try.func45 fun c0 hc0 => ?_
  rw [podestaref15_Eye_given_raw] at H
  refine .sg 4 [0,1,2,6] (.rg (.sg 2 [0,2,6,7,8] (bndO H fun v hv H => (.ch [0,2,6,9] [0] (podestaref15_Eye_Eat_walk x s v hv) (.dn (.cd v.1 H (fun hb H => ?_) (fun hb H => ?_)))))))
  ·
    refine .sg 1 [0,6] (.rg (.sg 1 [6,10] (bndO H fun v1 hv H => (.ch [6,11] [0] (H_g_podestaref15_Eye_Expr v.2 true v1 hv) (.sg 1 [6] (.dn ?_))))))
    obtain rfl := Option.some.inj H
    exact .ret Try.func45 hc0 [0]
  ·
    refine .sg 3 [6] ?_
    obtain rfl := Option.some.inj H
    exact .ret Try.func45 hc0 [0] [(29, false)]

/-! ### (*podesta/podestaref15.Eye).acts: function 46 -/
noncomputable def podestaref15_Eye_acts_F : Go.Sh.Fn := ⟨46, bodyOf Try.f46, 52⟩
def podestaref15_Eye_acts_l0 (g_podestaref15_Eye_Expr : Eye → Bool → Option (Node × Eye)) : Nat → Bool → List Token → Int → Int → Int → Int → Int → List Node → Option ((List Token) × Int × Int × Int × Int × Int × (List Node))
  | 0, _, _, _, _, _, _, _, _ => none
  | m + 1, again, x_0, x_1, x_2, x_3, x_4_0, x_4_1, o3 =>
    (bif again then
    (podestaref15_Eye_At_raw ({ L := x_0, I := x_1, End := x_2, Deep := x_3, F := ({ E := x_4_0, At := x_4_1 } : Fault) } : Eye)).bind fun v3 =>
    (podestaref15_Eye_Eat_raw v3.2 (ByteArray.mk #[111, 117, 116])).bind fun v4 =>
    (bif v4.1 then
      (g_podestaref15_Eye_Expr v4.2 true).bind fun v5 =>
      fitO (o3.length + [({ Kind := 15, Text := ⟨#[]⟩, Num := 0, Kids := [v5.1], At := v3.1 } : Node)].length) 64 (
      (podestaref15_Eye_Eat_raw v5.2 (ByteArray.mk #[44])).bind fun v6 =>
      podestaref15_Eye_acts_l0 g_podestaref15_Eye_Expr m v6.1 v6.2.L v6.2.I v6.2.End v6.2.Deep v6.2.F.E v6.2.F.At (o3 ++ [({ Kind := 15, Text := ⟨#[]⟩, Num := 0, Kids := [v5.1], At := v3.1 } : Node)]))
    else
      (podestaref15_Eye_Eat_raw v4.2 (ByteArray.mk #[115, 101, 116])).bind fun v7 =>
      (bif v7.1 then
        (podestaref15_Eye_Name_raw v7.2).bind fun v8 =>
        (g_podestaref15_Eye_Expr v8.2 true).bind fun v9 =>
        fitO (o3.length + [({ Kind := 16, Text := v8.1, Num := 0, Kids := [v9.1], At := v3.1 } : Node)].length) 64 (
        (podestaref15_Eye_Eat_raw v9.2 (ByteArray.mk #[44])).bind fun v10 =>
        podestaref15_Eye_acts_l0 g_podestaref15_Eye_Expr m v10.1 v10.2.L v10.2.I v10.2.End v10.2.Deep v10.2.F.E v10.2.F.At (o3 ++ [({ Kind := 16, Text := v8.1, Num := 0, Kids := [v9.1], At := v3.1 } : Node)]))
      else
        (podestaref15_Eye_Eat_raw v7.2 (ByteArray.mk #[116, 101, 108, 108])).bind fun v11 =>
        (bif v11.1 then
          fitO (o3.length + [({ Kind := 17, Text := ⟨#[]⟩, Num := 0, Kids := [], At := v3.1 } : Node)].length) 64 (
          (podestaref15_Eye_Eat_raw v11.2 (ByteArray.mk #[44])).bind fun v12 =>
          podestaref15_Eye_acts_l0 g_podestaref15_Eye_Expr m v12.1 v12.2.L v12.2.I v12.2.End v12.2.Deep v12.2.F.E v12.2.F.At (o3 ++ [({ Kind := 17, Text := ⟨#[]⟩, Num := 0, Kids := [], At := v3.1 } : Node)]))
        else
          (podestaref15_Eye_Bad_raw v11.2 15).bind fun v13 =>
          fitO (o3.length + [({ Kind := 0, Text := ⟨#[]⟩, Num := 0, Kids := [], At := v3.1 } : Node)].length) 64 (
          (podestaref15_Eye_Eat_raw v13 (ByteArray.mk #[44])).bind fun v14 =>
          podestaref15_Eye_acts_l0 g_podestaref15_Eye_Expr m v14.1 v14.2.L v14.2.I v14.2.End v14.2.Deep v14.2.F.E v14.2.F.At (o3 ++ [({ Kind := 0, Text := ⟨#[]⟩, Num := 0, Kids := [], At := v3.1 } : Node)])))))
  else
    some (x_0, x_1, x_2, x_3, x_4_0, x_4_1, o3))
theorem podestaref15_Eye_acts_l0_walk (q0 : Nat) (g_podestaref15_Eye_one : Eye → Option (Node × Eye)) (H_g_podestaref15_Eye_one : ∀ (x : Eye) (r : Node × Eye) (H : g_podestaref15_Eye_one x = some r), ACalls Try.prog tab.S 58 [.ptr 0 0 none] [.box 44 [.sl 66 (List.map Token.av x.L) false, .sc (.int .i64 x.I), .sc (.int .i64 x.End), .sc (.int .i64 x.Deep), .sc (.int .i64 x.F.E), .sc (.int .i64 x.F.At)]] (Node.ag r.1) [.box 44 [.sl 66 (List.map Token.av r.2.L) false, .sc (.int .i64 r.2.I), .sc (.int .i64 r.2.End), .sc (.int .i64 r.2.Deep), .sc (.int .i64 r.2.F.E), .sc (.int .i64 r.2.F.At)]]) (g_podestaref15_Eye_part : Eye → Int → Bool → Option (Node × Eye)) (H_g_podestaref15_Eye_part : ∀ (x : Eye) (k1 : Int) (stroke : Bool) (r : Node × Eye) (H : g_podestaref15_Eye_part x k1 stroke = some r), ACalls Try.prog tab.S 53 [.ptr 0 0 none, .sc (.int .i64 k1), .sc (.bool stroke)] [.box 44 [.sl 66 (List.map Token.av x.L) false, .sc (.int .i64 x.I), .sc (.int .i64 x.End), .sc (.int .i64 x.Deep), .sc (.int .i64 x.F.E), .sc (.int .i64 x.F.At)]] (Node.ag r.1) [.box 44 [.sl 66 (List.map Token.av r.2.L) false, .sc (.int .i64 r.2.I), .sc (.int .i64 r.2.End), .sc (.int .i64 r.2.Deep), .sc (.int .i64 r.2.F.E), .sc (.int .i64 r.2.F.At)]]) (g_podestaref15_Eye_Expr : Eye → Bool → Option (Node × Eye)) (H_g_podestaref15_Eye_Expr : ∀ (x : Eye) (stroke : Bool) (r : Node × Eye) (H : g_podestaref15_Eye_Expr x stroke = some r), ACalls Try.prog tab.S 43 [.ptr 0 0 none, .sc (.bool stroke)] [.box 44 [.sl 66 (List.map Token.av x.L) false, .sc (.int .i64 x.I), .sc (.int .i64 x.End), .sc (.int .i64 x.Deep), .sc (.int .i64 x.F.E), .sc (.int .i64 x.F.At)]] (Node.ag r.1) [.box 44 [.sl 66 (List.map Token.av r.2.L) false, .sc (.int .i64 r.2.I), .sc (.int .i64 r.2.End), .sc (.int .i64 r.2.Deep), .sc (.int .i64 r.2.F.E), .sc (.int .i64 r.2.F.At)]]) (g_podestaref15_Eye_match : Eye → Option (Node × Eye)) (H_g_podestaref15_Eye_match : ∀ (x : Eye) (r : Node × Eye) (H : g_podestaref15_Eye_match x = some r), ACalls Try.prog tab.S 44 [.ptr 0 0 none] [.box 44 [.sl 66 (List.map Token.av x.L) false, .sc (.int .i64 x.I), .sc (.int .i64 x.End), .sc (.int .i64 x.Deep), .sc (.int .i64 x.F.E), .sc (.int .i64 x.F.At)]] (Node.ag r.1) [.box 44 [.sl 66 (List.map Token.av r.2.L) false, .sc (.int .i64 r.2.I), .sc (.int .i64 r.2.End), .sc (.int .i64 r.2.Deep), .sc (.int .i64 r.2.F.E), .sc (.int .i64 r.2.F.At)]]) (g_podestaref15_Eye_given : Eye → ByteArray → Int → Option (Node × Eye)) (H_g_podestaref15_Eye_given : ∀ (x : Eye) (s : ByteArray) (at_ : Int) (r : Node × Eye) (H : g_podestaref15_Eye_given x s at_ = some r), ACalls Try.prog tab.S 45 [.ptr 0 0 none, .sc (.string s), .sc (.int .i64 at_)] [.box 44 [.sl 66 (List.map Token.av x.L) false, .sc (.int .i64 x.I), .sc (.int .i64 x.End), .sc (.int .i64 x.Deep), .sc (.int .i64 x.F.E), .sc (.int .i64 x.F.At)]] (Node.ag r.1) [.box 44 [.sl 66 (List.map Token.av r.2.L) false, .sc (.int .i64 r.2.I), .sc (.int .i64 r.2.End), .sc (.int .i64 r.2.Deep), .sc (.int .i64 r.2.F.E), .sc (.int .i64 r.2.F.At)]]) (g_podestaref15_Eye_acts : Eye → Option (Node × Eye)) (H_g_podestaref15_Eye_acts : ∀ (x : Eye) (r : Node × Eye) (H : g_podestaref15_Eye_acts x = some r), ACalls Try.prog tab.S 46 [.ptr 0 0 none] [.box 44 [.sl 66 (List.map Token.av x.L) false, .sc (.int .i64 x.I), .sc (.int .i64 x.End), .sc (.int .i64 x.Deep), .sc (.int .i64 x.F.E), .sc (.int .i64 x.F.At)]] (Node.ag r.1) [.box 44 [.sl 66 (List.map Token.av r.2.L) false, .sc (.int .i64 r.2.I), .sc (.int .i64 r.2.End), .sc (.int .i64 r.2.Deep), .sc (.int .i64 r.2.F.E), .sc (.int .i64 r.2.F.At)]]) (g_podestaref15_Eye_rest : Eye → Node → Bool → Option (Eye × Node)) (H_g_podestaref15_Eye_rest : ∀ (x : Eye) (n : Node) (acts : Bool) (r : Eye × Node) (H : g_podestaref15_Eye_rest x n acts = some r), ACalls Try.prog tab.S 47 [.ptr 0 0 none, .ptr 1 0 none, .sc (.bool acts)] [.box 44 [.sl 66 (List.map Token.av x.L) false, .sc (.int .i64 x.I), .sc (.int .i64 x.End), .sc (.int .i64 x.Deep), .sc (.int .i64 x.F.E), .sc (.int .i64 x.F.At)], .box 29 [.sc (.int .i64 n.Kind), .sc (.string n.Text), .sc (.int .i64 n.Num), .own 2 1000000, .sc (.int .i64 n.At)], .row 29 (List.map Node.av n.Kids) 1000000 true] (.tup []) [.box 44 [.sl 66 (List.map Token.av r.1.L) false, .sc (.int .i64 r.1.I), .sc (.int .i64 r.1.End), .sc (.int .i64 r.1.Deep), .sc (.int .i64 r.1.F.E), .sc (.int .i64 r.1.F.At)], .box 29 [.sc (.int .i64 r.2.Kind), .sc (.string r.2.Text), .sc (.int .i64 r.2.Num), .own 2 1000000, .sc (.int .i64 r.2.At)], .row 29 (List.map Node.av r.2.Kids) 1000000 true]) (g_podestaref15_Eye_stmt : Eye → Option (Node × Eye)) (H_g_podestaref15_Eye_stmt : ∀ (x : Eye) (r : Node × Eye) (H : g_podestaref15_Eye_stmt x = some r), ACalls Try.prog tab.S 36 [.ptr 0 0 none] [.box 44 [.sl 66 (List.map Token.av x.L) false, .sc (.int .i64 x.I), .sc (.int .i64 x.End), .sc (.int .i64 x.Deep), .sc (.int .i64 x.F.E), .sc (.int .i64 x.F.At)]] (Node.ag r.1) [.box 44 [.sl 66 (List.map Token.av r.2.L) false, .sc (.int .i64 r.2.I), .sc (.int .i64 r.2.End), .sc (.int .i64 r.2.Deep), .sc (.int .i64 r.2.F.E), .sc (.int .i64 r.2.F.At)]]) (g_podestaref15_Eye_block : Eye → Option (Node × Eye)) (H_g_podestaref15_Eye_block : ∀ (x : Eye) (r : Node × Eye) (H : g_podestaref15_Eye_block x = some r), ACalls Try.prog tab.S 20 [.ptr 0 0 none] [.box 44 [.sl 66 (List.map Token.av x.L) false, .sc (.int .i64 x.I), .sc (.int .i64 x.End), .sc (.int .i64 x.Deep), .sc (.int .i64 x.F.E), .sc (.int .i64 x.F.At)]] (Node.ag r.1) [.box 44 [.sl 66 (List.map Token.av r.2.L) false, .sc (.int .i64 r.2.I), .sc (.int .i64 r.2.End), .sc (.int .i64 r.2.Deep), .sc (.int .i64 r.2.F.E), .sc (.int .i64 r.2.F.At)]]) (x : Eye) (v : Eye) (v1 : Int × Eye) (v2 : Bool × Eye)  (r : Node × Eye) (c0 : Ctx) (hc0 : c0.m.length = 1) (res : (List Token) × Int × Int × Int × Int × Int × (List Node)) (J : AX Try.prog tab podestaref15_Eye_acts_F c0 (Rp tab.S c0 (Node.ag r.1) [.box 44 [.sl 66 (List.map Token.av r.2.L) false, .sc (.int .i64 r.2.I), .sc (.int .i64 r.2.End), .sc (.int .i64 r.2.Deep), .sc (.int .i64 r.2.F.E), .sc (.int .i64 r.2.F.At)]]) (some ⟨[.code [1, 1, 1, 1, 1]], [(2, .ptr 1 0 none), (3, .ptr 2 0 none)], [.box 44 [.sl 66 (List.map Token.av res.1) false, .sc (.int .i64 res.2.1), .sc (.int .i64 res.2.2.1), .sc (.int .i64 res.2.2.2.1), .sc (.int .i64 res.2.2.2.2.1), .sc (.int .i64 res.2.2.2.2.2.1)], .box 29 [.sc (.int .i64 0), .sc (.string ⟨#[]⟩), .sc (.int .i64 0), .sl 0 [] true, .sc (.int .i64 0)], .box 29 [.sc (.int .i64 14), .sc (.string ⟨#[]⟩), .sc (.int .i64 0), .own 3 1000000, .sc (.int .i64 v1.1)], .row 29 (List.map Node.av res.2.2.2.2.2.2) 1000000 true]⟩)) :
    ∀ (m : Nat) (again : Bool) (x_0 : List Token) (x_1 : Int) (x_2 : Int) (x_3 : Int) (x_4_0 : Int) (x_4_1 : Int) (o3 : List Node) (H : podestaref15_Eye_acts_l0 g_podestaref15_Eye_Expr m again x_0 x_1 x_2 x_3 x_4_0 x_4_1 o3 = some res), AX Try.prog tab podestaref15_Eye_acts_F c0 (Rp tab.S c0 (Node.ag r.1) [.box 44 [.sl 66 (List.map Token.av r.2.L) false, .sc (.int .i64 r.2.I), .sc (.int .i64 r.2.End), .sc (.int .i64 r.2.Deep), .sc (.int .i64 r.2.F.E), .sc (.int .i64 r.2.F.At)]]) (some ⟨[.code [1, 1, 1, 1, 0, 1, 0, 0], .loop [1, 1, 1, 1, 0, 1, 0], .blk 0, .code [1, 1, 1, 1, 1]], [(0, .ptr 0 0 none), (2, .ptr 1 0 none), (3, .ptr 2 0 none), (4, .sc (.bool again))], [.box 44 [.sl 66 (List.map Token.av x_0) false, .sc (.int .i64 x_1), .sc (.int .i64 x_2), .sc (.int .i64 x_3), .sc (.int .i64 x_4_0), .sc (.int .i64 x_4_1)], .box 29 [.sc (.int .i64 0), .sc (.string ⟨#[]⟩), .sc (.int .i64 0), .sl 0 [] true, .sc (.int .i64 0)], .box 29 [.sc (.int .i64 14), .sc (.string ⟨#[]⟩), .sc (.int .i64 0), .own 3 1000000, .sc (.int .i64 v1.1)], .row 29 (List.map Node.av o3) 1000000 true]⟩) := by
  intro m
  induction m with
  | zero => intro again x_0 x_1 x_2 x_3 x_4_0 x_4_1 o3 H; cases H
  | succ m ih =>
    intro again x_0 x_1 x_2 x_3 x_4_0 x_4_1 o3 H
    rw [podestaref15_Eye_acts_l0] at H
    refine .sg 3 [0,2,3,14] (.cd again H (fun hb H => ?_) (fun hb H => ?_))
    ·
      refine .sg 4 [0,2,3] (.rg (.sg 1 [0,2,3,17] (bndO H fun v3 hv H => (.ch [0,2,3,18] [0] (podestaref15_Eye_At_walk ({ L := x_0, I := x_1, End := x_2, Deep := x_3, F := ({ E := x_4_0, At := x_4_1 } : Fault) } : Eye) v3 hv) (.sg 3 [0,2,3,5] (.dn (.sg 3 [0,2,3,5] (.rg (.sg 1 [0,2,3,5,23] (bndO H fun v4 hv H => (.ch [0,2,3,5,24] [0] (podestaref15_Eye_Eat_walk v3.2 (ByteArray.mk #[111, 117, 116]) v4 hv) (.sg 1 [0,2,3,5,22] (.dn (.cd v4.1 H (fun hb H => ?_) (fun hb H => ?_)))))))))))))))
      ·
        exact .sg 2 [0,2,3,5] (.rg (.sg 1 [0,2,3,5,26] (bndO H fun v5 hv H => (.ch [0,2,3,5,27] [0] (H_g_podestaref15_Eye_Expr v4.2 true v5 hv) (.bg [0,2,3,5,28] Node.av Node.ag Node.av_eq ([v5.1] : List Node) 29 true (.sg 2 [0,2,3,5] (.dn (.sg 1 [0,2,3,5] (.rg (.sg 3 [0,2,3,46,47] (.wk 47 [(0, false)] (.bg [0,2,3,46,48] Node.av Node.ag Node.av_eq ([({ Kind := 15, Text := ⟨#[]⟩, Num := 0, Kids := [v5.1], At := v3.1 } : Node)] : List Node) 29 true (fitH H fun hfit H => (.ap [0,2,3,49] Node.av hfit (.sg 2 [0,2,3] (.dn (.sg 1 [0,2,3] (.rg (.sg 1 [0,2,3,15] (bndO H fun v6 hv H => (.ch [0,2,3,16] [0] (podestaref15_Eye_Eat_walk v5.2 (ByteArray.mk #[44]) v6 hv) (.sg 1 [0,2,3,4] (.dn (.tl hc0 [0,1,2,3] [0,2,3,4] (.into (.to (ih v6.1 v6.2.L v6.2.I v6.2.End v6.2.Deep v6.2.F.E v6.2.F.At (o3 ++ [({ Kind := 15, Text := ⟨#[]⟩, Num := 0, Kids := [v5.1], At := v3.1 } : Node)]) H)))))))))))))))))))))))))))
      ·
        refine .sg 1 [0,2,3,5] (.rg (.sg 1 [0,2,3,5,31] (bndO H fun v7 hv H => (.ch [0,2,3,5,32] [0] (podestaref15_Eye_Eat_walk v4.2 (ByteArray.mk #[115, 101, 116]) v7 hv) (.sg 1 [0,2,3,5,30] (.dn (.cd v7.1 H (fun hb H => ?_) (fun hb H => ?_))))))))
        ·
          exact .sg 3 [0,2,3,5] (.rg (.sg 1 [0,2,3,5,34] (bndO H fun v8 hv H => (.ch [0,2,3,5,35] [0] (podestaref15_Eye_Name_walk v7.2 v8 hv) (.sg 2 [0,2,3,5] (.dn (.rg (.sg 1 [0,2,3,5,37] (bndO H fun v9 hv H => (.ch [0,2,3,5,38] [0] (H_g_podestaref15_Eye_Expr v8.2 true v9 hv) (.bg [0,2,3,5,39] Node.av Node.ag Node.av_eq ([v9.1] : List Node) 29 true (.sg 2 [0,2,3,5] (.dn (.sg 1 [0,2,3,5] (.rg (.sg 3 [0,2,3,46,47] (.wk 47 [(0, false)] (.bg [0,2,3,46,48] Node.av Node.ag Node.av_eq ([({ Kind := 16, Text := v8.1, Num := 0, Kids := [v9.1], At := v3.1 } : Node)] : List Node) 29 true (fitH H fun hfit H => (.ap [0,2,3,49] Node.av hfit (.sg 2 [0,2,3] (.dn (.sg 1 [0,2,3] (.rg (.sg 1 [0,2,3,15] (bndO H fun v10 hv H => (.ch [0,2,3,16] [0] (podestaref15_Eye_Eat_walk v9.2 (ByteArray.mk #[44]) v10 hv) (.sg 1 [0,2,3,4] (.dn (.tl hc0 [0,1,2,3] [0,2,3,4] (.into (.to (ih v10.1 v10.2.L v10.2.I v10.2.End v10.2.Deep v10.2.F.E v10.2.F.At (o3 ++ [({ Kind := 16, Text := v8.1, Num := 0, Kids := [v9.1], At := v3.1 } : Node)]) H)))))))))))))))))))))))))))))))))
        ·
          refine .sg 1 [0,2,3,5] (.rg (.sg 1 [0,2,3,5,42] (bndO H fun v11 hv H => (.ch [0,2,3,5,43] [0] (podestaref15_Eye_Eat_walk v7.2 (ByteArray.mk #[116, 101, 108, 108]) v11 hv) (.sg 1 [0,2,3,5,41] (.dn (.cd v11.1 H (fun hb H => ?_) (fun hb H => ?_))))))))
          ·
            exact .sg 2 [0,2,3,5] (.rg (.sg 3 [0,2,3,46,47] (.wk 47 [(29, false)] (.bg [0,2,3,46,48] Node.av Node.ag Node.av_eq ([({ Kind := 17, Text := ⟨#[]⟩, Num := 0, Kids := [], At := v3.1 } : Node)] : List Node) 29 true (fitH H fun hfit H => (.ap [0,2,3,49] Node.av hfit (.sg 2 [0,2,3] (.dn (.sg 1 [0,2,3] (.rg (.sg 1 [0,2,3,15] (bndO H fun v12 hv H => (.ch [0,2,3,16] [0] (podestaref15_Eye_Eat_walk v11.2 (ByteArray.mk #[44]) v12 hv) (.sg 1 [0,2,3,4] (.dn (.tl hc0 [0,1,2,3] [0,2,3,4] (.into (.to (ih v12.1 v12.2.L v12.2.I v12.2.End v12.2.Deep v12.2.F.E v12.2.F.At (o3 ++ [({ Kind := 17, Text := ⟨#[]⟩, Num := 0, Kids := [], At := v3.1 } : Node)]) H)))))))))))))))))))
          ·
            exact .rg (.sg 1 [0,2,3,5,20] (bndO H fun v13 hv H => (.ch [0,2,3,5] [0] (podestaref15_Eye_Bad_walk v11.2 15 v13 hv) (.dn (.sg 1 [0,2,3,5] (.rg (.sg 3 [0,2,3,46,47] (.wk 47 [(29, false)] (.bg [0,2,3,46,48] Node.av Node.ag Node.av_eq ([({ Kind := 0, Text := ⟨#[]⟩, Num := 0, Kids := [], At := v3.1 } : Node)] : List Node) 29 true (fitH H fun hfit H => (.ap [0,2,3,49] Node.av hfit (.sg 2 [0,2,3] (.dn (.sg 1 [0,2,3] (.rg (.sg 1 [0,2,3,15] (bndO H fun v14 hv H => (.ch [0,2,3,16] [0] (podestaref15_Eye_Eat_walk v13 (ByteArray.mk #[44]) v14 hv) (.sg 1 [0,2,3,4] (.dn (.tl hc0 [0,1,2,3] [0,2,3,4] (.into (.to (ih v14.1 v14.2.L v14.2.I v14.2.End v14.2.Deep v14.2.F.E v14.2.F.At (o3 ++ [({ Kind := 0, Text := ⟨#[]⟩, Num := 0, Kids := [], At := v3.1 } : Node)]) H))))))))))))))))))))))))
    ·
      refine .sg 1 [2,3] (.kp [2,3] ?_)
      obtain rfl := Option.some.inj H
      exact .to J
def podestaref15_Eye_acts_raw (q0 : Nat) (g_podestaref15_Eye_one : Eye → Option (Node × Eye)) (g_podestaref15_Eye_part : Eye → Int → Bool → Option (Node × Eye)) (g_podestaref15_Eye_Expr : Eye → Bool → Option (Node × Eye)) (g_podestaref15_Eye_match : Eye → Option (Node × Eye)) (g_podestaref15_Eye_given : Eye → ByteArray → Int → Option (Node × Eye)) (g_podestaref15_Eye_acts : Eye → Option (Node × Eye)) (g_podestaref15_Eye_rest : Eye → Node → Bool → Option (Eye × Node)) (g_podestaref15_Eye_stmt : Eye → Option (Node × Eye)) (g_podestaref15_Eye_block : Eye → Option (Node × Eye)) (x : Eye) : Option (Node × Eye) :=
  (podestaref15_Eye_Must_raw x (ByteArray.mk #[100, 111])).bind fun v =>
  (podestaref15_Eye_At_raw v).bind fun v1 =>
  (podestaref15_Eye_Eat_raw v1.2 (ByteArray.mk #[100, 114, 111, 112])).bind fun v2 =>
  (bif v2.1 then
    some (({ Kind := 14, Text := ⟨#[]⟩, Num := 0, Kids := ([] : List Node), At := v1.1 } : Node), v2.2)
  else
    (podestaref15_Eye_acts_l0 g_podestaref15_Eye_Expr q0 true v2.2.L v2.2.I v2.2.End v2.2.Deep v2.2.F.E v2.2.F.At ([] : List Node)).bind fun v3 =>
    some (({ Kind := 14, Text := ⟨#[]⟩, Num := 0, Kids := v3.2.2.2.2.2.2, At := v1.1 } : Node), ({ L := v3.1, I := v3.2.1, End := v3.2.2.1, Deep := v3.2.2.2.1, F := ({ E := v3.2.2.2.2.1, At := v3.2.2.2.2.2.1 } : Fault) } : Eye)))
theorem podestaref15_Eye_acts_walk (q0 : Nat) (g_podestaref15_Eye_one : Eye → Option (Node × Eye)) (H_g_podestaref15_Eye_one : ∀ (x : Eye) (r : Node × Eye) (H : g_podestaref15_Eye_one x = some r), ACalls Try.prog tab.S 58 [.ptr 0 0 none] [.box 44 [.sl 66 (List.map Token.av x.L) false, .sc (.int .i64 x.I), .sc (.int .i64 x.End), .sc (.int .i64 x.Deep), .sc (.int .i64 x.F.E), .sc (.int .i64 x.F.At)]] (Node.ag r.1) [.box 44 [.sl 66 (List.map Token.av r.2.L) false, .sc (.int .i64 r.2.I), .sc (.int .i64 r.2.End), .sc (.int .i64 r.2.Deep), .sc (.int .i64 r.2.F.E), .sc (.int .i64 r.2.F.At)]]) (g_podestaref15_Eye_part : Eye → Int → Bool → Option (Node × Eye)) (H_g_podestaref15_Eye_part : ∀ (x : Eye) (k1 : Int) (stroke : Bool) (r : Node × Eye) (H : g_podestaref15_Eye_part x k1 stroke = some r), ACalls Try.prog tab.S 53 [.ptr 0 0 none, .sc (.int .i64 k1), .sc (.bool stroke)] [.box 44 [.sl 66 (List.map Token.av x.L) false, .sc (.int .i64 x.I), .sc (.int .i64 x.End), .sc (.int .i64 x.Deep), .sc (.int .i64 x.F.E), .sc (.int .i64 x.F.At)]] (Node.ag r.1) [.box 44 [.sl 66 (List.map Token.av r.2.L) false, .sc (.int .i64 r.2.I), .sc (.int .i64 r.2.End), .sc (.int .i64 r.2.Deep), .sc (.int .i64 r.2.F.E), .sc (.int .i64 r.2.F.At)]]) (g_podestaref15_Eye_Expr : Eye → Bool → Option (Node × Eye)) (H_g_podestaref15_Eye_Expr : ∀ (x : Eye) (stroke : Bool) (r : Node × Eye) (H : g_podestaref15_Eye_Expr x stroke = some r), ACalls Try.prog tab.S 43 [.ptr 0 0 none, .sc (.bool stroke)] [.box 44 [.sl 66 (List.map Token.av x.L) false, .sc (.int .i64 x.I), .sc (.int .i64 x.End), .sc (.int .i64 x.Deep), .sc (.int .i64 x.F.E), .sc (.int .i64 x.F.At)]] (Node.ag r.1) [.box 44 [.sl 66 (List.map Token.av r.2.L) false, .sc (.int .i64 r.2.I), .sc (.int .i64 r.2.End), .sc (.int .i64 r.2.Deep), .sc (.int .i64 r.2.F.E), .sc (.int .i64 r.2.F.At)]]) (g_podestaref15_Eye_match : Eye → Option (Node × Eye)) (H_g_podestaref15_Eye_match : ∀ (x : Eye) (r : Node × Eye) (H : g_podestaref15_Eye_match x = some r), ACalls Try.prog tab.S 44 [.ptr 0 0 none] [.box 44 [.sl 66 (List.map Token.av x.L) false, .sc (.int .i64 x.I), .sc (.int .i64 x.End), .sc (.int .i64 x.Deep), .sc (.int .i64 x.F.E), .sc (.int .i64 x.F.At)]] (Node.ag r.1) [.box 44 [.sl 66 (List.map Token.av r.2.L) false, .sc (.int .i64 r.2.I), .sc (.int .i64 r.2.End), .sc (.int .i64 r.2.Deep), .sc (.int .i64 r.2.F.E), .sc (.int .i64 r.2.F.At)]]) (g_podestaref15_Eye_given : Eye → ByteArray → Int → Option (Node × Eye)) (H_g_podestaref15_Eye_given : ∀ (x : Eye) (s : ByteArray) (at_ : Int) (r : Node × Eye) (H : g_podestaref15_Eye_given x s at_ = some r), ACalls Try.prog tab.S 45 [.ptr 0 0 none, .sc (.string s), .sc (.int .i64 at_)] [.box 44 [.sl 66 (List.map Token.av x.L) false, .sc (.int .i64 x.I), .sc (.int .i64 x.End), .sc (.int .i64 x.Deep), .sc (.int .i64 x.F.E), .sc (.int .i64 x.F.At)]] (Node.ag r.1) [.box 44 [.sl 66 (List.map Token.av r.2.L) false, .sc (.int .i64 r.2.I), .sc (.int .i64 r.2.End), .sc (.int .i64 r.2.Deep), .sc (.int .i64 r.2.F.E), .sc (.int .i64 r.2.F.At)]]) (g_podestaref15_Eye_acts : Eye → Option (Node × Eye)) (H_g_podestaref15_Eye_acts : ∀ (x : Eye) (r : Node × Eye) (H : g_podestaref15_Eye_acts x = some r), ACalls Try.prog tab.S 46 [.ptr 0 0 none] [.box 44 [.sl 66 (List.map Token.av x.L) false, .sc (.int .i64 x.I), .sc (.int .i64 x.End), .sc (.int .i64 x.Deep), .sc (.int .i64 x.F.E), .sc (.int .i64 x.F.At)]] (Node.ag r.1) [.box 44 [.sl 66 (List.map Token.av r.2.L) false, .sc (.int .i64 r.2.I), .sc (.int .i64 r.2.End), .sc (.int .i64 r.2.Deep), .sc (.int .i64 r.2.F.E), .sc (.int .i64 r.2.F.At)]]) (g_podestaref15_Eye_rest : Eye → Node → Bool → Option (Eye × Node)) (H_g_podestaref15_Eye_rest : ∀ (x : Eye) (n : Node) (acts : Bool) (r : Eye × Node) (H : g_podestaref15_Eye_rest x n acts = some r), ACalls Try.prog tab.S 47 [.ptr 0 0 none, .ptr 1 0 none, .sc (.bool acts)] [.box 44 [.sl 66 (List.map Token.av x.L) false, .sc (.int .i64 x.I), .sc (.int .i64 x.End), .sc (.int .i64 x.Deep), .sc (.int .i64 x.F.E), .sc (.int .i64 x.F.At)], .box 29 [.sc (.int .i64 n.Kind), .sc (.string n.Text), .sc (.int .i64 n.Num), .own 2 1000000, .sc (.int .i64 n.At)], .row 29 (List.map Node.av n.Kids) 1000000 true] (.tup []) [.box 44 [.sl 66 (List.map Token.av r.1.L) false, .sc (.int .i64 r.1.I), .sc (.int .i64 r.1.End), .sc (.int .i64 r.1.Deep), .sc (.int .i64 r.1.F.E), .sc (.int .i64 r.1.F.At)], .box 29 [.sc (.int .i64 r.2.Kind), .sc (.string r.2.Text), .sc (.int .i64 r.2.Num), .own 2 1000000, .sc (.int .i64 r.2.At)], .row 29 (List.map Node.av r.2.Kids) 1000000 true]) (g_podestaref15_Eye_stmt : Eye → Option (Node × Eye)) (H_g_podestaref15_Eye_stmt : ∀ (x : Eye) (r : Node × Eye) (H : g_podestaref15_Eye_stmt x = some r), ACalls Try.prog tab.S 36 [.ptr 0 0 none] [.box 44 [.sl 66 (List.map Token.av x.L) false, .sc (.int .i64 x.I), .sc (.int .i64 x.End), .sc (.int .i64 x.Deep), .sc (.int .i64 x.F.E), .sc (.int .i64 x.F.At)]] (Node.ag r.1) [.box 44 [.sl 66 (List.map Token.av r.2.L) false, .sc (.int .i64 r.2.I), .sc (.int .i64 r.2.End), .sc (.int .i64 r.2.Deep), .sc (.int .i64 r.2.F.E), .sc (.int .i64 r.2.F.At)]]) (g_podestaref15_Eye_block : Eye → Option (Node × Eye)) (H_g_podestaref15_Eye_block : ∀ (x : Eye) (r : Node × Eye) (H : g_podestaref15_Eye_block x = some r), ACalls Try.prog tab.S 20 [.ptr 0 0 none] [.box 44 [.sl 66 (List.map Token.av x.L) false, .sc (.int .i64 x.I), .sc (.int .i64 x.End), .sc (.int .i64 x.Deep), .sc (.int .i64 x.F.E), .sc (.int .i64 x.F.At)]] (Node.ag r.1) [.box 44 [.sl 66 (List.map Token.av r.2.L) false, .sc (.int .i64 r.2.I), .sc (.int .i64 r.2.End), .sc (.int .i64 r.2.Deep), .sc (.int .i64 r.2.F.E), .sc (.int .i64 r.2.F.At)]]) (x : Eye) (r : Node × Eye) (H : podestaref15_Eye_acts_raw q0 g_podestaref15_Eye_one g_podestaref15_Eye_part g_podestaref15_Eye_Expr g_podestaref15_Eye_match g_podestaref15_Eye_given g_podestaref15_Eye_acts g_podestaref15_Eye_rest g_podestaref15_Eye_stmt g_podestaref15_Eye_block x = some r) : ACalls Try.prog tab.S 46 [.ptr 0 0 none] [.box 44 [.sl 66 (List.map Token.av x.L) false, .sc (.int .i64 x.I), .sc (.int .i64 x.End), .sc (.int .i64 x.Deep), .sc (.int .i64 x.F.E), .sc (.int .i64 x.F.At)]] (Node.ag r.1) [.box 44 [.sl 66 (List.map Token.av r.2.L) false, .sc (.int .i64 r.2.I), .sc (.int .i64 r.2.End), .sc (.int .i64 r.2.Deep), .sc (.int .i64 r.2.F.E), .sc (.int .i64 r.2.F.At)]] := by
  refine .of_AX podestaref15_Eye_acts_F Try.func46 fun c0 hc0 => ?_
  rw [podestaref15_Eye_acts_raw] at H
  refine .sg 3 [0,2] (.rg (.sg 1 [0,2,6] (bndO H fun v hv H => (.ch [0,2] [0] (podestaref15_Eye_Must_walk x (ByteArray.mk #[100, 111]) v hv) (.dn (.sg 1 [0,2] (.rg (.sg 1 [0,2,8] (bndO H fun v1 hv H => (.ch [0,2,9] [0] (podestaref15_Eye_At_walk v v1 hv) (.sg 3 [0,2,3] (.dn (.sg 2 [0,2,3] (.adb 2 3 29 (.rg (.sg 1 [0,2,3,11] (bndO H fun v2 hv H => (.ch [0,2,3,12] [0] (podestaref15_Eye_Eat_walk v1.2 (ByteArray.mk #[100, 114, 111, 112]) v2 hv) (.dn (.cd v2.1 H (fun hb H => ?_) (fun hb H => ?_)))))))))))))))))))))
  ·
    refine .sg 2 [2] ?_
    obtain rfl := Option.some.inj H
    exact .ret Try.func46 hc0 [0]
  ·
    refine .sg 5 [0,2,3,4] ?_
    refine bndO H fun v3 hv H => (.into (.to (podestaref15_Eye_acts_l0_walk q0 g_podestaref15_Eye_one H_g_podestaref15_Eye_one g_podestaref15_Eye_part H_g_podestaref15_Eye_part g_podestaref15_Eye_Expr H_g_podestaref15_Eye_Expr g_podestaref15_Eye_match H_g_podestaref15_Eye_match g_podestaref15_Eye_given H_g_podestaref15_Eye_given g_podestaref15_Eye_acts H_g_podestaref15_Eye_acts g_podestaref15_Eye_rest H_g_podestaref15_Eye_rest g_podestaref15_Eye_stmt H_g_podestaref15_Eye_stmt g_podestaref15_Eye_block H_g_podestaref15_Eye_block x v v1 v2 r c0 hc0 v3 ?_ q0 true v2.2.L v2.2.I v2.2.End v2.2.Deep v2.2.F.E v2.2.F.At ([] : List Node) hv)))
    refine .sg 2 [2] ?_
    obtain rfl := Option.some.inj H
    exact .ret Try.func46 hc0 [0]

/-! ### (*podesta/podestaref15.Eye).rest: function 47 -/
noncomputable def podestaref15_Eye_rest_F : Go.Sh.Fn := ⟨47, bodyOf Try.f47, 62⟩
def podestaref15_Eye_rest_raw (g_podestaref15_Eye_one : Eye → Option (Node × Eye)) (g_podestaref15_Eye_part : Eye → Int → Bool → Option (Node × Eye)) (g_podestaref15_Eye_Expr : Eye → Bool → Option (Node × Eye)) (g_podestaref15_Eye_match : Eye → Option (Node × Eye)) (g_podestaref15_Eye_given : Eye → ByteArray → Int → Option (Node × Eye)) (g_podestaref15_Eye_acts : Eye → Option (Node × Eye)) (g_podestaref15_Eye_rest : Eye → Node → Bool → Option (Eye × Node)) (g_podestaref15_Eye_stmt : Eye → Option (Node × Eye)) (g_podestaref15_Eye_block : Eye → Option (Node × Eye)) (x : Eye) (n : Node) (acts : Bool) : Option (Eye × Node) :=
  (g_podestaref15_Eye_Expr x true).bind fun v =>
  fitO (n.Kids.length + 1) 64 (
  (g_podestaref15_Eye_match v.2).bind fun v1 =>
  fitO ((n.Kids ++ [v.1]).length + 1) 64 (
  (podestaref15_Eye_Eat_raw v1.2 (ByteArray.mk #[112, 114, 105, 111])).bind fun v2 =>
  (bif v2.1 then
    (g_podestaref15_Eye_Expr v2.2 true).bind fun v3 =>
    fitO (((n.Kids ++ [v.1]) ++ [v1.1]).length + 1) 64 (
    (bif acts then
      (g_podestaref15_Eye_acts v3.2).bind fun v4 =>
      fitO ((((n.Kids ++ [v.1]) ++ [v1.1]) ++ [v3.1]).length + 1) 64 (
      (podestaref15_Eye_Must_raw v4.2 (ByteArray.mk #[59])).bind fun v5 =>
      some (v5, ({ n with Num := 1, Kids := ((((n.Kids ++ [v.1]) ++ [v1.1]) ++ [v3.1]) ++ [v4.1]) } : Node)))
    else
      (podestaref15_Eye_Must_raw v3.2 (ByteArray.mk #[59])).bind fun v6 =>
      some (v6, ({ n with Num := 1, Kids := (((n.Kids ++ [v.1]) ++ [v1.1]) ++ [v3.1]) } : Node))))
  else
    (bif acts then
      (g_podestaref15_Eye_acts v2.2).bind fun v7 =>
      fitO (((n.Kids ++ [v.1]) ++ [v1.1]).length + 1) 64 (
      (podestaref15_Eye_Must_raw v7.2 (ByteArray.mk #[59])).bind fun v8 =>
      some (v8, ({ n with Kids := (((n.Kids ++ [v.1]) ++ [v1.1]) ++ [v7.1]) } : Node)))
    else
      (podestaref15_Eye_Must_raw v2.2 (ByteArray.mk #[59])).bind fun v9 =>
      some (v9, ({ n with Kids := ((n.Kids ++ [v.1]) ++ [v1.1]) } : Node))))))
theorem podestaref15_Eye_rest_walk (g_podestaref15_Eye_one : Eye → Option (Node × Eye)) (H_g_podestaref15_Eye_one : ∀ (x : Eye) (r : Node × Eye) (H : g_podestaref15_Eye_one x = some r), ACalls Try.prog tab.S 58 [.ptr 0 0 none] [.box 44 [.sl 66 (List.map Token.av x.L) false, .sc (.int .i64 x.I), .sc (.int .i64 x.End), .sc (.int .i64 x.Deep), .sc (.int .i64 x.F.E), .sc (.int .i64 x.F.At)]] (Node.ag r.1) [.box 44 [.sl 66 (List.map Token.av r.2.L) false, .sc (.int .i64 r.2.I), .sc (.int .i64 r.2.End), .sc (.int .i64 r.2.Deep), .sc (.int .i64 r.2.F.E), .sc (.int .i64 r.2.F.At)]]) (g_podestaref15_Eye_part : Eye → Int → Bool → Option (Node × Eye)) (H_g_podestaref15_Eye_part : ∀ (x : Eye) (k1 : Int) (stroke : Bool) (r : Node × Eye) (H : g_podestaref15_Eye_part x k1 stroke = some r), ACalls Try.prog tab.S 53 [.ptr 0 0 none, .sc (.int .i64 k1), .sc (.bool stroke)] [.box 44 [.sl 66 (List.map Token.av x.L) false, .sc (.int .i64 x.I), .sc (.int .i64 x.End), .sc (.int .i64 x.Deep), .sc (.int .i64 x.F.E), .sc (.int .i64 x.F.At)]] (Node.ag r.1) [.box 44 [.sl 66 (List.map Token.av r.2.L) false, .sc (.int .i64 r.2.I), .sc (.int .i64 r.2.End), .sc (.int .i64 r.2.Deep), .sc (.int .i64 r.2.F.E), .sc (.int .i64 r.2.F.At)]]) (g_podestaref15_Eye_Expr : Eye → Bool → Option (Node × Eye)) (H_g_podestaref15_Eye_Expr : ∀ (x : Eye) (stroke : Bool) (r : Node × Eye) (H : g_podestaref15_Eye_Expr x stroke = some r), ACalls Try.prog tab.S 43 [.ptr 0 0 none, .sc (.bool stroke)] [.box 44 [.sl 66 (List.map Token.av x.L) false, .sc (.int .i64 x.I), .sc (.int .i64 x.End), .sc (.int .i64 x.Deep), .sc (.int .i64 x.F.E), .sc (.int .i64 x.F.At)]] (Node.ag r.1) [.box 44 [.sl 66 (List.map Token.av r.2.L) false, .sc (.int .i64 r.2.I), .sc (.int .i64 r.2.End), .sc (.int .i64 r.2.Deep), .sc (.int .i64 r.2.F.E), .sc (.int .i64 r.2.F.At)]]) (g_podestaref15_Eye_match : Eye → Option (Node × Eye)) (H_g_podestaref15_Eye_match : ∀ (x : Eye) (r : Node × Eye) (H : g_podestaref15_Eye_match x = some r), ACalls Try.prog tab.S 44 [.ptr 0 0 none] [.box 44 [.sl 66 (List.map Token.av x.L) false, .sc (.int .i64 x.I), .sc (.int .i64 x.End), .sc (.int .i64 x.Deep), .sc (.int .i64 x.F.E), .sc (.int .i64 x.F.At)]] (Node.ag r.1) [.box 44 [.sl 66 (List.map Token.av r.2.L) false, .sc (.int .i64 r.2.I), .sc (.int .i64 r.2.End), .sc (.int .i64 r.2.Deep), .sc (.int .i64 r.2.F.E), .sc (.int .i64 r.2.F.At)]]) (g_podestaref15_Eye_given : Eye → ByteArray → Int → Option (Node × Eye)) (H_g_podestaref15_Eye_given : ∀ (x : Eye) (s : ByteArray) (at_ : Int) (r : Node × Eye) (H : g_podestaref15_Eye_given x s at_ = some r), ACalls Try.prog tab.S 45 [.ptr 0 0 none, .sc (.string s), .sc (.int .i64 at_)] [.box 44 [.sl 66 (List.map Token.av x.L) false, .sc (.int .i64 x.I), .sc (.int .i64 x.End), .sc (.int .i64 x.Deep), .sc (.int .i64 x.F.E), .sc (.int .i64 x.F.At)]] (Node.ag r.1) [.box 44 [.sl 66 (List.map Token.av r.2.L) false, .sc (.int .i64 r.2.I), .sc (.int .i64 r.2.End), .sc (.int .i64 r.2.Deep), .sc (.int .i64 r.2.F.E), .sc (.int .i64 r.2.F.At)]]) (g_podestaref15_Eye_acts : Eye → Option (Node × Eye)) (H_g_podestaref15_Eye_acts : ∀ (x : Eye) (r : Node × Eye) (H : g_podestaref15_Eye_acts x = some r), ACalls Try.prog tab.S 46 [.ptr 0 0 none] [.box 44 [.sl 66 (List.map Token.av x.L) false, .sc (.int .i64 x.I), .sc (.int .i64 x.End), .sc (.int .i64 x.Deep), .sc (.int .i64 x.F.E), .sc (.int .i64 x.F.At)]] (Node.ag r.1) [.box 44 [.sl 66 (List.map Token.av r.2.L) false, .sc (.int .i64 r.2.I), .sc (.int .i64 r.2.End), .sc (.int .i64 r.2.Deep), .sc (.int .i64 r.2.F.E), .sc (.int .i64 r.2.F.At)]]) (g_podestaref15_Eye_rest : Eye → Node → Bool → Option (Eye × Node)) (H_g_podestaref15_Eye_rest : ∀ (x : Eye) (n : Node) (acts : Bool) (r : Eye × Node) (H : g_podestaref15_Eye_rest x n acts = some r), ACalls Try.prog tab.S 47 [.ptr 0 0 none, .ptr 1 0 none, .sc (.bool acts)] [.box 44 [.sl 66 (List.map Token.av x.L) false, .sc (.int .i64 x.I), .sc (.int .i64 x.End), .sc (.int .i64 x.Deep), .sc (.int .i64 x.F.E), .sc (.int .i64 x.F.At)], .box 29 [.sc (.int .i64 n.Kind), .sc (.string n.Text), .sc (.int .i64 n.Num), .own 2 1000000, .sc (.int .i64 n.At)], .row 29 (List.map Node.av n.Kids) 1000000 true] (.tup []) [.box 44 [.sl 66 (List.map Token.av r.1.L) false, .sc (.int .i64 r.1.I), .sc (.int .i64 r.1.End), .sc (.int .i64 r.1.Deep), .sc (.int .i64 r.1.F.E), .sc (.int .i64 r.1.F.At)], .box 29 [.sc (.int .i64 r.2.Kind), .sc (.string r.2.Text), .sc (.int .i64 r.2.Num), .own 2 1000000, .sc (.int .i64 r.2.At)], .row 29 (List.map Node.av r.2.Kids) 1000000 true]) (g_podestaref15_Eye_stmt : Eye → Option (Node × Eye)) (H_g_podestaref15_Eye_stmt : ∀ (x : Eye) (r : Node × Eye) (H : g_podestaref15_Eye_stmt x = some r), ACalls Try.prog tab.S 36 [.ptr 0 0 none] [.box 44 [.sl 66 (List.map Token.av x.L) false, .sc (.int .i64 x.I), .sc (.int .i64 x.End), .sc (.int .i64 x.Deep), .sc (.int .i64 x.F.E), .sc (.int .i64 x.F.At)]] (Node.ag r.1) [.box 44 [.sl 66 (List.map Token.av r.2.L) false, .sc (.int .i64 r.2.I), .sc (.int .i64 r.2.End), .sc (.int .i64 r.2.Deep), .sc (.int .i64 r.2.F.E), .sc (.int .i64 r.2.F.At)]]) (g_podestaref15_Eye_block : Eye → Option (Node × Eye)) (H_g_podestaref15_Eye_block : ∀ (x : Eye) (r : Node × Eye) (H : g_podestaref15_Eye_block x = some r), ACalls Try.prog tab.S 20 [.ptr 0 0 none] [.box 44 [.sl 66 (List.map Token.av x.L) false, .sc (.int .i64 x.I), .sc (.int .i64 x.End), .sc (.int .i64 x.Deep), .sc (.int .i64 x.F.E), .sc (.int .i64 x.F.At)]] (Node.ag r.1) [.box 44 [.sl 66 (List.map Token.av r.2.L) false, .sc (.int .i64 r.2.I), .sc (.int .i64 r.2.End), .sc (.int .i64 r.2.Deep), .sc (.int .i64 r.2.F.E), .sc (.int .i64 r.2.F.At)]]) (x : Eye) (n : Node) (acts : Bool) (r : Eye × Node) (H : podestaref15_Eye_rest_raw g_podestaref15_Eye_one g_podestaref15_Eye_part g_podestaref15_Eye_Expr g_podestaref15_Eye_match g_podestaref15_Eye_given g_podestaref15_Eye_acts g_podestaref15_Eye_rest g_podestaref15_Eye_stmt g_podestaref15_Eye_block x n acts = some r) : ACalls Try.prog tab.S 47 [.ptr 0 0 none, .ptr 1 0 none, .sc (.bool acts)] [.box 44 [.sl 66 (List.map Token.av x.L) false, .sc (.int .i64 x.I), .sc (.int .i64 x.End), .sc (.int .i64 x.Deep), .sc (.int .i64 x.F.E), .sc (.int .i64 x.F.At)], .box 29 [.sc (.int .i64 n.Kind), .sc (.string n.Text), .sc (.int .i64 n.Num), .own 2 1000000, .sc (.int .i64 n.At)], .row 29 (List.map Node.av n.Kids) 1000000 true] (.tup []) [.box 44 [.sl 66 (List.map Token.av r.1.L) false, .sc (.int .i64 r.1.I), .sc (.int .i64 r.1.End), .sc (.int .i64 r.1.Deep), .sc (.int .i64 r.1.F.E), .sc (.int .i64 r.1.F.At)], .box 29 [.sc (.int .i64 r.2.Kind), .sc (.string r.2.Text), .sc (.int .i64 r.2.Num), .own 2 1000000, .sc (.int .i64 r.2.At)], .row 29 (List.map Node.av r.2.Kids) 1000000 true] := by
  refine .of_AX podestaref15_Eye_rest_F Try.func47 fun c0 hc0 => ?_
  rw [podestaref15_Eye_rest_raw] at H
  refine .sg 1 [0,1,2] (bndO H fun v hv_v H => (fitH H fun hfit2 H => (.rp hc0 [0, 1, 2] [⟨5, [], [], .loud, [(10, .ptr 0 0 none)], [.box 44 [.sl 66 (List.map Token.av x.L) false, .sc (.int .i64 x.I), .sc (.int .i64 x.End), .sc (.int .i64 x.Deep), .sc (.int .i64 x.F.E), .sc (.int .i64 x.F.At)], .box 29 [.sc (.int .i64 n.Kind), .sc (.string n.Text), .sc (.int .i64 n.Num), .own 2 1000000, .sc (.int .i64 n.At)], .row 29 (List.map Node.av n.Kids) 1000000 true], Node.ag v.1, [.box 44 [.sl 66 (List.map Token.av v.2.L) false, .sc (.int .i64 v.2.I), .sc (.int .i64 v.2.End), .sc (.int .i64 v.2.Deep), .sc (.int .i64 v.2.F.E), .sc (.int .i64 v.2.F.At)], .box 29 [.sc (.int .i64 n.Kind), .sc (.string n.Text), .sc (.int .i64 n.Num), .own 2 1000000, .sc (.int .i64 n.At)], .row 29 (List.map Node.av n.Kids) 1000000 true]⟩, ⟨8, [], [], .loud, [(9, .own 2 1000000), (13, .sl 29 [.agg [.sc (.int .i64 0), .sc (.string (ByteArray.mk #[])), .sc (.int .i64 0), .sl 0 [] true, .sc (.int .i64 0)]] true)], [.box 44 [.sl 66 (List.map Token.av v.2.L) false, .sc (.int .i64 v.2.I), .sc (.int .i64 v.2.End), .sc (.int .i64 v.2.Deep), .sc (.int .i64 v.2.F.E), .sc (.int .i64 v.2.F.At)], .box 29 [.sc (.int .i64 n.Kind), .sc (.string n.Text), .sc (.int .i64 n.Num), .own 2 1000000, .sc (.int .i64 n.At)], .row 29 (List.map Node.av n.Kids) 1000000 true], .own 2 1000001, [.box 44 [.sl 66 (List.map Token.av v.2.L) false, .sc (.int .i64 v.2.I), .sc (.int .i64 v.2.End), .sc (.int .i64 v.2.Deep), .sc (.int .i64 v.2.F.E), .sc (.int .i64 v.2.F.At)], .box 29 [.sc (.int .i64 n.Kind), .sc (.string n.Text), .sc (.int .i64 n.Num), .own 2 1000000, .sc (.int .i64 n.At)], .row 29 (List.map Node.av n.Kids ++ [.agg [.sc (.int .i64 0), .sc (.string (ByteArray.mk #[])), .sc (.int .i64 0), .sl 0 [] true, .sc (.int .i64 0)]]) 1000001 true]⟩, ⟨9, [], [13], .read, [(12, .sc (.int .i64 (((List.map Node.av n.Kids).length : Nat) : Int))), (14, .own 2 1000001)], [.box 44 [.sl 66 (List.map Token.av v.2.L) false, .sc (.int .i64 v.2.I), .sc (.int .i64 v.2.End), .sc (.int .i64 v.2.Deep), .sc (.int .i64 v.2.F.E), .sc (.int .i64 v.2.F.At)], .box 29 [.sc (.int .i64 n.Kind), .sc (.string n.Text), .sc (.int .i64 n.Num), .own 2 1000000, .sc (.int .i64 n.At)], .row 29 (List.map Node.av n.Kids ++ [.agg [.sc (.int .i64 0), .sc (.string (ByteArray.mk #[])), .sc (.int .i64 0), .sl 0 [] true, .sc (.int .i64 0)]]) 1000001 true], .el 29 2 1000001 ((List.map Node.av n.Kids).length) 0, [.box 44 [.sl 66 (List.map Token.av v.2.L) false, .sc (.int .i64 v.2.I), .sc (.int .i64 v.2.End), .sc (.int .i64 v.2.Deep), .sc (.int .i64 v.2.F.E), .sc (.int .i64 v.2.F.At)], .box 29 [.sc (.int .i64 n.Kind), .sc (.string n.Text), .sc (.int .i64 n.Num), .own 2 1000000, .sc (.int .i64 n.At)], .row 29 (List.map Node.av n.Kids ++ [.agg [.sc (.int .i64 0), .sc (.string (ByteArray.mk #[])), .sc (.int .i64 0), .sl 0 [] true, .sc (.int .i64 0)]]) 1000001 true]⟩, ⟨10, [], [13], .loud, [(11, Node.ag v.1), (15, .el 29 2 1000001 ((List.map Node.av n.Kids).length) 0)], [.box 44 [.sl 66 (List.map Token.av v.2.L) false, .sc (.int .i64 v.2.I), .sc (.int .i64 v.2.End), .sc (.int .i64 v.2.Deep), .sc (.int .i64 v.2.F.E), .sc (.int .i64 v.2.F.At)], .box 29 [.sc (.int .i64 n.Kind), .sc (.string n.Text), .sc (.int .i64 n.Num), .own 2 1000000, .sc (.int .i64 n.At)], .row 29 (List.map Node.av n.Kids ++ [.agg [.sc (.int .i64 0), .sc (.string (ByteArray.mk #[])), .sc (.int .i64 0), .sl 0 [] true, .sc (.int .i64 0)]]) 1000001 true], .u, [.box 44 [.sl 66 (List.map Token.av v.2.L) false, .sc (.int .i64 v.2.I), .sc (.int .i64 v.2.End), .sc (.int .i64 v.2.Deep), .sc (.int .i64 v.2.F.E), .sc (.int .i64 v.2.F.At)], .box 29 [.sc (.int .i64 n.Kind), .sc (.string n.Text), .sc (.int .i64 n.Num), .own 2 1000000, .sc (.int .i64 n.At)], .row 29 (List.map Node.av (n.Kids ++ [v.1])) 1000001 true]⟩, ⟨10, [13], [], .loud, [(11, Node.ag v.1), (15, .el 29 2 1000001 ((List.map Node.av n.Kids).length) 0)], [.box 44 [.sl 66 (List.map Token.av v.2.L) false, .sc (.int .i64 v.2.I), .sc (.int .i64 v.2.End), .sc (.int .i64 v.2.Deep), .sc (.int .i64 v.2.F.E), .sc (.int .i64 v.2.F.At)], .box 29 [.sc (.int .i64 n.Kind), .sc (.string n.Text), .sc (.int .i64 n.Num), .own 2 1000001, .sc (.int .i64 n.At)], .row 29 (List.map Node.av n.Kids ++ [.agg [.sc (.int .i64 0), .sc (.string (ByteArray.mk #[])), .sc (.int .i64 0), .sl 0 [] true, .sc (.int .i64 0)]]) 1000001 true], .u, [.box 44 [.sl 66 (List.map Token.av v.2.L) false, .sc (.int .i64 v.2.I), .sc (.int .i64 v.2.End), .sc (.int .i64 v.2.Deep), .sc (.int .i64 v.2.F.E), .sc (.int .i64 v.2.F.At)], .box 29 [.sc (.int .i64 n.Kind), .sc (.string n.Text), .sc (.int .i64 n.Num), .own 2 1000001, .sc (.int .i64 n.At)], .row 29 (List.map Node.av (n.Kids ++ [v.1])) 1000001 true]⟩, ⟨9, [13], [], .read, [(12, .sc (.int .i64 (((List.map Node.av n.Kids).length : Nat) : Int))), (14, .own 2 1000001)], [.box 44 [.sl 66 (List.map Token.av v.2.L) false, .sc (.int .i64 v.2.I), .sc (.int .i64 v.2.End), .sc (.int .i64 v.2.Deep), .sc (.int .i64 v.2.F.E), .sc (.int .i64 v.2.F.At)], .box 29 [.sc (.int .i64 n.Kind), .sc (.string n.Text), .sc (.int .i64 n.Num), .own 2 1000001, .sc (.int .i64 n.At)], .row 29 (List.map Node.av n.Kids ++ [.agg [.sc (.int .i64 0), .sc (.string (ByteArray.mk #[])), .sc (.int .i64 0), .sl 0 [] true, .sc (.int .i64 0)]]) 1000001 true], .el 29 2 1000001 ((List.map Node.av n.Kids).length) 0, [.box 44 [.sl 66 (List.map Token.av v.2.L) false, .sc (.int .i64 v.2.I), .sc (.int .i64 v.2.End), .sc (.int .i64 v.2.Deep), .sc (.int .i64 v.2.F.E), .sc (.int .i64 v.2.F.At)], .box 29 [.sc (.int .i64 n.Kind), .sc (.string n.Text), .sc (.int .i64 n.Num), .own 2 1000001, .sc (.int .i64 n.At)], .row 29 (List.map Node.av n.Kids ++ [.agg [.sc (.int .i64 0), .sc (.string (ByteArray.mk #[])), .sc (.int .i64 0), .sl 0 [] true, .sc (.int .i64 0)]]) 1000001 true]⟩] [[0, 1, 2], [0, 1, 2], [0, 1, 2], [0, 1, 2], [0, 1, 2], [0, 1, 2], [0, 1, 2], [0, 1, 2], [0, 1, 2]] (.cons (LQ.ch [0] (H_g_podestaref15_Eye_Expr x true v hv_v)) (.cons (LQ.apz Node.av n.Kids (.agg [.sc (.int .i64 0), .sc (.string (ByteArray.mk #[])), .sc (.int .i64 0), .sl 0 [] true, .sc (.int .i64 0)]) hfit2) (.cons (LQ.xo (app_idx (List.map Node.av n.Kids) (.agg [.sc (.int .i64 0), .sc (.string (ByteArray.mk #[])), .sc (.int .i64 0), .sl 0 [] true, .sc (.int .i64 0)]))) (.cons (LQ.stz Node.av Node.ag Node.av_eq n.Kids (.agg [.sc (.int .i64 0), .sc (.string (ByteArray.mk #[])), .sc (.int .i64 0), .sl 0 [] true, .sc (.int .i64 0)]) v.1) (.cons (LQ.stz Node.av Node.ag Node.av_eq n.Kids (.agg [.sc (.int .i64 0), .sc (.string (ByteArray.mk #[])), .sc (.int .i64 0), .sl 0 [] true, .sc (.int .i64 0)]) v.1) (.cons (LQ.xo (app_idx (List.map Node.av n.Kids) (.agg [.sc (.int .i64 0), .sc (.string (ByteArray.mk #[])), .sc (.int .i64 0), .sl 0 [] true, .sc (.int .i64 0)]))) .nil)))))) (by kernel_rfl) (.sg 1 [0,1,2] (bndO H fun v1 hv_v1 H => (fitH H fun hfit2 H => (.rp hc0 [0, 1, 2] [⟨5, [], [], .loud, [(22, .ptr 0 0 none)], [.box 44 [.sl 66 (List.map Token.av v.2.L) false, .sc (.int .i64 v.2.I), .sc (.int .i64 v.2.End), .sc (.int .i64 v.2.Deep), .sc (.int .i64 v.2.F.E), .sc (.int .i64 v.2.F.At)], .box 29 [.sc (.int .i64 n.Kind), .sc (.string n.Text), .sc (.int .i64 n.Num), .own 2 1000000, .sc (.int .i64 n.At)], .row 29 (List.map Node.av (n.Kids ++ [v.1])) 1000000 true], Node.ag v1.1, [.box 44 [.sl 66 (List.map Token.av v1.2.L) false, .sc (.int .i64 v1.2.I), .sc (.int .i64 v1.2.End), .sc (.int .i64 v1.2.Deep), .sc (.int .i64 v1.2.F.E), .sc (.int .i64 v1.2.F.At)], .box 29 [.sc (.int .i64 n.Kind), .sc (.string n.Text), .sc (.int .i64 n.Num), .own 2 1000000, .sc (.int .i64 n.At)], .row 29 (List.map Node.av (n.Kids ++ [v.1])) 1000000 true]⟩, ⟨8, [], [], .loud, [(21, .own 2 1000000), (25, .sl 29 [.agg [.sc (.int .i64 0), .sc (.string (ByteArray.mk #[])), .sc (.int .i64 0), .sl 0 [] true, .sc (.int .i64 0)]] true)], [.box 44 [.sl 66 (List.map Token.av v1.2.L) false, .sc (.int .i64 v1.2.I), .sc (.int .i64 v1.2.End), .sc (.int .i64 v1.2.Deep), .sc (.int .i64 v1.2.F.E), .sc (.int .i64 v1.2.F.At)], .box 29 [.sc (.int .i64 n.Kind), .sc (.string n.Text), .sc (.int .i64 n.Num), .own 2 1000000, .sc (.int .i64 n.At)], .row 29 (List.map Node.av (n.Kids ++ [v.1])) 1000000 true], .own 2 1000001, [.box 44 [.sl 66 (List.map Token.av v1.2.L) false, .sc (.int .i64 v1.2.I), .sc (.int .i64 v1.2.End), .sc (.int .i64 v1.2.Deep), .sc (.int .i64 v1.2.F.E), .sc (.int .i64 v1.2.F.At)], .box 29 [.sc (.int .i64 n.Kind), .sc (.string n.Text), .sc (.int .i64 n.Num), .own 2 1000000, .sc (.int .i64 n.At)], .row 29 (List.map Node.av (n.Kids ++ [v.1]) ++ [.agg [.sc (.int .i64 0), .sc (.string (ByteArray.mk #[])), .sc (.int .i64 0), .sl 0 [] true, .sc (.int .i64 0)]]) 1000001 true]⟩, ⟨9, [], [13], .read, [(24, .sc (.int .i64 (((List.map Node.av (n.Kids ++ [v.1])).length : Nat) : Int))), (26, .own 2 1000001)], [.box 44 [.sl 66 (List.map Token.av v1.2.L) false, .sc (.int .i64 v1.2.I), .sc (.int .i64 v1.2.End), .sc (.int .i64 v1.2.Deep), .sc (.int .i64 v1.2.F.E), .sc (.int .i64 v1.2.F.At)], .box 29 [.sc (.int .i64 n.Kind), .sc (.string n.Text), .sc (.int .i64 n.Num), .own 2 1000000, .sc (.int .i64 n.At)], .row 29 (List.map Node.av (n.Kids ++ [v.1]) ++ [.agg [.sc (.int .i64 0), .sc (.string (ByteArray.mk #[])), .sc (.int .i64 0), .sl 0 [] true, .sc (.int .i64 0)]]) 1000001 true], .el 29 2 1000001 ((List.map Node.av (n.Kids ++ [v.1])).length) 0, [.box 44 [.sl 66 (List.map Token.av v1.2.L) false, .sc (.int .i64 v1.2.I), .sc (.int .i64 v1.2.End), .sc (.int .i64 v1.2.Deep), .sc (.int .i64 v1.2.F.E), .sc (.int .i64 v1.2.F.At)], .box 29 [.sc (.int .i64 n.Kind), .sc (.string n.Text), .sc (.int .i64 n.Num), .own 2 1000000, .sc (.int .i64 n.At)], .row 29 (List.map Node.av (n.Kids ++ [v.1]) ++ [.agg [.sc (.int .i64 0), .sc (.string (ByteArray.mk #[])), .sc (.int .i64 0), .sl 0 [] true, .sc (.int .i64 0)]]) 1000001 true]⟩, ⟨10, [], [13], .loud, [(23, Node.ag v1.1), (27, .el 29 2 1000001 ((List.map Node.av (n.Kids ++ [v.1])).length) 0)], [.box 44 [.sl 66 (List.map Token.av v1.2.L) false, .sc (.int .i64 v1.2.I), .sc (.int .i64 v1.2.End), .sc (.int .i64 v1.2.Deep), .sc (.int .i64 v1.2.F.E), .sc (.int .i64 v1.2.F.At)], .box 29 [.sc (.int .i64 n.Kind), .sc (.string n.Text), .sc (.int .i64 n.Num), .own 2 1000000, .sc (.int .i64 n.At)], .row 29 (List.map Node.av (n.Kids ++ [v.1]) ++ [.agg [.sc (.int .i64 0), .sc (.string (ByteArray.mk #[])), .sc (.int .i64 0), .sl 0 [] true, .sc (.int .i64 0)]]) 1000001 true], .u, [.box 44 [.sl 66 (List.map Token.av v1.2.L) false, .sc (.int .i64 v1.2.I), .sc (.int .i64 v1.2.End), .sc (.int .i64 v1.2.Deep), .sc (.int .i64 v1.2.F.E), .sc (.int .i64 v1.2.F.At)], .box 29 [.sc (.int .i64 n.Kind), .sc (.string n.Text), .sc (.int .i64 n.Num), .own 2 1000000, .sc (.int .i64 n.At)], .row 29 (List.map Node.av ((n.Kids ++ [v.1]) ++ [v1.1])) 1000001 true]⟩, ⟨10, [13], [], .loud, [(23, Node.ag v1.1), (27, .el 29 2 1000001 ((List.map Node.av (n.Kids ++ [v.1])).length) 0)], [.box 44 [.sl 66 (List.map Token.av v1.2.L) false, .sc (.int .i64 v1.2.I), .sc (.int .i64 v1.2.End), .sc (.int .i64 v1.2.Deep), .sc (.int .i64 v1.2.F.E), .sc (.int .i64 v1.2.F.At)], .box 29 [.sc (.int .i64 n.Kind), .sc (.string n.Text), .sc (.int .i64 n.Num), .own 2 1000001, .sc (.int .i64 n.At)], .row 29 (List.map Node.av (n.Kids ++ [v.1]) ++ [.agg [.sc (.int .i64 0), .sc (.string (ByteArray.mk #[])), .sc (.int .i64 0), .sl 0 [] true, .sc (.int .i64 0)]]) 1000001 true], .u, [.box 44 [.sl 66 (List.map Token.av v1.2.L) false, .sc (.int .i64 v1.2.I), .sc (.int .i64 v1.2.End), .sc (.int .i64 v1.2.Deep), .sc (.int .i64 v1.2.F.E), .sc (.int .i64 v1.2.F.At)], .box 29 [.sc (.int .i64 n.Kind), .sc (.string n.Text), .sc (.int .i64 n.Num), .own 2 1000001, .sc (.int .i64 n.At)], .row 29 (List.map Node.av ((n.Kids ++ [v.1]) ++ [v1.1])) 1000001 true]⟩, ⟨9, [13], [], .read, [(24, .sc (.int .i64 (((List.map Node.av (n.Kids ++ [v.1])).length : Nat) : Int))), (26, .own 2 1000001)], [.box 44 [.sl 66 (List.map Token.av v1.2.L) false, .sc (.int .i64 v1.2.I), .sc (.int .i64 v1.2.End), .sc (.int .i64 v1.2.Deep), .sc (.int .i64 v1.2.F.E), .sc (.int .i64 v1.2.F.At)], .box 29 [.sc (.int .i64 n.Kind), .sc (.string n.Text), .sc (.int .i64 n.Num), .own 2 1000001, .sc (.int .i64 n.At)], .row 29 (List.map Node.av (n.Kids ++ [v.1]) ++ [.agg [.sc (.int .i64 0), .sc (.string (ByteArray.mk #[])), .sc (.int .i64 0), .sl 0 [] true, .sc (.int .i64 0)]]) 1000001 true], .el 29 2 1000001 ((List.map Node.av (n.Kids ++ [v.1])).length) 0, [.box 44 [.sl 66 (List.map Token.av v1.2.L) false, .sc (.int .i64 v1.2.I), .sc (.int .i64 v1.2.End), .sc (.int .i64 v1.2.Deep), .sc (.int .i64 v1.2.F.E), .sc (.int .i64 v1.2.F.At)], .box 29 [.sc (.int .i64 n.Kind), .sc (.string n.Text), .sc (.int .i64 n.Num), .own 2 1000001, .sc (.int .i64 n.At)], .row 29 (List.map Node.av (n.Kids ++ [v.1]) ++ [.agg [.sc (.int .i64 0), .sc (.string (ByteArray.mk #[])), .sc (.int .i64 0), .sl 0 [] true, .sc (.int .i64 0)]]) 1000001 true]⟩] [[0, 1, 2], [0, 1, 2], [0, 1, 2], [0, 1, 2], [0, 1, 2], [0, 1, 2], [0, 1, 2], [0, 1, 2], [0, 1, 2]] (.cons (LQ.ch [0] (H_g_podestaref15_Eye_match v.2 v1 hv_v1)) (.cons (LQ.apz Node.av (n.Kids ++ [v.1]) (.agg [.sc (.int .i64 0), .sc (.string (ByteArray.mk #[])), .sc (.int .i64 0), .sl 0 [] true, .sc (.int .i64 0)]) hfit2) (.cons (LQ.xo (app_idx (List.map Node.av (n.Kids ++ [v.1])) (.agg [.sc (.int .i64 0), .sc (.string (ByteArray.mk #[])), .sc (.int .i64 0), .sl 0 [] true, .sc (.int .i64 0)]))) (.cons (LQ.stz Node.av Node.ag Node.av_eq (n.Kids ++ [v.1]) (.agg [.sc (.int .i64 0), .sc (.string (ByteArray.mk #[])), .sc (.int .i64 0), .sl 0 [] true, .sc (.int .i64 0)]) v1.1) (.cons (LQ.stz Node.av Node.ag Node.av_eq (n.Kids ++ [v.1]) (.agg [.sc (.int .i64 0), .sc (.string (ByteArray.mk #[])), .sc (.int .i64 0), .sl 0 [] true, .sc (.int .i64 0)]) v1.1) (.cons (LQ.xo (app_idx (List.map Node.av (n.Kids ++ [v.1])) (.agg [.sc (.int .i64 0), .sc (.string (ByteArray.mk #[])), .sc (.int .i64 0), .sl 0 [] true, .sc (.int .i64 0)]))) .nil)))))) (by kernel_rfl) (.sg 2 [0,1,2] (.rg (.sg 1 [0,1,2,30] (bndO H fun v2 hv H => (.ch [0,1,2,31] [0] (podestaref15_Eye_Eat_walk v1.2 (ByteArray.mk #[112, 114, 105, 111]) v2 hv) (.dn (.cd v2.1 H (fun hb H => ?_) (fun hb H => ?_)))))))))))))))
  ·
    refine .sg 2 [0,1,2] (bndO H fun v3 hv_v3 H => (fitH H fun hfit2 H => (.rp hc0 [0, 1, 2] [⟨5, [], [], .loud, [(39, .ptr 0 0 none)], [.box 44 [.sl 66 (List.map Token.av v2.2.L) false, .sc (.int .i64 v2.2.I), .sc (.int .i64 v2.2.End), .sc (.int .i64 v2.2.Deep), .sc (.int .i64 v2.2.F.E), .sc (.int .i64 v2.2.F.At)], .box 29 [.sc (.int .i64 n.Kind), .sc (.string n.Text), .sc (.int .i64 1), .own 2 1000000, .sc (.int .i64 n.At)], .row 29 (List.map Node.av ((n.Kids ++ [v.1]) ++ [v1.1])) 1000000 true], Node.ag v3.1, [.box 44 [.sl 66 (List.map Token.av v3.2.L) false, .sc (.int .i64 v3.2.I), .sc (.int .i64 v3.2.End), .sc (.int .i64 v3.2.Deep), .sc (.int .i64 v3.2.F.E), .sc (.int .i64 v3.2.F.At)], .box 29 [.sc (.int .i64 n.Kind), .sc (.string n.Text), .sc (.int .i64 1), .own 2 1000000, .sc (.int .i64 n.At)], .row 29 (List.map Node.av ((n.Kids ++ [v.1]) ++ [v1.1])) 1000000 true]⟩, ⟨8, [], [], .loud, [(38, .own 2 1000000), (42, .sl 29 [.agg [.sc (.int .i64 0), .sc (.string (ByteArray.mk #[])), .sc (.int .i64 0), .sl 0 [] true, .sc (.int .i64 0)]] true)], [.box 44 [.sl 66 (List.map Token.av v3.2.L) false, .sc (.int .i64 v3.2.I), .sc (.int .i64 v3.2.End), .sc (.int .i64 v3.2.Deep), .sc (.int .i64 v3.2.F.E), .sc (.int .i64 v3.2.F.At)], .box 29 [.sc (.int .i64 n.Kind), .sc (.string n.Text), .sc (.int .i64 1), .own 2 1000000, .sc (.int .i64 n.At)], .row 29 (List.map Node.av ((n.Kids ++ [v.1]) ++ [v1.1])) 1000000 true], .own 2 1000001, [.box 44 [.sl 66 (List.map Token.av v3.2.L) false, .sc (.int .i64 v3.2.I), .sc (.int .i64 v3.2.End), .sc (.int .i64 v3.2.Deep), .sc (.int .i64 v3.2.F.E), .sc (.int .i64 v3.2.F.At)], .box 29 [.sc (.int .i64 n.Kind), .sc (.string n.Text), .sc (.int .i64 1), .own 2 1000000, .sc (.int .i64 n.At)], .row 29 (List.map Node.av ((n.Kids ++ [v.1]) ++ [v1.1]) ++ [.agg [.sc (.int .i64 0), .sc (.string (ByteArray.mk #[])), .sc (.int .i64 0), .sl 0 [] true, .sc (.int .i64 0)]]) 1000001 true]⟩, ⟨9, [], [13], .read, [(41, .sc (.int .i64 (((List.map Node.av ((n.Kids ++ [v.1]) ++ [v1.1])).length : Nat) : Int))), (43, .own 2 1000001)], [.box 44 [.sl 66 (List.map Token.av v3.2.L) false, .sc (.int .i64 v3.2.I), .sc (.int .i64 v3.2.End), .sc (.int .i64 v3.2.Deep), .sc (.int .i64 v3.2.F.E), .sc (.int .i64 v3.2.F.At)], .box 29 [.sc (.int .i64 n.Kind), .sc (.string n.Text), .sc (.int .i64 1), .own 2 1000000, .sc (.int .i64 n.At)], .row 29 (List.map Node.av ((n.Kids ++ [v.1]) ++ [v1.1]) ++ [.agg [.sc (.int .i64 0), .sc (.string (ByteArray.mk #[])), .sc (.int .i64 0), .sl 0 [] true, .sc (.int .i64 0)]]) 1000001 true], .el 29 2 1000001 ((List.map Node.av ((n.Kids ++ [v.1]) ++ [v1.1])).length) 0, [.box 44 [.sl 66 (List.map Token.av v3.2.L) false, .sc (.int .i64 v3.2.I), .sc (.int .i64 v3.2.End), .sc (.int .i64 v3.2.Deep), .sc (.int .i64 v3.2.F.E), .sc (.int .i64 v3.2.F.At)], .box 29 [.sc (.int .i64 n.Kind), .sc (.string n.Text), .sc (.int .i64 1), .own 2 1000000, .sc (.int .i64 n.At)], .row 29 (List.map Node.av ((n.Kids ++ [v.1]) ++ [v1.1]) ++ [.agg [.sc (.int .i64 0), .sc (.string (ByteArray.mk #[])), .sc (.int .i64 0), .sl 0 [] true, .sc (.int .i64 0)]]) 1000001 true]⟩, ⟨10, [], [13], .loud, [(40, Node.ag v3.1), (44, .el 29 2 1000001 ((List.map Node.av ((n.Kids ++ [v.1]) ++ [v1.1])).length) 0)], [.box 44 [.sl 66 (List.map Token.av v3.2.L) false, .sc (.int .i64 v3.2.I), .sc (.int .i64 v3.2.End), .sc (.int .i64 v3.2.Deep), .sc (.int .i64 v3.2.F.E), .sc (.int .i64 v3.2.F.At)], .box 29 [.sc (.int .i64 n.Kind), .sc (.string n.Text), .sc (.int .i64 1), .own 2 1000000, .sc (.int .i64 n.At)], .row 29 (List.map Node.av ((n.Kids ++ [v.1]) ++ [v1.1]) ++ [.agg [.sc (.int .i64 0), .sc (.string (ByteArray.mk #[])), .sc (.int .i64 0), .sl 0 [] true, .sc (.int .i64 0)]]) 1000001 true], .u, [.box 44 [.sl 66 (List.map Token.av v3.2.L) false, .sc (.int .i64 v3.2.I), .sc (.int .i64 v3.2.End), .sc (.int .i64 v3.2.Deep), .sc (.int .i64 v3.2.F.E), .sc (.int .i64 v3.2.F.At)], .box 29 [.sc (.int .i64 n.Kind), .sc (.string n.Text), .sc (.int .i64 1), .own 2 1000000, .sc (.int .i64 n.At)], .row 29 (List.map Node.av (((n.Kids ++ [v.1]) ++ [v1.1]) ++ [v3.1])) 1000001 true]⟩, ⟨10, [13], [], .loud, [(40, Node.ag v3.1), (44, .el 29 2 1000001 ((List.map Node.av ((n.Kids ++ [v.1]) ++ [v1.1])).length) 0)], [.box 44 [.sl 66 (List.map Token.av v3.2.L) false, .sc (.int .i64 v3.2.I), .sc (.int .i64 v3.2.End), .sc (.int .i64 v3.2.Deep), .sc (.int .i64 v3.2.F.E), .sc (.int .i64 v3.2.F.At)], .box 29 [.sc (.int .i64 n.Kind), .sc (.string n.Text), .sc (.int .i64 1), .own 2 1000001, .sc (.int .i64 n.At)], .row 29 (List.map Node.av ((n.Kids ++ [v.1]) ++ [v1.1]) ++ [.agg [.sc (.int .i64 0), .sc (.string (ByteArray.mk #[])), .sc (.int .i64 0), .sl 0 [] true, .sc (.int .i64 0)]]) 1000001 true], .u, [.box 44 [.sl 66 (List.map Token.av v3.2.L) false, .sc (.int .i64 v3.2.I), .sc (.int .i64 v3.2.End), .sc (.int .i64 v3.2.Deep), .sc (.int .i64 v3.2.F.E), .sc (.int .i64 v3.2.F.At)], .box 29 [.sc (.int .i64 n.Kind), .sc (.string n.Text), .sc (.int .i64 1), .own 2 1000001, .sc (.int .i64 n.At)], .row 29 (List.map Node.av (((n.Kids ++ [v.1]) ++ [v1.1]) ++ [v3.1])) 1000001 true]⟩, ⟨9, [13], [], .read, [(41, .sc (.int .i64 (((List.map Node.av ((n.Kids ++ [v.1]) ++ [v1.1])).length : Nat) : Int))), (43, .own 2 1000001)], [.box 44 [.sl 66 (List.map Token.av v3.2.L) false, .sc (.int .i64 v3.2.I), .sc (.int .i64 v3.2.End), .sc (.int .i64 v3.2.Deep), .sc (.int .i64 v3.2.F.E), .sc (.int .i64 v3.2.F.At)], .box 29 [.sc (.int .i64 n.Kind), .sc (.string n.Text), .sc (.int .i64 1), .own 2 1000001, .sc (.int .i64 n.At)], .row 29 (List.map Node.av ((n.Kids ++ [v.1]) ++ [v1.1]) ++ [.agg [.sc (.int .i64 0), .sc (.string (ByteArray.mk #[])), .sc (.int .i64 0), .sl 0 [] true, .sc (.int .i64 0)]]) 1000001 true], .el 29 2 1000001 ((List.map Node.av ((n.Kids ++ [v.1]) ++ [v1.1])).length) 0, [.box 44 [.sl 66 (List.map Token.av v3.2.L) false, .sc (.int .i64 v3.2.I), .sc (.int .i64 v3.2.End), .sc (.int .i64 v3.2.Deep), .sc (.int .i64 v3.2.F.E), .sc (.int .i64 v3.2.F.At)], .box 29 [.sc (.int .i64 n.Kind), .sc (.string n.Text), .sc (.int .i64 1), .own 2 1000001, .sc (.int .i64 n.At)], .row 29 (List.map Node.av ((n.Kids ++ [v.1]) ++ [v1.1]) ++ [.agg [.sc (.int .i64 0), .sc (.string (ByteArray.mk #[])), .sc (.int .i64 0), .sl 0 [] true, .sc (.int .i64 0)]]) 1000001 true]⟩] [[0, 1, 2], [0, 1, 2], [0, 1, 2], [0, 1, 2], [0, 1, 2], [0, 1, 2], [0, 1, 2], [0, 1, 2], [0, 1, 2]] (.cons (LQ.ch [0] (H_g_podestaref15_Eye_Expr v2.2 true v3 hv_v3)) (.cons (LQ.apz Node.av ((n.Kids ++ [v.1]) ++ [v1.1]) (.agg [.sc (.int .i64 0), .sc (.string (ByteArray.mk #[])), .sc (.int .i64 0), .sl 0 [] true, .sc (.int .i64 0)]) hfit2) (.cons (LQ.xo (app_idx (List.map Node.av ((n.Kids ++ [v.1]) ++ [v1.1])) (.agg [.sc (.int .i64 0), .sc (.string (ByteArray.mk #[])), .sc (.int .i64 0), .sl 0 [] true, .sc (.int .i64 0)]))) (.cons (LQ.stz Node.av Node.ag Node.av_eq ((n.Kids ++ [v.1]) ++ [v1.1]) (.agg [.sc (.int .i64 0), .sc (.string (ByteArray.mk #[])), .sc (.int .i64 0), .sl 0 [] true, .sc (.int .i64 0)]) v3.1) (.cons (LQ.stz Node.av Node.ag Node.av_eq ((n.Kids ++ [v.1]) ++ [v1.1]) (.agg [.sc (.int .i64 0), .sc (.string (ByteArray.mk #[])), .sc (.int .i64 0), .sl 0 [] true, .sc (.int .i64 0)]) v3.1) (.cons (LQ.xo (app_idx (List.map Node.av ((n.Kids ++ [v.1]) ++ [v1.1])) (.agg [.sc (.int .i64 0), .sc (.string (ByteArray.mk #[])), .sc (.int .i64 0), .sl 0 [] true, .sc (.int .i64 0)]))) .nil)))))) (by kernel_rfl) (.sg 3 [0,1,47] (.cd acts H (fun hb H => ?_) (fun hb H => ?_))))))
    ·
      refine bndO H fun v4 hv_v4 H => (fitH H fun hfit2 H => (.rp hc0 [0] [⟨5, [], [], .loud, [(52, .ptr 0 0 none)], [.box 44 [.sl 66 (List.map Token.av v3.2.L) false, .sc (.int .i64 v3.2.I), .sc (.int .i64 v3.2.End), .sc (.int .i64 v3.2.Deep), .sc (.int .i64 v3.2.F.E), .sc (.int .i64 v3.2.F.At)], .box 29 [.sc (.int .i64 n.Kind), .sc (.string n.Text), .sc (.int .i64 1), .own 2 1000000, .sc (.int .i64 n.At)], .row 29 (List.map Node.av (((n.Kids ++ [v.1]) ++ [v1.1]) ++ [v3.1])) 1000000 true], Node.ag v4.1, [.box 44 [.sl 66 (List.map Token.av v4.2.L) false, .sc (.int .i64 v4.2.I), .sc (.int .i64 v4.2.End), .sc (.int .i64 v4.2.Deep), .sc (.int .i64 v4.2.F.E), .sc (.int .i64 v4.2.F.At)], .box 29 [.sc (.int .i64 n.Kind), .sc (.string n.Text), .sc (.int .i64 1), .own 2 1000000, .sc (.int .i64 n.At)], .row 29 (List.map Node.av (((n.Kids ++ [v.1]) ++ [v1.1]) ++ [v3.1])) 1000000 true]⟩, ⟨8, [], [], .loud, [(51, .own 2 1000000), (55, .sl 29 [.agg [.sc (.int .i64 0), .sc (.string (ByteArray.mk #[])), .sc (.int .i64 0), .sl 0 [] true, .sc (.int .i64 0)]] true)], [.box 44 [.sl 66 (List.map Token.av v4.2.L) false, .sc (.int .i64 v4.2.I), .sc (.int .i64 v4.2.End), .sc (.int .i64 v4.2.Deep), .sc (.int .i64 v4.2.F.E), .sc (.int .i64 v4.2.F.At)], .box 29 [.sc (.int .i64 n.Kind), .sc (.string n.Text), .sc (.int .i64 1), .own 2 1000000, .sc (.int .i64 n.At)], .row 29 (List.map Node.av (((n.Kids ++ [v.1]) ++ [v1.1]) ++ [v3.1])) 1000000 true], .own 2 1000001, [.box 44 [.sl 66 (List.map Token.av v4.2.L) false, .sc (.int .i64 v4.2.I), .sc (.int .i64 v4.2.End), .sc (.int .i64 v4.2.Deep), .sc (.int .i64 v4.2.F.E), .sc (.int .i64 v4.2.F.At)], .box 29 [.sc (.int .i64 n.Kind), .sc (.string n.Text), .sc (.int .i64 1), .own 2 1000000, .sc (.int .i64 n.At)], .row 29 (List.map Node.av (((n.Kids ++ [v.1]) ++ [v1.1]) ++ [v3.1]) ++ [.agg [.sc (.int .i64 0), .sc (.string (ByteArray.mk #[])), .sc (.int .i64 0), .sl 0 [] true, .sc (.int .i64 0)]]) 1000001 true]⟩, ⟨9, [], [13], .read, [(54, .sc (.int .i64 (((List.map Node.av (((n.Kids ++ [v.1]) ++ [v1.1]) ++ [v3.1])).length : Nat) : Int))), (56, .own 2 1000001)], [.box 44 [.sl 66 (List.map Token.av v4.2.L) false, .sc (.int .i64 v4.2.I), .sc (.int .i64 v4.2.End), .sc (.int .i64 v4.2.Deep), .sc (.int .i64 v4.2.F.E), .sc (.int .i64 v4.2.F.At)], .box 29 [.sc (.int .i64 n.Kind), .sc (.string n.Text), .sc (.int .i64 1), .own 2 1000000, .sc (.int .i64 n.At)], .row 29 (List.map Node.av (((n.Kids ++ [v.1]) ++ [v1.1]) ++ [v3.1]) ++ [.agg [.sc (.int .i64 0), .sc (.string (ByteArray.mk #[])), .sc (.int .i64 0), .sl 0 [] true, .sc (.int .i64 0)]]) 1000001 true], .el 29 2 1000001 ((List.map Node.av (((n.Kids ++ [v.1]) ++ [v1.1]) ++ [v3.1])).length) 0, [.box 44 [.sl 66 (List.map Token.av v4.2.L) false, .sc (.int .i64 v4.2.I), .sc (.int .i64 v4.2.End), .sc (.int .i64 v4.2.Deep), .sc (.int .i64 v4.2.F.E), .sc (.int .i64 v4.2.F.At)], .box 29 [.sc (.int .i64 n.Kind), .sc (.string n.Text), .sc (.int .i64 1), .own 2 1000000, .sc (.int .i64 n.At)], .row 29 (List.map Node.av (((n.Kids ++ [v.1]) ++ [v1.1]) ++ [v3.1]) ++ [.agg [.sc (.int .i64 0), .sc (.string (ByteArray.mk #[])), .sc (.int .i64 0), .sl 0 [] true, .sc (.int .i64 0)]]) 1000001 true]⟩, ⟨10, [], [13], .loud, [(53, Node.ag v4.1), (57, .el 29 2 1000001 ((List.map Node.av (((n.Kids ++ [v.1]) ++ [v1.1]) ++ [v3.1])).length) 0)], [.box 44 [.sl 66 (List.map Token.av v4.2.L) false, .sc (.int .i64 v4.2.I), .sc (.int .i64 v4.2.End), .sc (.int .i64 v4.2.Deep), .sc (.int .i64 v4.2.F.E), .sc (.int .i64 v4.2.F.At)], .box 29 [.sc (.int .i64 n.Kind), .sc (.string n.Text), .sc (.int .i64 1), .own 2 1000000, .sc (.int .i64 n.At)], .row 29 (List.map Node.av (((n.Kids ++ [v.1]) ++ [v1.1]) ++ [v3.1]) ++ [.agg [.sc (.int .i64 0), .sc (.string (ByteArray.mk #[])), .sc (.int .i64 0), .sl 0 [] true, .sc (.int .i64 0)]]) 1000001 true], .u, [.box 44 [.sl 66 (List.map Token.av v4.2.L) false, .sc (.int .i64 v4.2.I), .sc (.int .i64 v4.2.End), .sc (.int .i64 v4.2.Deep), .sc (.int .i64 v4.2.F.E), .sc (.int .i64 v4.2.F.At)], .box 29 [.sc (.int .i64 n.Kind), .sc (.string n.Text), .sc (.int .i64 1), .own 2 1000000, .sc (.int .i64 n.At)], .row 29 (List.map Node.av ((((n.Kids ++ [v.1]) ++ [v1.1]) ++ [v3.1]) ++ [v4.1])) 1000001 true]⟩, ⟨10, [13], [], .loud, [(53, Node.ag v4.1), (57, .el 29 2 1000001 ((List.map Node.av (((n.Kids ++ [v.1]) ++ [v1.1]) ++ [v3.1])).length) 0)], [.box 44 [.sl 66 (List.map Token.av v4.2.L) false, .sc (.int .i64 v4.2.I), .sc (.int .i64 v4.2.End), .sc (.int .i64 v4.2.Deep), .sc (.int .i64 v4.2.F.E), .sc (.int .i64 v4.2.F.At)], .box 29 [.sc (.int .i64 n.Kind), .sc (.string n.Text), .sc (.int .i64 1), .own 2 1000001, .sc (.int .i64 n.At)], .row 29 (List.map Node.av (((n.Kids ++ [v.1]) ++ [v1.1]) ++ [v3.1]) ++ [.agg [.sc (.int .i64 0), .sc (.string (ByteArray.mk #[])), .sc (.int .i64 0), .sl 0 [] true, .sc (.int .i64 0)]]) 1000001 true], .u, [.box 44 [.sl 66 (List.map Token.av v4.2.L) false, .sc (.int .i64 v4.2.I), .sc (.int .i64 v4.2.End), .sc (.int .i64 v4.2.Deep), .sc (.int .i64 v4.2.F.E), .sc (.int .i64 v4.2.F.At)], .box 29 [.sc (.int .i64 n.Kind), .sc (.string n.Text), .sc (.int .i64 1), .own 2 1000001, .sc (.int .i64 n.At)], .row 29 (List.map Node.av ((((n.Kids ++ [v.1]) ++ [v1.1]) ++ [v3.1]) ++ [v4.1])) 1000001 true]⟩, ⟨9, [13], [], .read, [(54, .sc (.int .i64 (((List.map Node.av (((n.Kids ++ [v.1]) ++ [v1.1]) ++ [v3.1])).length : Nat) : Int))), (56, .own 2 1000001)], [.box 44 [.sl 66 (List.map Token.av v4.2.L) false, .sc (.int .i64 v4.2.I), .sc (.int .i64 v4.2.End), .sc (.int .i64 v4.2.Deep), .sc (.int .i64 v4.2.F.E), .sc (.int .i64 v4.2.F.At)], .box 29 [.sc (.int .i64 n.Kind), .sc (.string n.Text), .sc (.int .i64 1), .own 2 1000001, .sc (.int .i64 n.At)], .row 29 (List.map Node.av (((n.Kids ++ [v.1]) ++ [v1.1]) ++ [v3.1]) ++ [.agg [.sc (.int .i64 0), .sc (.string (ByteArray.mk #[])), .sc (.int .i64 0), .sl 0 [] true, .sc (.int .i64 0)]]) 1000001 true], .el 29 2 1000001 ((List.map Node.av (((n.Kids ++ [v.1]) ++ [v1.1]) ++ [v3.1])).length) 0, [.box 44 [.sl 66 (List.map Token.av v4.2.L) false, .sc (.int .i64 v4.2.I), .sc (.int .i64 v4.2.End), .sc (.int .i64 v4.2.Deep), .sc (.int .i64 v4.2.F.E), .sc (.int .i64 v4.2.F.At)], .box 29 [.sc (.int .i64 n.Kind), .sc (.string n.Text), .sc (.int .i64 1), .own 2 1000001, .sc (.int .i64 n.At)], .row 29 (List.map Node.av (((n.Kids ++ [v.1]) ++ [v1.1]) ++ [v3.1]) ++ [.agg [.sc (.int .i64 0), .sc (.string (ByteArray.mk #[])), .sc (.int .i64 0), .sl 0 [] true, .sc (.int .i64 0)]]) 1000001 true]⟩] [[0, 1, 2], [0, 1, 2], [0, 1, 2], [0, 1, 2], [0, 1, 2], [0, 1, 2], [0, 1, 2], [0, 1, 2], [0, 1, 2]] (.cons (LQ.ch [0] (H_g_podestaref15_Eye_acts v3.2 v4 hv_v4)) (.cons (LQ.apz Node.av (((n.Kids ++ [v.1]) ++ [v1.1]) ++ [v3.1]) (.agg [.sc (.int .i64 0), .sc (.string (ByteArray.mk #[])), .sc (.int .i64 0), .sl 0 [] true, .sc (.int .i64 0)]) hfit2) (.cons (LQ.xo (app_idx (List.map Node.av (((n.Kids ++ [v.1]) ++ [v1.1]) ++ [v3.1])) (.agg [.sc (.int .i64 0), .sc (.string (ByteArray.mk #[])), .sc (.int .i64 0), .sl 0 [] true, .sc (.int .i64 0)]))) (.cons (LQ.stz Node.av Node.ag Node.av_eq (((n.Kids ++ [v.1]) ++ [v1.1]) ++ [v3.1]) (.agg [.sc (.int .i64 0), .sc (.string (ByteArray.mk #[])), .sc (.int .i64 0), .sl 0 [] true, .sc (.int .i64 0)]) v4.1) (.cons (LQ.stz Node.av Node.ag Node.av_eq (((n.Kids ++ [v.1]) ++ [v1.1]) ++ [v3.1]) (.agg [.sc (.int .i64 0), .sc (.string (ByteArray.mk #[])), .sc (.int .i64 0), .sl 0 [] true, .sc (.int .i64 0)]) v4.1) (.cons (LQ.xo (app_idx (List.map Node.av (((n.Kids ++ [v.1]) ++ [v1.1]) ++ [v3.1])) (.agg [.sc (.int .i64 0), .sc (.string (ByteArray.mk #[])), .sc (.int .i64 0), .sl 0 [] true, .sc (.int .i64 0)]))) .nil)))))) (by kernel_rfl) (.rg (.sg 1 [60] (bndO H fun v5 hv H => (.ch [] [0] (podestaref15_Eye_Must_walk v4.2 (ByteArray.mk #[59]) v5 hv) (.dn ?_)))))))
      obtain rfl := Option.some.inj H
      exact .ret Try.func47 hc0 [0,1,2]
    ·
      refine .sg 1 [0] (.rg (.sg 1 [60] (bndO H fun v6 hv H => (.ch [] [0] (podestaref15_Eye_Must_walk v3.2 (ByteArray.mk #[59]) v6 hv) (.dn ?_)))))
      obtain rfl := Option.some.inj H
      exact .ret Try.func47 hc0 [0,1,2]
  ·
    refine .sg 4 [0,1,47] (.cd acts H (fun hb H => ?_) (fun hb H => ?_))
    ·
      refine bndO H fun v7 hv_v7 H => (fitH H fun hfit2 H => (.rp hc0 [0] [⟨5, [], [], .loud, [(52, .ptr 0 0 none)], [.box 44 [.sl 66 (List.map Token.av v2.2.L) false, .sc (.int .i64 v2.2.I), .sc (.int .i64 v2.2.End), .sc (.int .i64 v2.2.Deep), .sc (.int .i64 v2.2.F.E), .sc (.int .i64 v2.2.F.At)], .box 29 [.sc (.int .i64 n.Kind), .sc (.string n.Text), .sc (.int .i64 n.Num), .own 2 1000000, .sc (.int .i64 n.At)], .row 29 (List.map Node.av ((n.Kids ++ [v.1]) ++ [v1.1])) 1000000 true], Node.ag v7.1, [.box 44 [.sl 66 (List.map Token.av v7.2.L) false, .sc (.int .i64 v7.2.I), .sc (.int .i64 v7.2.End), .sc (.int .i64 v7.2.Deep), .sc (.int .i64 v7.2.F.E), .sc (.int .i64 v7.2.F.At)], .box 29 [.sc (.int .i64 n.Kind), .sc (.string n.Text), .sc (.int .i64 n.Num), .own 2 1000000, .sc (.int .i64 n.At)], .row 29 (List.map Node.av ((n.Kids ++ [v.1]) ++ [v1.1])) 1000000 true]⟩, ⟨8, [], [], .loud, [(51, .own 2 1000000), (55, .sl 29 [.agg [.sc (.int .i64 0), .sc (.string (ByteArray.mk #[])), .sc (.int .i64 0), .sl 0 [] true, .sc (.int .i64 0)]] true)], [.box 44 [.sl 66 (List.map Token.av v7.2.L) false, .sc (.int .i64 v7.2.I), .sc (.int .i64 v7.2.End), .sc (.int .i64 v7.2.Deep), .sc (.int .i64 v7.2.F.E), .sc (.int .i64 v7.2.F.At)], .box 29 [.sc (.int .i64 n.Kind), .sc (.string n.Text), .sc (.int .i64 n.Num), .own 2 1000000, .sc (.int .i64 n.At)], .row 29 (List.map Node.av ((n.Kids ++ [v.1]) ++ [v1.1])) 1000000 true], .own 2 1000001, [.box 44 [.sl 66 (List.map Token.av v7.2.L) false, .sc (.int .i64 v7.2.I), .sc (.int .i64 v7.2.End), .sc (.int .i64 v7.2.Deep), .sc (.int .i64 v7.2.F.E), .sc (.int .i64 v7.2.F.At)], .box 29 [.sc (.int .i64 n.Kind), .sc (.string n.Text), .sc (.int .i64 n.Num), .own 2 1000000, .sc (.int .i64 n.At)], .row 29 (List.map Node.av ((n.Kids ++ [v.1]) ++ [v1.1]) ++ [.agg [.sc (.int .i64 0), .sc (.string (ByteArray.mk #[])), .sc (.int .i64 0), .sl 0 [] true, .sc (.int .i64 0)]]) 1000001 true]⟩, ⟨9, [], [13], .read, [(54, .sc (.int .i64 (((List.map Node.av ((n.Kids ++ [v.1]) ++ [v1.1])).length : Nat) : Int))), (56, .own 2 1000001)], [.box 44 [.sl 66 (List.map Token.av v7.2.L) false, .sc (.int .i64 v7.2.I), .sc (.int .i64 v7.2.End), .sc (.int .i64 v7.2.Deep), .sc (.int .i64 v7.2.F.E), .sc (.int .i64 v7.2.F.At)], .box 29 [.sc (.int .i64 n.Kind), .sc (.string n.Text), .sc (.int .i64 n.Num), .own 2 1000000, .sc (.int .i64 n.At)], .row 29 (List.map Node.av ((n.Kids ++ [v.1]) ++ [v1.1]) ++ [.agg [.sc (.int .i64 0), .sc (.string (ByteArray.mk #[])), .sc (.int .i64 0), .sl 0 [] true, .sc (.int .i64 0)]]) 1000001 true], .el 29 2 1000001 ((List.map Node.av ((n.Kids ++ [v.1]) ++ [v1.1])).length) 0, [.box 44 [.sl 66 (List.map Token.av v7.2.L) false, .sc (.int .i64 v7.2.I), .sc (.int .i64 v7.2.End), .sc (.int .i64 v7.2.Deep), .sc (.int .i64 v7.2.F.E), .sc (.int .i64 v7.2.F.At)], .box 29 [.sc (.int .i64 n.Kind), .sc (.string n.Text), .sc (.int .i64 n.Num), .own 2 1000000, .sc (.int .i64 n.At)], .row 29 (List.map Node.av ((n.Kids ++ [v.1]) ++ [v1.1]) ++ [.agg [.sc (.int .i64 0), .sc (.string (ByteArray.mk #[])), .sc (.int .i64 0), .sl 0 [] true, .sc (.int .i64 0)]]) 1000001 true]⟩, ⟨10, [], [13], .loud, [(53, Node.ag v7.1), (57, .el 29 2 1000001 ((List.map Node.av ((n.Kids ++ [v.1]) ++ [v1.1])).length) 0)], [.box 44 [.sl 66 (List.map Token.av v7.2.L) false, .sc (.int .i64 v7.2.I), .sc (.int .i64 v7.2.End), .sc (.int .i64 v7.2.Deep), .sc (.int .i64 v7.2.F.E), .sc (.int .i64 v7.2.F.At)], .box 29 [.sc (.int .i64 n.Kind), .sc (.string n.Text), .sc (.int .i64 n.Num), .own 2 1000000, .sc (.int .i64 n.At)], .row 29 (List.map Node.av ((n.Kids ++ [v.1]) ++ [v1.1]) ++ [.agg [.sc (.int .i64 0), .sc (.string (ByteArray.mk #[])), .sc (.int .i64 0), .sl 0 [] true, .sc (.int .i64 0)]]) 1000001 true], .u, [.box 44 [.sl 66 (List.map Token.av v7.2.L) false, .sc (.int .i64 v7.2.I), .sc (.int .i64 v7.2.End), .sc (.int .i64 v7.2.Deep), .sc (.int .i64 v7.2.F.E), .sc (.int .i64 v7.2.F.At)], .box 29 [.sc (.int .i64 n.Kind), .sc (.string n.Text), .sc (.int .i64 n.Num), .own 2 1000000, .sc (.int .i64 n.At)], .row 29 (List.map Node.av (((n.Kids ++ [v.1]) ++ [v1.1]) ++ [v7.1])) 1000001 true]⟩, ⟨10, [13], [], .loud, [(53, Node.ag v7.1), (57, .el 29 2 1000001 ((List.map Node.av ((n.Kids ++ [v.1]) ++ [v1.1])).length) 0)], [.box 44 [.sl 66 (List.map Token.av v7.2.L) false, .sc (.int .i64 v7.2.I), .sc (.int .i64 v7.2.End), .sc (.int .i64 v7.2.Deep), .sc (.int .i64 v7.2.F.E), .sc (.int .i64 v7.2.F.At)], .box 29 [.sc (.int .i64 n.Kind), .sc (.string n.Text), .sc (.int .i64 n.Num), .own 2 1000001, .sc (.int .i64 n.At)], .row 29 (List.map Node.av ((n.Kids ++ [v.1]) ++ [v1.1]) ++ [.agg [.sc (.int .i64 0), .sc (.string (ByteArray.mk #[])), .sc (.int .i64 0), .sl 0 [] true, .sc (.int .i64 0)]]) 1000001 true], .u, [.box 44 [.sl 66 (List.map Token.av v7.2.L) false, .sc (.int .i64 v7.2.I), .sc (.int .i64 v7.2.End), .sc (.int .i64 v7.2.Deep), .sc (.int .i64 v7.2.F.E), .sc (.int .i64 v7.2.F.At)], .box 29 [.sc (.int .i64 n.Kind), .sc (.string n.Text), .sc (.int .i64 n.Num), .own 2 1000001, .sc (.int .i64 n.At)], .row 29 (List.map Node.av (((n.Kids ++ [v.1]) ++ [v1.1]) ++ [v7.1])) 1000001 true]⟩, ⟨9, [13], [], .read, [(54, .sc (.int .i64 (((List.map Node.av ((n.Kids ++ [v.1]) ++ [v1.1])).length : Nat) : Int))), (56, .own 2 1000001)], [.box 44 [.sl 66 (List.map Token.av v7.2.L) false, .sc (.int .i64 v7.2.I), .sc (.int .i64 v7.2.End), .sc (.int .i64 v7.2.Deep), .sc (.int .i64 v7.2.F.E), .sc (.int .i64 v7.2.F.At)], .box 29 [.sc (.int .i64 n.Kind), .sc (.string n.Text), .sc (.int .i64 n.Num), .own 2 1000001, .sc (.int .i64 n.At)], .row 29 (List.map Node.av ((n.Kids ++ [v.1]) ++ [v1.1]) ++ [.agg [.sc (.int .i64 0), .sc (.string (ByteArray.mk #[])), .sc (.int .i64 0), .sl 0 [] true, .sc (.int .i64 0)]]) 1000001 true], .el 29 2 1000001 ((List.map Node.av ((n.Kids ++ [v.1]) ++ [v1.1])).length) 0, [.box 44 [.sl 66 (List.map Token.av v7.2.L) false, .sc (.int .i64 v7.2.I), .sc (.int .i64 v7.2.End), .sc (.int .i64 v7.2.Deep), .sc (.int .i64 v7.2.F.E), .sc (.int .i64 v7.2.F.At)], .box 29 [.sc (.int .i64 n.Kind), .sc (.string n.Text), .sc (.int .i64 n.Num), .own 2 1000001, .sc (.int .i64 n.At)], .row 29 (List.map Node.av ((n.Kids ++ [v.1]) ++ [v1.1]) ++ [.agg [.sc (.int .i64 0), .sc (.string (ByteArray.mk #[])), .sc (.int .i64 0), .sl 0 [] true, .sc (.int .i64 0)]]) 1000001 true]⟩] [[0, 1, 2], [0, 1, 2], [0, 1, 2], [0, 1, 2], [0, 1, 2], [0, 1, 2], [0, 1, 2], [0, 1, 2], [0, 1, 2]] (.cons (LQ.ch [0] (H_g_podestaref15_Eye_acts v2.2 v7 hv_v7)) (.cons (LQ.apz Node.av ((n.Kids ++ [v.1]) ++ [v1.1]) (.agg [.sc (.int .i64 0), .sc (.string (ByteArray.mk #[])), .sc (.int .i64 0), .sl 0 [] true, .sc (.int .i64 0)]) hfit2) (.cons (LQ.xo (app_idx (List.map Node.av ((n.Kids ++ [v.1]) ++ [v1.1])) (.agg [.sc (.int .i64 0), .sc (.string (ByteArray.mk #[])), .sc (.int .i64 0), .sl 0 [] true, .sc (.int .i64 0)]))) (.cons (LQ.stz Node.av Node.ag Node.av_eq ((n.Kids ++ [v.1]) ++ [v1.1]) (.agg [.sc (.int .i64 0), .sc (.string (ByteArray.mk #[])), .sc (.int .i64 0), .sl 0 [] true, .sc (.int .i64 0)]) v7.1) (.cons (LQ.stz Node.av Node.ag Node.av_eq ((n.Kids ++ [v.1]) ++ [v1.1]) (.agg [.sc (.int .i64 0), .sc (.string (ByteArray.mk #[])), .sc (.int .i64 0), .sl 0 [] true, .sc (.int .i64 0)]) v7.1) (.cons (LQ.xo (app_idx (List.map Node.av ((n.Kids ++ [v.1]) ++ [v1.1])) (.agg [.sc (.int .i64 0), .sc (.string (ByteArray.mk #[])), .sc (.int .i64 0), .sl 0 [] true, .sc (.int .i64 0)]))) .nil)))))) (by kernel_rfl) (.rg (.sg 1 [60] (bndO H fun v8 hv H => (.ch [] [0] (podestaref15_Eye_Must_walk v7.2 (ByteArray.mk #[59]) v8 hv) (.dn ?_)))))))
      obtain rfl := Option.some.inj H
      exact .ret Try.func47 hc0 [0,1,2]
    ·
      refine .sg 1 [0] (.rg (.sg 1 [60] (bndO H fun v9 hv H => (.ch [] [0] (podestaref15_Eye_Must_walk v2.2 (ByteArray.mk #[59]) v9 hv) (.dn ?_)))))
      obtain rfl := Option.some.inj H
      exact .ret Try.func47 hc0 [0,1,2]

end Go.Proofs.Ytinmkhkehfjcaaa
