import Derived.Test.YtjchejmakdkioaaProg
import Derived.Test.YtjchejmakdkioaaM2PipeTexts
set_option linter.unusedVariables false
set_option linter.unusedSimpArgs false
set_option maxRecDepth 100000
set_option maxHeartbeats 4000000
namespace Go.Proofs.Ytjchejmakdkioaa
open Go.Sh
def tab : Go.Sh.Tab := [
  (1, ⟨.other, 1, 8, [.sc .nilFunc]⟩),
  (2, ⟨.int .i64, 1, 8, [.sc (.int .i64 0)]⟩),
  (3, ⟨.int .i64, 1, 8, [.sc (.int .i64 0)]⟩),
  (4, ⟨.bool, 1, 1, [.sc (.bool false)]⟩),
  (5, ⟨.int .u8, 1, 1, [.sc (.int .u8 0)]⟩),
  (9, ⟨.str, 1, 16, [.sc (.string ⟨#[]⟩)]⟩),
  (12, ⟨.int .u64, 1, 8, [.sc (.int .u64 0)]⟩),
  (13, ⟨.struct [(0, 9), (1, 12)], 2, 24, [.sc (.string ⟨#[]⟩), .sc (.int .u64 0)]⟩),
  (21, ⟨.int .i32, 1, 4, [.sc (.int .i32 0)]⟩),
  (22, ⟨.struct [(0, 3), (1, 3)], 2, 16, [.sc (.int .i64 0), .sc (.int .i64 0)]⟩),
  (23, ⟨.struct [(0, 3), (1, 3)], 2, 16, [.sc (.int .i64 0), .sc (.int .i64 0)]⟩),
  (25, ⟨.other, 1, 8, [.sc .nilFunc]⟩),
  (26, ⟨.other, 1, 8, [.sc .nilFunc]⟩),
  (27, ⟨.other, 1, 8, [.sc .nilFunc]⟩),
  (28, ⟨.other, 1, 8, [.sc .nilFunc]⟩),
  (29, ⟨.other, 1, 8, [.sc .nilFunc]⟩),
  (30, ⟨.other, 1, 8, [.sc .nilFunc]⟩),
  (31, ⟨.slice 3, 1, 24, [.sl 0 [] true]⟩),
  (32, ⟨.ptr 83, 1, 8, [.sc (.pointer none)]⟩),
  (33, ⟨.other, 1, 8, [.sc .nilFunc]⟩),
  (34, ⟨.other, 1, 8, [.sc .nilFunc]⟩),
  (35, ⟨.other, 1, 8, [.sc .nilFunc]⟩),
  (37, ⟨.other, 1, 8, [.sc .nilFunc]⟩),
  (38, ⟨.other, 1, 8, [.sc .nilFunc]⟩),
  (39, ⟨.slice 88, 1, 24, [.sl 0 [] true]⟩),
  (40, ⟨.other, 1, 8, [.sc .nilFunc]⟩),
  (41, ⟨.other, 1, 8, [.sc .nilFunc]⟩),
  (42, ⟨.other, 1, 8, [.sc .nilFunc]⟩),
  (43, ⟨.other, 1, 8, [.sc .nilFunc]⟩),
  (44, ⟨.slice 9, 1, 24, [.sl 0 [] true]⟩),
  (45, ⟨.ptr 93, 1, 8, [.sc (.pointer none)]⟩),
  (46, ⟨.other, 1, 8, [.sc .nilFunc]⟩),
  (47, ⟨.other, 1, 8, [.sc .nilFunc]⟩),
  (48, ⟨.other, 1, 8, [.sc .nilFunc]⟩),
  (50, ⟨.other, 1, 8, [.sc .nilFunc]⟩),
  (51, ⟨.other, 1, 8, [.sc .nilFunc]⟩),
  (52, ⟨.slice 66, 1, 24, [.sl 0 [] true]⟩),
  (54, ⟨.other, 1, 8, [.sc .nilFunc]⟩),
  (55, ⟨.other, 1, 8, [.sc .nilFunc]⟩),
  (56, ⟨.other, 1, 8, [.sc .nilFunc]⟩),
  (57, ⟨.int .u16, 1, 2, [.sc (.int .u16 0)]⟩),
  (58, ⟨.other, 1, 8, [.sc .nilFunc]⟩),
  (59, ⟨.int .u64, 1, 8, [.sc (.int .u64 0)]⟩),
  (60, ⟨.arr 12 59, 12, 96, [.arr .u64 12 [0, 0, 0, 0, 0, 0, 0, 0, 0, 0, 0, 0]]⟩),
  (61, ⟨.arr 12 59, 12, 96, [.arr .u64 12 [0, 0, 0, 0, 0, 0, 0, 0, 0, 0, 0, 0]]⟩),
  (62, ⟨.struct [(0, 61), (12, 61)], 24, 192, [.arr .u64 12 [0, 0, 0, 0, 0, 0, 0, 0, 0, 0, 0, 0], .arr .u64 12 [0, 0, 0, 0, 0, 0, 0, 0, 0, 0, 0, 0]]⟩),
  (63, ⟨.struct [(0, 61), (12, 61)], 24, 192, [.arr .u64 12 [0, 0, 0, 0, 0, 0, 0, 0, 0, 0, 0, 0], .arr .u64 12 [0, 0, 0, 0, 0, 0, 0, 0, 0, 0, 0, 0]]⟩),
  (64, ⟨.slice 110, 1, 24, [.sl 0 [] true]⟩),
  (65, ⟨.struct [(0, 63), (24, 3), (25, 64), (26, 3), (27, 3), (28, 3), (29, 3), (30, 3), (31, 3)], 32, 272, [.arr .u64 12 [0, 0, 0, 0, 0, 0, 0, 0, 0, 0, 0, 0], .arr .u64 12 [0, 0, 0, 0, 0, 0, 0, 0, 0, 0, 0, 0], .sc (.int .i64 0), .sl 0 [] true, .sc (.int .i64 0), .sc (.int .i64 0), .sc (.int .i64 0), .sc (.int .i64 0), .sc (.int .i64 0), .sc (.int .i64 0)]⟩),
  (66, ⟨.struct [(0, 63), (24, 3), (25, 64), (26, 3), (27, 3), (28, 3), (29, 3), (30, 3), (31, 3)], 32, 272, [.arr .u64 12 [0, 0, 0, 0, 0, 0, 0, 0, 0, 0, 0, 0], .arr .u64 12 [0, 0, 0, 0, 0, 0, 0, 0, 0, 0, 0, 0], .sc (.int .i64 0), .sl 0 [] true, .sc (.int .i64 0), .sc (.int .i64 0), .sc (.int .i64 0), .sc (.int .i64 0), .sc (.int .i64 0), .sc (.int .i64 0)]⟩),
  (67, ⟨.other, 1, 8, [.sc .nilFunc]⟩),
  (68, ⟨.other, 1, 8, [.sc .nilFunc]⟩),
  (69, ⟨.slice 99, 1, 24, [.sl 0 [] true]⟩),
  (70, ⟨.struct [(0, 3), (1, 3), (2, 3), (3, 69)], 4, 48, [.sc (.int .i64 0), .sc (.int .i64 0), .sc (.int .i64 0), .sl 0 [] true]⟩),
  (71, ⟨.struct [(0, 3), (1, 3), (2, 3), (3, 69)], 4, 48, [.sc (.int .i64 0), .sc (.int .i64 0), .sc (.int .i64 0), .sl 0 [] true]⟩),
  (72, ⟨.struct [(0, 3), (1, 3)], 2, 16, [.sc (.int .i64 0), .sc (.int .i64 0)]⟩),
  (73, ⟨.struct [(0, 3), (1, 3)], 2, 16, [.sc (.int .i64 0), .sc (.int .i64 0)]⟩),
  (75, ⟨.other, 1, 8, [.sc .nilFunc]⟩),
  (76, ⟨.int .i64, 1, 8, [.sc (.int .i64 0)]⟩),
  (77, ⟨.other, 1, 8, [.sc .nilFunc]⟩),
  (78, ⟨.slice 73, 1, 24, [.sl 0 [] true]⟩),
  (79, ⟨.other, 1, 8, [.sc .nilFunc]⟩),
  (80, ⟨.other, 1, 8, [.sc .nilFunc]⟩),
  (81, ⟨.other, 1, 8, [.sc (.chan none)]⟩),
  (82, ⟨.struct [(0, 81)], 1, 8, [.sc (.chan none)]⟩),
  (83, ⟨.struct [(0, 81)], 1, 8, [.sc (.chan none)]⟩),
  (84, ⟨.other, 1, 8, [.sc .nilFunc]⟩),
  (85, ⟨.struct [(0, 3), (1, 63), (25, 3), (26, 64), (27, 3), (28, 3), (29, 3), (30, 4)], 31, 264, [.sc (.int .i64 0), .arr .u64 12 [0, 0, 0, 0, 0, 0, 0, 0, 0, 0, 0, 0], .arr .u64 12 [0, 0, 0, 0, 0, 0, 0, 0, 0, 0, 0, 0], .sc (.int .i64 0), .sl 0 [] true, .sc (.int .i64 0), .sc (.int .i64 0), .sc (.int .i64 0), .sc (.bool false)]⟩),
  (86, ⟨.struct [(0, 3), (1, 63), (25, 3), (26, 64), (27, 3), (28, 3), (29, 3), (30, 4)], 31, 264, [.sc (.int .i64 0), .arr .u64 12 [0, 0, 0, 0, 0, 0, 0, 0, 0, 0, 0, 0], .arr .u64 12 [0, 0, 0, 0, 0, 0, 0, 0, 0, 0, 0, 0], .sc (.int .i64 0), .sl 0 [] true, .sc (.int .i64 0), .sc (.int .i64 0), .sc (.int .i64 0), .sc (.bool false)]⟩),
  (87, ⟨.struct [(0, 3), (1, 86)], 32, 272, [.sc (.int .i64 0), .sc (.int .i64 0), .arr .u64 12 [0, 0, 0, 0, 0, 0, 0, 0, 0, 0, 0, 0], .arr .u64 12 [0, 0, 0, 0, 0, 0, 0, 0, 0, 0, 0, 0], .sc (.int .i64 0), .sl 0 [] true, .sc (.int .i64 0), .sc (.int .i64 0), .sc (.int .i64 0), .sc (.bool false)]⟩),
  (88, ⟨.struct [(0, 3), (1, 86)], 32, 272, [.sc (.int .i64 0), .sc (.int .i64 0), .arr .u64 12 [0, 0, 0, 0, 0, 0, 0, 0, 0, 0, 0, 0], .arr .u64 12 [0, 0, 0, 0, 0, 0, 0, 0, 0, 0, 0, 0], .sc (.int .i64 0), .sl 0 [] true, .sc (.int .i64 0), .sc (.int .i64 0), .sc (.int .i64 0), .sc (.bool false)]⟩),
  (89, ⟨.other, 1, 8, [.sc .nilFunc]⟩),
  (90, ⟨.other, 1, 8, [.sc .nilFunc]⟩),
  (91, ⟨.other, 1, 8, [.sc (.chan none)]⟩),
  (92, ⟨.struct [(0, 91)], 1, 8, [.sc (.chan none)]⟩),
  (93, ⟨.struct [(0, 91)], 1, 8, [.sc (.chan none)]⟩),
  (94, ⟨.other, 1, 8, [.sc .nilFunc]⟩),
  (95, ⟨.other, 1, 8, [.sc .nilFunc]⟩),
  (96, ⟨.other, 1, 8, [.sc .nilFunc]⟩),
  (97, ⟨.other, 1, 8, [.sc .nilFunc]⟩),
  (98, ⟨.struct [(0, 73), (2, 73)], 4, 32, [.sc (.int .i64 0), .sc (.int .i64 0), .sc (.int .i64 0), .sc (.int .i64 0)]⟩),
  (99, ⟨.struct [(0, 73), (2, 73)], 4, 32, [.sc (.int .i64 0), .sc (.int .i64 0), .sc (.int .i64 0), .sc (.int .i64 0)]⟩),
  (100, ⟨.other, 1, 8, [.sc .nilFunc]⟩),
  (101, ⟨.other, 1, 8, [.sc (.map none)]⟩),
  (102, ⟨.other, 1, 8, [.sc .nilFunc]⟩),
  (103, ⟨.other, 1, 8, [.sc .nilFunc]⟩),
  (104, ⟨.other, 1, 8, [.sc .nilFunc]⟩),
  (105, ⟨.other, 1, 8, [.sc .nilFunc]⟩),
  (106, ⟨.other, 1, 8, [.sc .nilFunc]⟩),
  (107, ⟨.other, 1, 8, [.sc .nilFunc]⟩),
  (108, ⟨.other, 1, 8, [.sc .nilFunc]⟩),
  (109, ⟨.struct [(0, 3), (1, 3), (2, 3), (3, 59)], 4, 32, [.sc (.int .i64 0), .sc (.int .i64 0), .sc (.int .i64 0), .sc (.int .u64 0)]⟩),
  (110, ⟨.struct [(0, 3), (1, 3), (2, 3), (3, 59)], 4, 32, [.sc (.int .i64 0), .sc (.int .i64 0), .sc (.int .i64 0), .sc (.int .u64 0)]⟩),
  (111, ⟨.other, 1, 8, [.sc .nilFunc]⟩),
  (112, ⟨.other, 1, 8, [.sc .nilFunc]⟩),
  (113, ⟨.other, 1, 8, [.sc .nilFunc]⟩),
  (114, ⟨.slice 5, 1, 24, [.sl 0 [] true]⟩),
  (115, ⟨.other, 1, 8, [.sc .nilFunc]⟩),
  (116, ⟨.slice 4, 1, 24, [.sl 0 [] true]⟩),
  (117, ⟨.other, 1, 8, [.sc .nilFunc]⟩),
  (118, ⟨.int .u64, 1, 8, [.sc (.int .u64 0)]⟩),
  (119, ⟨.other, 1, 8, [.sc .nilFunc]⟩),
  (125, ⟨.int .u32, 1, 4, [.sc (.int .u32 0)]⟩),
  (128, ⟨.other, 1, 8, [.sc .nilFunc]⟩),
  (129, ⟨.ptr 5, 1, 8, [.sc (.pointer none)]⟩)]

theorem tab_ok : tab.ok Try.prog := Tab.ok_of (by kernel_rfl)
theorem mixed : Try.prog.follows .mixedOrders = true := by kernel_rfl
end Go.Proofs.Ytjchejmakdkioaa

set_option linter.unusedVariables false
set_option linter.unusedSimpArgs false
set_option maxRecDepth 100000
set_option maxHeartbeats 4000000
namespace Go.Proofs.Ytjchejmakdkioaa
open Go.Sh
instance : Ok Try.prog tab := ⟨tab_ok, mixed⟩
theorem wrap_eq {n : Int} (h1 : -9223372036854775808 ≤ n) (h2 : n ≤ 9223372036854775807) : IntKind.i64.wrap n = n := by
  rw [IntKind.wrap_i64]; omega
theorem wrap_succ {i : Nat} (h : i < 9223372036854775807) : IntKind.i64.wrap ((i : Int) + 1) = ((i + 1 : Nat) : Int) := by
  rw [wrap_eq (by omega) (by omega)]; rfl
theorem ixO_lt {α : Type} {xs : List α} {i : Nat} (h : i < xs.length) : ixO xs (i : Int) = some xs[i] := by
  unfold ixO
  rw [if_pos (by omega), Int.toNat_natCast, List.getElem?_eq_getElem h]
theorem fitO_eq {α : Type} {n b : Nat} {r : Option α} (h : n * b ≤ 140737488355328) : fitO n b r = r := by
  unfold fitO; rw [if_pos h]
theorem reqO_eq {α : Type} {b : Bool} {r : Option α} (h : b = true) : reqO b r = r := by
  subst h; rfl
theorem zero_nat : (0 : Int) = ((0 : Nat) : Int) := rfl
def idxF {α : Type} (f : α → Bool) (l : List α) : Int := match l.findIdx? f with | some i => (i : Int) | none => -1
theorem idxF_any {α : Type} (f : α → Bool) (l : List α) : decide (idxF f l ≥ 0) = l.any f := by
  unfold idxF
  cases h : l.findIdx? f with
  | none =>
    have : l.any f = false := by
      rw [Bool.eq_false_iff]
      intro ha
      obtain ⟨x, hx, hf⟩ := List.any_eq_true.1 ha
      have := List.findIdx?_eq_none_iff.1 h x hx
      rw [hf] at this
      cases this
    rw [this]
    rfl
  | some i =>
    have : l.any f = true := by
      obtain ⟨hlt, hp, _⟩ := List.findIdx?_eq_some_iff_getElem.1 h
      exact List.any_eq_true.2 ⟨l[i], List.getElem_mem hlt, hp⟩
    rw [this]
    simp
theorem findIdx_drop {α : Type} (f : α → Bool) {l : List α} {i : Nat} (h : i < l.length) : (l.drop i).findIdx? f = if f l[i] then some 0 else ((l.drop (i + 1)).findIdx? f).map (· + 1) := by
  rw [List.drop_eq_getElem_cons h, List.findIdx?_cons]
def zipAll {α β : Type} (f : α → β → Bool) : List α → List β → Bool
  | [], [] => true
  | x :: l, y :: r => f x y && zipAll f l r
  | _, _ => false
theorem zipAll_beq {α : Type} [DecidableEq α] : ∀ (l r : List α), zipAll (fun x y => x == y) l r = (l == r)
  | [], [] => rfl
  | x :: l, y :: r => by
      rw [zipAll, zipAll_beq l r]
      rfl
  | [], _ :: _ => rfl
  | _ :: _, [] => rfl
theorem zipAll_len {α β : Type} {f : α → β → Bool} : ∀ {l : List α} {r : List β}, zipAll f l r = true → l.length = r.length
  | [], [], _ => rfl
  | x :: l, y :: r, h => by
      rw [zipAll, Bool.and_eq_true] at h
      rw [List.length_cons, List.length_cons, zipAll_len h.2]
  | [], _ :: _, h => by cases h
  | _ :: _, [], h => by cases h
/-- two lists side by side -/
theorem cmp_loop {α β ε ρ : Type} {e : ε} {v : ρ} (L : List α → Nat → Option (Sum ε ρ)) (s2 : List β) (f : α → β → Bool) (h0 : ∀ i, L [] i = some (.inl e)) (h1 : ∀ x rest i, L (x :: rest) i = (ixO s2 ((i : Nat) : Int)).bind fun x1 => bif (!(f x x1)) then some (.inr v) else L rest (i + 1)) :
    ∀ (l : List α) (i : Nat), l.length + i = s2.length → L l i = some (if zipAll f l (s2.drop i) then .inl e else .inr v)
  | [], i, q => by
      rw [h0, List.drop_eq_nil_of_le (by simp at q; omega)]
      rfl
  | x :: l, i, q => by
      have hlt : i < s2.length := by simp at q; omega
      rw [h1, ixO_lt hlt, Option.bind_some, cmp_loop L s2 f h0 h1 l (i + 1) (by simp at q; omega), List.drop_eq_getElem_cons hlt, zipAll]
      cases f x s2[i]
      · rfl
      · simp only [Bool.not_true, cond_false, Bool.true_and]
theorem len_bne {α β : Type} (f : α → AV) (g : β → AV) (a : List α) (b : List β) : ((((List.map f a).length : Nat) : Int) != (((List.map g b).length : Nat) : Int)) = !decide (a.length = b.length) := by
  rw [List.length_map, List.length_map]
  by_cases h : a.length = b.length
  · rw [h]; simp
  · simp [h]; omega
theorem nil_app {α : Type} (l : List α) : ([] : List α) ++ l = l := rfl
theorem zipAll_refl {α : Type} {f : α → α → Bool} : ∀ {l : List α}, (∀ x ∈ l, f x x = true) → zipAll f l l = true
  | [], _ => rfl
  | x :: l, h => by
      rw [zipAll, h x (by simp), zipAll_refl fun y hy => h y (by simp [hy])]
      rfl

end Go.Proofs.Ytjchejmakdkioaa

set_option linter.unusedVariables false
set_option linter.unusedSimpArgs false
set_option maxRecDepth 100000
set_option maxHeartbeats 4000000
namespace Go.Proofs.Ytjchejmakdkioaa
open Go.Sh
structure Pipe_int where
  ch : Ch Int
  deriving DecidableEq, Inhabited
structure Pipe_string where
  ch : Ch ByteArray
  deriving DecidableEq, Inhabited
/-! ### pipe.New: function 20 -/
noncomputable def pipe_New_int_F : Go.Sh.Fn := ⟨20, bodyOf Try.f20, 9⟩
def pipe_New_int_raw (most : Int) : Option (Pipe_int) :=
  reqO (decide (0 ≤ (if 4096 < (if 0 > most then 0 else most) then 4096 else (if 0 > most then 0 else most))) && decide ((if 4096 < (if 0 > most then 0 else most) then 4096 else (if 0 > most then 0 else most)) ≤ 9223372036854775807) && decide ((if 4096 < (if 0 > most then 0 else most) then 4096 else (if 0 > most then 0 else most)) * 8 ≤ 281474976710544)) (
  some ({ ch := ⟨(if 4096 < (if 0 > most then 0 else most) then 4096 else (if 0 > most then 0 else most)).toNat, ([] : List Int)⟩ } : Pipe_int))
theorem pipe_New_int_walk (most : Int) (r : Pipe_int) (H : pipe_New_int_raw most = some r) : ACalls Try.prog tab.S 20 [.sc (.int .i64 most)] [] (.ptr 0 0 none) [.box 83 [.ref chanK 1], .vals (.chan r.ch.cap) (List.map (intA .i64) r.ch.buf)] := by
  refine .of_AX pipe_New_int_F Try.func20 fun c0 hc0 => ?_
  rw [pipe_New_int_raw] at H
  refine .sg 3 [0] (.rg (.sg 3 [5] (reqH H fun hreq H => (.mc [6] (j := (if 4096 < (if 0 > most then 0 else most) then 4096 else (if 0 > most then 0 else most))) (by_ := 8) hreq (.sg 3 [2] (.dn ?_))))))
  obtain rfl := Option.some.inj H
  exact .ret Try.func20 hc0 [1,0]

/-! ### (*podesta/pipe.Pipe: function 21 -/
noncomputable def pipe_Pipe_int_Put_F : Go.Sh.Fn := ⟨21, bodyOf Try.f21, 15⟩
def pipe_Pipe_int_Put (p : Pipe_int) (x : Int) : Bool × Pipe_int :=
  (bif ((bif (decide (p.ch.buf.length < p.ch.cap)) then 0 else (-1)) == 0) then
    (true, ({ ch := ⟨p.ch.cap, (bif (decide (p.ch.buf.length < p.ch.cap)) then p.ch.buf ++ [x] else p.ch.buf)⟩ } : Pipe_int))
  else
    (false, ({ ch := ⟨p.ch.cap, (bif (decide (p.ch.buf.length < p.ch.cap)) then p.ch.buf ++ [x] else p.ch.buf)⟩ } : Pipe_int)))
theorem pipe_Pipe_int_Put_walk (p : Pipe_int) (x : Int) (r : Bool × Pipe_int) (H : pipe_Pipe_int_Put p x = r) : ACalls Try.prog tab.S 21 [.ptr 0 0 none, .sc (.int .i64 x)] [.box 83 [.ref chanK 1], .vals (.chan p.ch.cap) (List.map (intA .i64) p.ch.buf)] (.sc (.bool r.1)) [.box 83 [.ref chanK 1], .vals (.chan r.2.ch.cap) (List.map (intA .i64) r.2.ch.buf)] := by
  refine .of_AX pipe_Pipe_int_Put_F Try.func21 fun c0 hc0 => ?_
  rw [pipe_Pipe_int_Put] at H
  refine .sg 12 [10,11] (.snd (intA .i64) p.ch.buf p.ch.cap x (.sg 2 [14] (.dn (.sg 1 [14] (.cd ((bif (decide (p.ch.buf.length < p.ch.cap)) then 0 else (-1)) == 0) H (fun hb H => ?_) (fun hb H => ?_))))))
  ·
    refine .sg 2 [4] ?_
    subst H
    exact .ret Try.func21 hc0 [0,1]
  ·
    refine .sg 2 [4] ?_
    subst H
    exact .ret Try.func21 hc0 [0,1]

/-! ### (*podesta/pipe.Pipe: function 23 -/
noncomputable def pipe_Pipe_int_Get_F : Go.Sh.Fn := ⟨23, bodyOf Try.f23, 19⟩
def pipe_Pipe_int_Get (p : Pipe_int) : Int × Bool × Pipe_int :=
  (bif ((bif p.ch.buf.isEmpty then (-1) else 0) == 0) then
    ((p.ch.buf.headD 0), true, ({ ch := ⟨p.ch.cap, p.ch.buf.tail⟩ } : Pipe_int))
  else
    (0, false, ({ ch := ⟨p.ch.cap, p.ch.buf.tail⟩ } : Pipe_int)))
theorem pipe_Pipe_int_Get_walk (p : Pipe_int) (r : Int × Bool × Pipe_int) (H : pipe_Pipe_int_Get p = r) : ACalls Try.prog tab.S 23 [.ptr 0 0 none] [.box 83 [.ref chanK 1], .vals (.chan p.ch.cap) (List.map (intA .i64) p.ch.buf)] (.tup [.sc (.int .i64 r.1), .sc (.bool r.2.1)]) [.box 83 [.ref chanK 1], .vals (.chan r.2.2.ch.cap) (List.map (intA .i64) r.2.2.ch.buf)] := by
  refine .of_AX pipe_Pipe_int_Get_F Try.func23 fun c0 hc0 => ?_
  rw [pipe_Pipe_int_Get] at H
  refine .sg 12 [4,12] (.rcv (intA .i64) p.ch.buf 0 (fun _ => rfl) (.sg 2 [4,13,15] (.dn (.sg 1 [4,13,15] (.cd ((bif p.ch.buf.isEmpty then (-1) else 0) == 0) H (fun hb H => ?_) (fun hb H => ?_))))))
  ·
    refine .sg 4 [2,3] ?_
    subst H
    exact .ret Try.func23 hc0 [0,1]
  ·
    refine .sg 2 [2,3] ?_
    subst H
    exact .ret Try.func23 hc0 [0,1]

/-! ### (*podesta/pipe.Pipe: function 22 -/
noncomputable def pipe_Pipe_int_Len_F : Go.Sh.Fn := ⟨22, bodyOf Try.f22, 10⟩
def pipe_Pipe_int_Len (p : Pipe_int) : Int × Pipe_int :=
  ((((List.map (intA .i64) p.ch.buf).length : Nat) : Int), p)
theorem pipe_Pipe_int_Len_walk (p : Pipe_int) (r : Int × Pipe_int) (H : pipe_Pipe_int_Len p = r) : ACalls Try.prog tab.S 22 [.ptr 0 0 none] [.box 83 [.ref chanK 1], .vals (.chan p.ch.cap) (List.map (intA .i64) p.ch.buf)] (.sc (.int .i64 r.1)) [.box 83 [.ref chanK 1], .vals (.chan r.2.ch.cap) (List.map (intA .i64) r.2.ch.buf)] := by
  refine .of_AX pipe_Pipe_int_Len_F Try.func22 fun c0 hc0 => ?_
  rw [pipe_Pipe_int_Len] at H
  refine .sg 8 [0] (.rg (.sg 4 [8] (.lc [9] (.sg 1 [2] (.dn ?_)))))
  subst H
  exact .ret Try.func22 hc0 [0,1]

/-! ### (*podesta/pipe.Pipe: function 27 -/
noncomputable def pipe_Pipe_int_All_F : Go.Sh.Fn := ⟨27, bodyOf Try.f27, 24⟩
def pipe_Pipe_int_All_l0 (v : Int × Pipe_int) : Nat → Int → List Int → Nat → List Int → Option ((List Int) × Nat × (List Int))
  | 0, _, _, _, _ => none
  | m + 1, t8, o1, o1_c, out =>
    (bif (decide (t8 < v.1)) then
    letT (pipe_Pipe_int_Get ({ ch := ⟨o1_c, o1⟩ } : Pipe_int)) fun v1 =>
    fitO (out.length + [v1.1].length) 8 (
    letT (pipe_Pipe_int_Put v1.2.2 v1.1) fun v2 =>
    pipe_Pipe_int_All_l0 v m (IntKind.i64.wrap (t8 + 1)) v2.2.ch.buf v2.2.ch.cap (out ++ [v1.1]))
  else
    some (o1, o1_c, out))
theorem pipe_Pipe_int_All_l0_walk (q0 : Nat) (p : Pipe_int) (v : Int × Pipe_int)  (r : (List Int) × Pipe_int) (c0 : Ctx) (hc0 : c0.m.length = 2) (res : (List Int) × Nat × (List Int)) (J : AX Try.prog tab pipe_Pipe_int_All_F c0 (Rp tab.S c0 (.sl 3 (List.map (intA .i64) r.1) false) [.box 83 [.ref chanK 1], .vals (.chan r.2.ch.cap) (List.map (intA .i64) r.2.ch.buf)]) (some ⟨[.code [1, 1, 1]], [(3, .own 2 1000000)], [.box 83 [.ref chanK 1], .vals (.chan res.2.1) (List.map (intA .i64) res.1), .row 3 (List.map (intA .i64) res.2.2) 1000000 true]⟩)) :
    ∀ (m : Nat) (t8 : Int) (o1 : List Int) (o1_c : Nat) (out : List Int) (H : pipe_Pipe_int_All_l0 v m t8 o1 o1_c out = some res), AX Try.prog tab pipe_Pipe_int_All_F c0 (Rp tab.S c0 (.sl 3 (List.map (intA .i64) r.1) false) [.box 83 [.ref chanK 1], .vals (.chan r.2.ch.cap) (List.map (intA .i64) r.2.ch.buf)]) (some ⟨[.code [1, 1, 0, 1, 0, 0], .loop [1, 1, 0, 1, 0], .blk 0, .code [1, 1, 1]], [(0, .ptr 0 0 none), (3, .own 2 1000000), (7, .sc (.int .i64 v.1)), (8, .sc (.int .i64 t8))], [.box 83 [.ref chanK 1], .vals (.chan o1_c) (List.map (intA .i64) o1), .row 3 (List.map (intA .i64) out) 1000000 true]⟩) := by
  intro m
  induction m with
  | zero => intro t8 o1 o1_c out H; cases H
  | succ m ih =>
    intro t8 o1 o1_c out H
    rw [pipe_Pipe_int_All_l0] at H
    refine .sg 3 [0,3,7,8,9] (.cd (decide (t8 < v.1)) H (fun hb H => ?_) (fun hb H => ?_))
    ·
      exact .sg 4 [0,3,7,8] (.rg (.sg 1 [0,3,7,8,11] (letH H fun v1 hv H => (.ch [0,3,7,8,12] [0,1] (pipe_Pipe_int_Get_walk ({ ch := ⟨o1_c, o1⟩ } : Pipe_int) v1 hv) (.sg 5 [0,3,4,7,8] (.dn (.sg 1 [0,3,4,7,8] (.rg (.sg 3 [0,4,7,8,15,17] (fitH H fun hfit H => (.ap [0,4,7,8,18] (intA .i64) hfit (.sg 1 [0,3,4,7,8] (.dn (.rg (.sg 2 [0,3,7,8,19,20] (letH H fun v2 hv H => (.ch [0,3,7,8] [0,1] (pipe_Pipe_int_Put_walk v1.2.2 v1.1 v2 hv) (.dn (.sg 2 [0,3,7,8] (.tl hc0 [0,1,2] [0,3,7,8] (.into (.to (ih (IntKind.i64.wrap (t8 + 1)) v2.2.ch.buf v2.2.ch.cap (out ++ [v1.1]) H)))))))))))))))))))))))
    ·
      refine .sg 1 [3] (.kp [3] ?_)
      obtain rfl := Option.some.inj H
      exact .to J
def pipe_Pipe_int_All_raw (q0 : Nat) (p : Pipe_int) : Option ((List Int) × Pipe_int) :=
  letT (pipe_Pipe_int_Len p) fun v =>
  (pipe_Pipe_int_All_l0 v q0 0 v.2.ch.buf v.2.ch.cap ([] : List Int)).bind fun v1 =>
  some (v1.2.2, ({ ch := ⟨v1.2.1, v1.1⟩ } : Pipe_int))
theorem pipe_Pipe_int_All_walk (q0 : Nat) (p : Pipe_int) (r : (List Int) × Pipe_int) (H : pipe_Pipe_int_All_raw q0 p = some r) : ACalls Try.prog tab.S 27 [.ptr 0 0 none] [.box 83 [.ref chanK 1], .vals (.chan p.ch.cap) (List.map (intA .i64) p.ch.buf)] (.sl 3 (List.map (intA .i64) r.1) false) [.box 83 [.ref chanK 1], .vals (.chan r.2.ch.cap) (List.map (intA .i64) r.2.ch.buf)] := by
  refine .of_AX pipe_Pipe_int_All_F Try.func27 fun c0 hc0 => ?_
  rw [pipe_Pipe_int_All_raw] at H
  refine .sg 6 [0,3] (.rg (.sg 1 [0,3,6] (letH H fun v hv H => (.ch [0,3,7] [0,1] (pipe_Pipe_int_Len_walk p v hv) (.sg 1 [0,3,7,8] (.dn (.sg 1 [0,3,7,8] (.ad 3 3 true (.kp [0,3,7,8] ?_)))))))))
  refine bndO H fun v1 hv H => (.into (.to (pipe_Pipe_int_All_l0_walk q0 p v r c0 hc0 v1 ?_ q0 0 v.2.ch.buf v.2.ch.cap ([] : List Int) hv)))
  refine .sg 2 [2] ?_
  obtain rfl := Option.some.inj H
  exact .ret Try.func27 hc0 [0,1]

theorem pipe_Pipe_int_Put_lt (p : Pipe_int) (x : Int) (h : p.ch.buf.length < p.ch.cap) : pipe_Pipe_int_Put p x = (true, ⟨⟨p.ch.cap, p.ch.buf ++ [x]⟩⟩) := by
  simp only [pipe_Pipe_int_Put, decide_eq_true h]
  rfl
theorem pipe_Pipe_int_Put_ge (p : Pipe_int) (x : Int) (h : ¬ p.ch.buf.length < p.ch.cap) : pipe_Pipe_int_Put p x = (false, p) := by
  simp only [pipe_Pipe_int_Put, decide_eq_false h]
  rfl
theorem pipe_Pipe_int_Get_cons (x : Int) (l : List Int) (c : Nat) : pipe_Pipe_int_Get ⟨⟨c, x :: l⟩⟩ = (x, true, ⟨⟨c, l⟩⟩) := rfl
theorem pipe_Pipe_int_Get_empty (c : Nat) : pipe_Pipe_int_Get ⟨⟨c, []⟩⟩ = (0, false, ⟨⟨c, []⟩⟩) := rfl
theorem pipe_Pipe_int_All_l0_eq (xs : List Int) (c : Nat) (p : Pipe_int) (h1 : xs.length ≤ c) (h2 : xs.length ≤ 1000000) : ∀ (b a : List Int), a ++ b = xs → pipe_Pipe_int_All_l0 ((xs.length : Int), p) (b.length + 1) (a.length : Int) (b ++ a) c a = some (xs, c, xs)
  | [], a, h => by
    rw [List.append_nil] at h
    subst h
    rw [pipe_Pipe_int_All_l0]
    simp
  | x :: r, a, h => by
    have hl : a.length + (r.length + 1) = xs.length := by rw [← h]; simp
    rw [pipe_Pipe_int_All_l0]
    have hd : decide ((a.length : Int) < (xs.length : Int)) = true := decide_eq_true (by omega)
    simp only [hd, cond_true, letT, List.cons_append, pipe_Pipe_int_Get_cons]
    have hf : (a.length + [x].length) * 8 ≤ reach := by simp [reach]; omega
    unfold fitO
    rw [if_pos hf, pipe_Pipe_int_Put_lt _ _ (by simp; omega)]
    have hw : IntKind.i64.wrap ((a.length : Int) + 1) = ((a ++ [x]).length : Int) := by
      rw [wrapI_eq (by omega) (by omega)]; simp
    have := pipe_Pipe_int_All_l0_eq xs c p h1 h2 r (a ++ [x]) (by rw [← h]; simp)
    rw [hw]
    simpa using this
def pipe_Pipe_int_allO (p : Pipe_int) : Option (List Int × Pipe_int) := if p.ch.buf.length ≤ p.ch.cap ∧ p.ch.cap ≤ 1000000 then some (p.ch.buf, p) else none
theorem pipe_Pipe_int_All_eq (p : Pipe_int) (r : List Int × Pipe_int) (H : pipe_Pipe_int_allO p = some r) : pipe_Pipe_int_All_raw (p.ch.buf.length + 1) p = some r := by
  unfold pipe_Pipe_int_allO at H
  split at H
  · rename_i h
    injection H with H
    subst H
    have := pipe_Pipe_int_All_l0_eq p.ch.buf p.ch.cap p h.1 (by omega) p.ch.buf [] rfl
    simp only [pipe_Pipe_int_All_raw, pipe_Pipe_int_Len, letT, List.length_map]
    rw [List.append_nil] at this
    rw [show (0 : Int) = (([] : List Int).length : Int) from rfl, this]
    rfl
  · cases H

theorem pipe_Pipe_int_All_ok (p : Pipe_int) (r : (List Int) × Pipe_int) (H : pipe_Pipe_int_allO p = some r) : ACalls Try.prog tab.S 27 [.ptr 0 0 none] [.box 83 [.ref chanK 1], .vals (.chan p.ch.cap) (List.map (intA .i64) p.ch.buf)] (.sl 3 (List.map (intA .i64) r.1) false) [.box 83 [.ref chanK 1], .vals (.chan r.2.ch.cap) (List.map (intA .i64) r.2.ch.buf)] :=
 pipe_Pipe_int_All_walk (p.ch.buf.length + 1) p r (pipe_Pipe_int_All_eq p r H)
/-! ### podestalaw11.answers: function 19 -/
noncomputable def podestalaw11_answers_F : Go.Sh.Fn := ⟨19, bodyOf Try.f19, 19⟩
def podestalaw11_answers_raw : Option (Bool) :=
  (pipe_New_int_raw 1).bind fun v =>
  letT (pipe_Pipe_int_Put v 5) fun v1 =>
  letT (pipe_Pipe_int_Put v1.2 6) fun v2 =>
  (bif (v1.1 && (!v2.1)) then
    letT (pipe_Pipe_int_Len v2.2) fun v3 =>
    some (v3.1 == 1)
  else
    some false)
theorem podestalaw11_answers_walk (r : Bool) (H : podestalaw11_answers_raw = some r) : ACalls Try.prog tab.S 19 [] [] (.sc (.bool r)) [] := by
  refine .of_AX podestalaw11_answers_F Try.func19 fun c0 hc0 => ?_
  rw [podestalaw11_answers_raw] at H
  refine .sg 3 [] (.rg (bndO H fun v hv H => (.ch [4] [] (pipe_New_int_walk 1 v hv) (.sg 1 [1] (.dn (.sg 1 [1] (.rg (.sg 1 [1,5] (letH H fun v1 hv H => (.ch [1,6] [0,1] (pipe_Pipe_int_Put_walk v 5 v1 hv) (.sg 1 [1,6,7] (letH H fun v2 hv H => (.ch [1,6,8] [0,1] (pipe_Pipe_int_Put_walk v1.2 6 v2 hv) (.sg 2 [1,2,3] (.dn (.sg 1 [1,2,3] (.rg (.sg 2 [1,3,10] (.mx 0 [1,13] (.sg 1 [1,14] (.sp 14 (v1.1 && (!v2.1)) H (fun hb H => ?_) (fun hb H => ?_))))))))))))))))))))))
  ·
    refine .sg 1 [14,15] (letH H fun v3 hv H => (.ch [14,16] [0,1] (pipe_Pipe_int_Len_walk v2.2 v3 hv) (.sg 3 [0] (.dn ?_))))
    obtain rfl := Option.some.inj H
    exact .ret Try.func19 hc0
  ·
    refine .sg 5 [0] (.dn ?_)
    obtain rfl := Option.some.inj H
    exact .ret Try.func19 hc0

theorem podestalaw11_answers_ok : ACalls Try.prog tab.S 19 [] [] (.sc (.bool true)) [] := podestalaw11_answers_walk true (by kernel_rfl)
/-! ### podestalaw11.PipeTurn: function 6 -/
noncomputable def podestalaw11_PipeTurn_F : Go.Sh.Fn := ⟨6, bodyOf Try.f6, 55⟩
def podestalaw11_PipeTurn_l0s : List Int → List Int → Nat → Sum ((List Int) × Nat) (Bool)
  | [], o1, o1_c =>
    (.inl (o1, o1_c))
  | x :: rest, o1, o1_c =>
    letT (pipe_Pipe_int_Put ({ ch := ⟨o1_c, o1⟩ } : Pipe_int) x) fun v1 =>
    (bif (!v1.1) then
      (.inr false)
    else
      letT (pipe_Pipe_int_Put v1.2 7) fun v2 =>
      (bif v2.1 then
        (.inr false)
      else
        letT (pipe_Pipe_int_Len v2.2) fun v3 =>
        (bif (v3.1 != 1) then
          (.inr false)
        else
          letT (pipe_Pipe_int_Get v3.2) fun v4 =>
          (bif ((!v4.2.1) || (v4.1 != x)) then
            (.inr false)
          else
            podestalaw11_PipeTurn_l0s rest v4.2.2.ch.buf v4.2.2.ch.cap))))
theorem podestalaw11_PipeTurn_l0_walk (list : List Int) (v : Pipe_int) (f_list : Bool) (r : Bool) (c0 : Ctx) (hc0 : c0.m.length = 0) (res : Sum ((List Int) × Nat) (Bool)) (J : ∀ w : (List Int) × Nat, res = .inl w → AX Try.prog tab podestalaw11_PipeTurn_F c0 (Rp tab.S c0 (.sc (.bool r)) []) (some ⟨[.code [1, 1, 1, 1]], [(3, .ptr 0 0 none)], [.box 83 [.ref chanK 1], .vals (.chan w.2) (List.map (intA .i64) w.1)]⟩)) (Jr : ∀ w, res = .inr w → w = r) :
    ∀ (rest : List Int) (i : Nat) (z : Int) (hI : z = ((i : Nat) : Int)) (hd : list.drop i = rest) (o1 : List Int) (o1_c : Nat) (H : podestalaw11_PipeTurn_l0s rest o1 o1_c = res), AX Try.prog tab podestalaw11_PipeTurn_F c0 (Rp tab.S c0 (.sc (.bool r)) []) (some ⟨[.code [1, 1, 1, 0, 1, 0, 0], .loop [1, 1, 1, 0, 1, 0], .blk 0, .code [1, 1, 1, 1]], [(0, .sl 3 (List.map (intA .i64) list) f_list), (3, .ptr 0 0 none), (4, .sc (.int .i64 z))], [.box 83 [.ref chanK 1], .vals (.chan o1_c) (List.map (intA .i64) o1)]⟩) := by
  intro rest
  induction rest with
  | nil =>
    intro i z hI hd o1 o1_c H
    subst hI
    rw [podestalaw11_PipeTurn_l0s] at H
    refine .facts 0 fun hf => ?_
    have hlen : list.length ≤ 9223372036854775807 := by have hq := len_ok hf.2.1; rw [List.length_map] at hq; exact hq
    have hge : list.length ≤ i := List.drop_eq_nil_iff.1 hd
    have hc : (decide (((i : Nat) : Int) < (((List.map (intA .i64) list).length : Nat) : Int))) = false := by rw [List.length_map]; exact decide_eq_false (by omega)
    exact .sg 3 [0,3,4,15] (.cdF hc (.sg 1 [3] (.kp [3] (.to (J (o1, o1_c) H.symm)))))
  | cons x rest ih =>
    intro i z hI hd o1 o1_c H
    subst hI
    rw [podestalaw11_PipeTurn_l0s] at H
    refine .facts 0 fun hf => ?_
    have hlen : list.length ≤ 9223372036854775807 := by have hq := len_ok hf.2.1; rw [List.length_map] at hq; exact hq
    obtain ⟨hlt, hv_i, hd2⟩ := drop_cons hd
    have hc : (decide (((i : Nat) : Int) < (((List.map (intA .i64) list).length : Nat) : Int))) = true := by rw [List.length_map]; exact decide_eq_true (by omega)
    have hw : IntKind.i64.wrap (((i : Nat) : Int) + 1) = ((i + 1 : Nat) : Int) := wrapI_succ (by omega)
    refine .sg 3 [0,3,4,15] (.cdT hc (.sg 5 [0,3,4] (.rg (.sg 3 [0,3,4,18,19,20] (.xi [0,3,4,18,21] (intA .i64) hv_i (.sg 1 [0,3,4,18,22] (letH H fun v1 hv H => (.ch [0,3,4,23] [0,1] (pipe_Pipe_int_Put_walk ({ ch := ⟨o1_c, o1⟩ } : Pipe_int) x v1 hv) (.sg 2 [0,3,4,25] (.sp 25 (!v1.1) H (fun hb H => ?_) (fun hb H => ?_)))))))))))
    ·
      refine .sg 8 [0,3,4,33] (.dn (.sg 3 [2] ?_))
      subst H
      obtain rfl := Jr _ rfl
      exact .ret Try.func6 hc0
    ·
      refine .sg 1 [0,3,4,25,26] (letH H fun v2 hv H => (.ch [0,3,4,25,27] [0,1] (pipe_Pipe_int_Put_walk v1.2 7 v2 hv) (.sg 2 [0,3,4,29] (.sp 29 v2.1 H (fun hb H => ?_) (fun hb H => ?_)))))
      ·
        refine .sg 4 [0,3,4,33] (.dn (.sg 3 [2] ?_))
        subst H
        obtain rfl := Jr _ rfl
        exact .ret Try.func6 hc0
      ·
        refine .sg 1 [0,3,4,29,30] (letH H fun v3 hv H => (.ch [0,3,4,29,31] [0,1] (pipe_Pipe_int_Len_walk v2.2 v3 hv) (.sg 2 [0,3,4,33] (.dn (.cd (v3.1 != 1) H (fun hb H => ?_) (fun hb H => ?_))))))
        ·
          refine .sg 2 [2] ?_
          subst H
          obtain rfl := Jr _ rfl
          exact .ret Try.func6 hc0
        ·
          refine .sg 2 [0,3,4] (.rg (.sg 1 [0,3,4,35] (letH H fun v4 hv H => (.ch [0,3,4,36] [0,1] (pipe_Pipe_int_Get_walk v3.2 v4 hv) (.sg 5 [0,3,4,5,6] (.dn (.sg 1 [0,3,4,5,6] (.rg (.sg 3 [0,3,4,5,41] (.mm 41 (!v4.2.1) 7 [.pure, .pure, .pure, .pure, .pure, .pure, .pure] [0, 3, 4, 48] 48 (fun z => .sc (.bool (z || (v4.1 != x)))) ?J1 (fun hb J => ?ht1) (fun hb J => ?hf1)))))))))))
          case ht1 =>
            exact .sg 7 [0,3,4,48] (.cl J)
          case hf1 =>
            exact .sg 3 [0,3,4,41,42,43,44] (.xi [0,3,4,41,42,45] (intA .i64) hv_i (.sg 3 [0,3,4,48] (.cl J)))
          refine .dn (.cd ((!v4.2.1) || (v4.1 != x)) H (fun hb H => ?_) (fun hb H => ?_))
          ·
            refine .sg 2 [2] ?_
            subst H
            obtain rfl := Jr _ rfl
            exact .ret Try.func6 hc0
          ·
            exact .sg 3 [0,3,4] (.kp [0,3,4] (.into (.cl (ih (i + 1) _ hw hd2 v4.2.2.ch.buf v4.2.2.ch.cap H))))

def podestalaw11_PipeTurn_raw (list : List Int) : Option (Bool) :=
  (bif (decide ((((List.map (intA .i64) list).length : Nat) : Int) > 200)) then
    some true
  else
    (pipe_New_int_raw 1).bind fun v =>
    sumG (fun q => some q) (podestalaw11_PipeTurn_l0s list v.ch.buf v.ch.cap) fun v1 =>
    letT (pipe_Pipe_int_Len ({ ch := ⟨v1.2, v1.1⟩ } : Pipe_int)) fun v2 =>
    some (v2.1 == 0))
theorem podestalaw11_PipeTurn_walk (list : List Int) (f_list : Bool) (r : Bool) (H : podestalaw11_PipeTurn_raw list = some r) : ACalls Try.prog tab.S 6 [.sl 3 (List.map (intA .i64) list) f_list] [] (.sc (.bool r)) [] := by
  refine .of_AX podestalaw11_PipeTurn_F Try.func6 fun c0 hc0 => ?_
  rw [podestalaw11_PipeTurn_raw] at H
  refine .sg 5 [0,9] (.cd (decide ((((List.map (intA .i64) list).length : Nat) : Int) > 200)) H (fun hb H => ?_) (fun hb H => ?_))
  ·
    refine .sg 1 [] (.rg (.cp [10] (podestalaw11_answers_ok) (.sg 1 [2] (.dn ?_))))
    obtain rfl := Option.some.inj H
    exact .ret Try.func6 hc0
  ·
    refine .sg 2 [0] (.rg (bndO H fun v hv H => (.ch [0,11] [] (pipe_New_int_walk 1 v hv) (.sg 1 [0,3] (.dn (.sg 4 [0,3,4] ?_))))))
    rcases sumG_eq H with ⟨v1, hv, H⟩ | ⟨r1, hv, hr1⟩
    case inr =>
      refine .into ?_
      obtain rfl := Option.some.inj hr1
      exact .to (podestalaw11_PipeTurn_l0_walk list v f_list _ c0 hc0 (.inr _) (fun _ e => by cases e) (fun _ e => (Sum.inr.inj e).symm) list 0 _ rfl rfl v.ch.buf v.ch.cap hv)
    refine .into (.to (podestalaw11_PipeTurn_l0_walk list v f_list r c0 hc0 (.inl v1) (fun w e => ?_) (fun _ e => by cases e) list 0 _ rfl rfl v.ch.buf v.ch.cap hv))
    have e := Sum.inl.inj e
    subst e
    refine .sg 1 [3] (.rg (.cp [3,49] (podestalaw11_answers_ok) (.sg 2 [50,51] (letH H fun v2 hv H => (.ch [50,52] [0,1] (pipe_Pipe_int_Len_walk ({ ch := ⟨v1.2, v1.1⟩ } : Pipe_int) v2 hv) (.sg 3 [2] (.dn ?_)))))))
    obtain rfl := Option.some.inj H
    exact .ret Try.func6 hc0

end Go.Proofs.Ytjchejmakdkioaa

set_option linter.unusedVariables false
set_option linter.unusedSimpArgs false
set_option maxRecDepth 100000
set_option maxHeartbeats 4000000
namespace Go.Proofs.Ytjchejmakdkioaa
open Go.Sh
/-! ### pipe.New: function 28 -/
noncomputable def pipe_New_string_F : Go.Sh.Fn := ⟨28, bodyOf Try.f28, 9⟩
def pipe_New_string_raw (most : Int) : Option (Pipe_string) :=
  reqO (decide (0 ≤ (if 4096 < (if 0 > most then 0 else most) then 4096 else (if 0 > most then 0 else most))) && decide ((if 4096 < (if 0 > most then 0 else most) then 4096 else (if 0 > most then 0 else most)) ≤ 9223372036854775807) && decide ((if 4096 < (if 0 > most then 0 else most) then 4096 else (if 0 > most then 0 else most)) * 16 ≤ 281474976710544)) (
  some ({ ch := ⟨(if 4096 < (if 0 > most then 0 else most) then 4096 else (if 0 > most then 0 else most)).toNat, ([] : List ByteArray)⟩ } : Pipe_string))
theorem pipe_New_string_walk (most : Int) (r : Pipe_string) (H : pipe_New_string_raw most = some r) : ACalls Try.prog tab.S 28 [.sc (.int .i64 most)] [] (.ptr 0 0 none) [.box 93 [.ref chanK 1], .vals (.chan r.ch.cap) (List.map strA r.ch.buf)] := by
  refine .of_AX pipe_New_string_F Try.func28 fun c0 hc0 => ?_
  rw [pipe_New_string_raw] at H
  refine .sg 3 [0] (.rg (.sg 3 [5] (reqH H fun hreq H => (.mc [6] (j := (if 4096 < (if 0 > most then 0 else most) then 4096 else (if 0 > most then 0 else most))) (by_ := 16) hreq (.sg 3 [2] (.dn ?_))))))
  obtain rfl := Option.some.inj H
  exact .ret Try.func28 hc0 [1,0]

/-! ### (*podesta/pipe.Pipe: function 29 -/
noncomputable def pipe_Pipe_string_Put_F : Go.Sh.Fn := ⟨29, bodyOf Try.f29, 15⟩
def pipe_Pipe_string_Put (p : Pipe_string) (x : ByteArray) : Bool × Pipe_string :=
  (bif ((bif (decide (p.ch.buf.length < p.ch.cap)) then 0 else (-1)) == 0) then
    (true, ({ ch := ⟨p.ch.cap, (bif (decide (p.ch.buf.length < p.ch.cap)) then p.ch.buf ++ [x] else p.ch.buf)⟩ } : Pipe_string))
  else
    (false, ({ ch := ⟨p.ch.cap, (bif (decide (p.ch.buf.length < p.ch.cap)) then p.ch.buf ++ [x] else p.ch.buf)⟩ } : Pipe_string)))
theorem pipe_Pipe_string_Put_walk (p : Pipe_string) (x : ByteArray) (r : Bool × Pipe_string) (H : pipe_Pipe_string_Put p x = r) : ACalls Try.prog tab.S 29 [.ptr 0 0 none, .sc (.string x)] [.box 93 [.ref chanK 1], .vals (.chan p.ch.cap) (List.map strA p.ch.buf)] (.sc (.bool r.1)) [.box 93 [.ref chanK 1], .vals (.chan r.2.ch.cap) (List.map strA r.2.ch.buf)] := by
  refine .of_AX pipe_Pipe_string_Put_F Try.func29 fun c0 hc0 => ?_
  rw [pipe_Pipe_string_Put] at H
  refine .sg 12 [10,11] (.snd strA p.ch.buf p.ch.cap x (.sg 2 [14] (.dn (.sg 1 [14] (.cd ((bif (decide (p.ch.buf.length < p.ch.cap)) then 0 else (-1)) == 0) H (fun hb H => ?_) (fun hb H => ?_))))))
  ·
    refine .sg 2 [4] ?_
    subst H
    exact .ret Try.func29 hc0 [0,1]
  ·
    refine .sg 2 [4] ?_
    subst H
    exact .ret Try.func29 hc0 [0,1]

/-! ### (*podesta/pipe.Pipe: function 31 -/
noncomputable def pipe_Pipe_string_Get_F : Go.Sh.Fn := ⟨31, bodyOf Try.f31, 19⟩
def pipe_Pipe_string_Get (p : Pipe_string) : ByteArray × Bool × Pipe_string :=
  (bif ((bif p.ch.buf.isEmpty then (-1) else 0) == 0) then
    ((p.ch.buf.headD ⟨#[]⟩), true, ({ ch := ⟨p.ch.cap, p.ch.buf.tail⟩ } : Pipe_string))
  else
    ((ByteArray.mk #[]), false, ({ ch := ⟨p.ch.cap, p.ch.buf.tail⟩ } : Pipe_string)))
theorem pipe_Pipe_string_Get_walk (p : Pipe_string) (r : ByteArray × Bool × Pipe_string) (H : pipe_Pipe_string_Get p = r) : ACalls Try.prog tab.S 31 [.ptr 0 0 none] [.box 93 [.ref chanK 1], .vals (.chan p.ch.cap) (List.map strA p.ch.buf)] (.tup [.sc (.string r.1), .sc (.bool r.2.1)]) [.box 93 [.ref chanK 1], .vals (.chan r.2.2.ch.cap) (List.map strA r.2.2.ch.buf)] := by
  refine .of_AX pipe_Pipe_string_Get_F Try.func31 fun c0 hc0 => ?_
  rw [pipe_Pipe_string_Get] at H
  refine .sg 12 [4,12] (.rcv strA p.ch.buf ⟨#[]⟩ (fun _ => rfl) (.sg 2 [4,13,15] (.dn (.sg 1 [4,13,15] (.cd ((bif p.ch.buf.isEmpty then (-1) else 0) == 0) H (fun hb H => ?_) (fun hb H => ?_))))))
  ·
    refine .sg 4 [2,3] ?_
    subst H
    exact .ret Try.func31 hc0 [0,1]
  ·
    refine .sg 2 [2,3] ?_
    subst H
    exact .ret Try.func31 hc0 [0,1]

/-! ### (*podesta/pipe.Pipe: function 32 -/
noncomputable def pipe_Pipe_string_Len_F : Go.Sh.Fn := ⟨32, bodyOf Try.f32, 10⟩
def pipe_Pipe_string_Len (p : Pipe_string) : Int × Pipe_string :=
  ((((List.map strA p.ch.buf).length : Nat) : Int), p)
theorem pipe_Pipe_string_Len_walk (p : Pipe_string) (r : Int × Pipe_string) (H : pipe_Pipe_string_Len p = r) : ACalls Try.prog tab.S 32 [.ptr 0 0 none] [.box 93 [.ref chanK 1], .vals (.chan p.ch.cap) (List.map strA p.ch.buf)] (.sc (.int .i64 r.1)) [.box 93 [.ref chanK 1], .vals (.chan r.2.ch.cap) (List.map strA r.2.ch.buf)] := by
  refine .of_AX pipe_Pipe_string_Len_F Try.func32 fun c0 hc0 => ?_
  rw [pipe_Pipe_string_Len] at H
  refine .sg 8 [0] (.rg (.sg 4 [8] (.lc [9] (.sg 1 [2] (.dn ?_)))))
  subst H
  exact .ret Try.func32 hc0 [0,1]

/-! ### (*podesta/pipe.Pipe: function 30 -/
noncomputable def pipe_Pipe_string_All_F : Go.Sh.Fn := ⟨30, bodyOf Try.f30, 24⟩
def pipe_Pipe_string_All_l0 (v : Int × Pipe_string) : Nat → Int → List ByteArray → Nat → List ByteArray → Option ((List ByteArray) × Nat × (List ByteArray))
  | 0, _, _, _, _ => none
  | m + 1, t8, o1, o1_c, out =>
    (bif (decide (t8 < v.1)) then
    letT (pipe_Pipe_string_Get ({ ch := ⟨o1_c, o1⟩ } : Pipe_string)) fun v1 =>
    fitO (out.length + [v1.1].length) 16 (
    letT (pipe_Pipe_string_Put v1.2.2 v1.1) fun v2 =>
    pipe_Pipe_string_All_l0 v m (IntKind.i64.wrap (t8 + 1)) v2.2.ch.buf v2.2.ch.cap (out ++ [v1.1]))
  else
    some (o1, o1_c, out))
theorem pipe_Pipe_string_All_l0_walk (q0 : Nat) (p : Pipe_string) (v : Int × Pipe_string)  (r : (List ByteArray) × Pipe_string) (c0 : Ctx) (hc0 : c0.m.length = 2) (res : (List ByteArray) × Nat × (List ByteArray)) (J : AX Try.prog tab pipe_Pipe_string_All_F c0 (Rp tab.S c0 (.sl 9 (List.map strA r.1) false) [.box 93 [.ref chanK 1], .vals (.chan r.2.ch.cap) (List.map strA r.2.ch.buf)]) (some ⟨[.code [1, 1, 1]], [(3, .own 2 1000000)], [.box 93 [.ref chanK 1], .vals (.chan res.2.1) (List.map strA res.1), .row 9 (List.map strA res.2.2) 1000000 true]⟩)) :
    ∀ (m : Nat) (t8 : Int) (o1 : List ByteArray) (o1_c : Nat) (out : List ByteArray) (H : pipe_Pipe_string_All_l0 v m t8 o1 o1_c out = some res), AX Try.prog tab pipe_Pipe_string_All_F c0 (Rp tab.S c0 (.sl 9 (List.map strA r.1) false) [.box 93 [.ref chanK 1], .vals (.chan r.2.ch.cap) (List.map strA r.2.ch.buf)]) (some ⟨[.code [1, 1, 0, 1, 0, 0], .loop [1, 1, 0, 1, 0], .blk 0, .code [1, 1, 1]], [(0, .ptr 0 0 none), (3, .own 2 1000000), (7, .sc (.int .i64 v.1)), (8, .sc (.int .i64 t8))], [.box 93 [.ref chanK 1], .vals (.chan o1_c) (List.map strA o1), .row 9 (List.map strA out) 1000000 true]⟩) := by
  intro m
  induction m with
  | zero => intro t8 o1 o1_c out H; cases H
  | succ m ih =>
    intro t8 o1 o1_c out H
    rw [pipe_Pipe_string_All_l0] at H
    refine .sg 3 [0,3,7,8,9] (.cd (decide (t8 < v.1)) H (fun hb H => ?_) (fun hb H => ?_))
    ·
      exact .sg 4 [0,3,7,8] (.rg (.sg 1 [0,3,7,8,11] (letH H fun v1 hv H => (.ch [0,3,7,8,12] [0,1] (pipe_Pipe_string_Get_walk ({ ch := ⟨o1_c, o1⟩ } : Pipe_string) v1 hv) (.sg 5 [0,3,4,7,8] (.dn (.sg 1 [0,3,4,7,8] (.rg (.sg 3 [0,4,7,8,15,17] (fitH H fun hfit H => (.ap [0,4,7,8,18] strA hfit (.sg 1 [0,3,4,7,8] (.dn (.rg (.sg 2 [0,3,7,8,19,20] (letH H fun v2 hv H => (.ch [0,3,7,8] [0,1] (pipe_Pipe_string_Put_walk v1.2.2 v1.1 v2 hv) (.dn (.sg 2 [0,3,7,8] (.tl hc0 [0,1,2] [0,3,7,8] (.into (.to (ih (IntKind.i64.wrap (t8 + 1)) v2.2.ch.buf v2.2.ch.cap (out ++ [v1.1]) H)))))))))))))))))))))))
    ·
      refine .sg 1 [3] (.kp [3] ?_)
      obtain rfl := Option.some.inj H
      exact .to J
def pipe_Pipe_string_All_raw (q0 : Nat) (p : Pipe_string) : Option ((List ByteArray) × Pipe_string) :=
  letT (pipe_Pipe_string_Len p) fun v =>
  (pipe_Pipe_string_All_l0 v q0 0 v.2.ch.buf v.2.ch.cap ([] : List ByteArray)).bind fun v1 =>
  some (v1.2.2, ({ ch := ⟨v1.2.1, v1.1⟩ } : Pipe_string))
theorem pipe_Pipe_string_All_walk (q0 : Nat) (p : Pipe_string) (r : (List ByteArray) × Pipe_string) (H : pipe_Pipe_string_All_raw q0 p = some r) : ACalls Try.prog tab.S 30 [.ptr 0 0 none] [.box 93 [.ref chanK 1], .vals (.chan p.ch.cap) (List.map strA p.ch.buf)] (.sl 9 (List.map strA r.1) false) [.box 93 [.ref chanK 1], .vals (.chan r.2.ch.cap) (List.map strA r.2.ch.buf)] := by
  refine .of_AX pipe_Pipe_string_All_F Try.func30 fun c0 hc0 => ?_
  rw [pipe_Pipe_string_All_raw] at H
  refine .sg 6 [0,3] (.rg (.sg 1 [0,3,6] (letH H fun v hv H => (.ch [0,3,7] [0,1] (pipe_Pipe_string_Len_walk p v hv) (.sg 1 [0,3,7,8] (.dn (.sg 1 [0,3,7,8] (.ad 3 9 true (.kp [0,3,7,8] ?_)))))))))
  refine bndO H fun v1 hv H => (.into (.to (pipe_Pipe_string_All_l0_walk q0 p v r c0 hc0 v1 ?_ q0 0 v.2.ch.buf v.2.ch.cap ([] : List ByteArray) hv)))
  refine .sg 2 [2] ?_
  obtain rfl := Option.some.inj H
  exact .ret Try.func30 hc0 [0,1]

theorem pipe_Pipe_string_Put_lt (p : Pipe_string) (x : ByteArray) (h : p.ch.buf.length < p.ch.cap) : pipe_Pipe_string_Put p x = (true, ⟨⟨p.ch.cap, p.ch.buf ++ [x]⟩⟩) := by
  simp only [pipe_Pipe_string_Put, decide_eq_true h]
  rfl
theorem pipe_Pipe_string_Put_ge (p : Pipe_string) (x : ByteArray) (h : ¬ p.ch.buf.length < p.ch.cap) : pipe_Pipe_string_Put p x = (false, p) := by
  simp only [pipe_Pipe_string_Put, decide_eq_false h]
  rfl
theorem pipe_Pipe_string_Get_cons (x : ByteArray) (l : List ByteArray) (c : Nat) : pipe_Pipe_string_Get ⟨⟨c, x :: l⟩⟩ = (x, true, ⟨⟨c, l⟩⟩) := rfl
theorem pipe_Pipe_string_Get_empty (c : Nat) : pipe_Pipe_string_Get ⟨⟨c, []⟩⟩ = (⟨#[]⟩, false, ⟨⟨c, []⟩⟩) := rfl
theorem pipe_Pipe_string_All_l0_eq (xs : List ByteArray) (c : Nat) (p : Pipe_string) (h1 : xs.length ≤ c) (h2 : xs.length ≤ 1000000) : ∀ (b a : List ByteArray), a ++ b = xs → pipe_Pipe_string_All_l0 ((xs.length : Int), p) (b.length + 1) (a.length : Int) (b ++ a) c a = some (xs, c, xs)
  | [], a, h => by
    rw [List.append_nil] at h
    subst h
    rw [pipe_Pipe_string_All_l0]
    simp
  | x :: r, a, h => by
    have hl : a.length + (r.length + 1) = xs.length := by rw [← h]; simp
    rw [pipe_Pipe_string_All_l0]
    have hd : decide ((a.length : Int) < (xs.length : Int)) = true := decide_eq_true (by omega)
    simp only [hd, cond_true, letT, List.cons_append, pipe_Pipe_string_Get_cons]
    have hf : (a.length + [x].length) * 16 ≤ reach := by simp [reach]; omega
    unfold fitO
    rw [if_pos hf, pipe_Pipe_string_Put_lt _ _ (by simp; omega)]
    have hw : IntKind.i64.wrap ((a.length : Int) + 1) = ((a ++ [x]).length : Int) := by
      rw [wrapI_eq (by omega) (by omega)]; simp
    have := pipe_Pipe_string_All_l0_eq xs c p h1 h2 r (a ++ [x]) (by rw [← h]; simp)
    rw [hw]
    simpa using this
def pipe_Pipe_string_allO (p : Pipe_string) : Option (List ByteArray × Pipe_string) := if p.ch.buf.length ≤ p.ch.cap ∧ p.ch.cap ≤ 1000000 then some (p.ch.buf, p) else none
theorem pipe_Pipe_string_All_eq (p : Pipe_string) (r : List ByteArray × Pipe_string) (H : pipe_Pipe_string_allO p = some r) : pipe_Pipe_string_All_raw (p.ch.buf.length + 1) p = some r := by
  unfold pipe_Pipe_string_allO at H
  split at H
  · rename_i h
    injection H with H
    subst H
    have := pipe_Pipe_string_All_l0_eq p.ch.buf p.ch.cap p h.1 (by omega) p.ch.buf [] rfl
    simp only [pipe_Pipe_string_All_raw, pipe_Pipe_string_Len, letT, List.length_map]
    rw [List.append_nil] at this
    rw [show (0 : Int) = (([] : List ByteArray).length : Int) from rfl, this]
    rfl
  · cases H

theorem pipe_Pipe_string_All_ok (p : Pipe_string) (r : (List ByteArray) × Pipe_string) (H : pipe_Pipe_string_allO p = some r) : ACalls Try.prog tab.S 30 [.ptr 0 0 none] [.box 93 [.ref chanK 1], .vals (.chan p.ch.cap) (List.map strA p.ch.buf)] (.sl 9 (List.map strA r.1) false) [.box 93 [.ref chanK 1], .vals (.chan r.2.ch.cap) (List.map strA r.2.ch.buf)] :=
 pipe_Pipe_string_All_walk (p.ch.buf.length + 1) p r (pipe_Pipe_string_All_eq p r H)
/-! ### podestalaw11.PipeTexts: function 9 -/
noncomputable def podestalaw11_PipeTexts_F : Go.Sh.Fn := ⟨9, bodyOf Try.f9, 81⟩
def podestalaw11_PipeTexts_l0s : List ByteArray → List ByteArray → Nat → Sum ((List ByteArray) × Nat) (Bool)
  | [], o1, o1_c =>
    (.inl (o1, o1_c))
  | x :: rest, o1, o1_c =>
    letT (pipe_Pipe_string_Put ({ ch := ⟨o1_c, o1⟩ } : Pipe_string) x) fun v1 =>
    (bif (!v1.1) then
      (.inr false)
    else
      podestalaw11_PipeTexts_l0s rest v1.2.ch.buf v1.2.ch.cap)
theorem podestalaw11_PipeTexts_l0_walk (list : List ByteArray) (v : Pipe_string) (f_list : Bool) (r : Bool) (c0 : Ctx) (hc0 : c0.m.length = 0) (res : Sum ((List ByteArray) × Nat) (Bool)) (J : ∀ w : (List ByteArray) × Nat, res = .inl w → AX Try.prog tab podestalaw11_PipeTexts_F c0 (Rp tab.S c0 (.sc (.bool r)) []) (some ⟨[.code [1, 1, 1, 1]], [(0, .sl 9 (List.map strA list) f_list), (3, .ptr 0 0 none)], [.box 93 [.ref chanK 1], .vals (.chan w.2) (List.map strA w.1)]⟩)) (Jr : ∀ w, res = .inr w → w = r) :
    ∀ (rest : List ByteArray) (i : Nat) (z : Int) (hI : z = ((i : Nat) : Int)) (hd : list.drop i = rest) (o1 : List ByteArray) (o1_c : Nat) (H : podestalaw11_PipeTexts_l0s rest o1 o1_c = res), AX Try.prog tab podestalaw11_PipeTexts_F c0 (Rp tab.S c0 (.sc (.bool r)) []) (some ⟨[.code [1, 1, 1, 0, 1, 0, 0], .loop [1, 1, 1, 0, 1, 0], .blk 0, .code [1, 1, 1, 1]], [(0, .sl 9 (List.map strA list) f_list), (3, .ptr 0 0 none), (4, .sc (.int .i64 z))], [.box 93 [.ref chanK 1], .vals (.chan o1_c) (List.map strA o1)]⟩) := by
  intro rest
  induction rest with
  | nil =>
    intro i z hI hd o1 o1_c H
    subst hI
    rw [podestalaw11_PipeTexts_l0s] at H
    refine .facts 0 fun hf => ?_
    have hlen : list.length ≤ 9223372036854775807 := by have hq := len_ok hf.2.1; rw [List.length_map] at hq; exact hq
    have hge : list.length ≤ i := List.drop_eq_nil_iff.1 hd
    have hc : (decide (((i : Nat) : Int) < (((List.map strA list).length : Nat) : Int))) = false := by rw [List.length_map]; exact decide_eq_false (by omega)
    exact .sg 3 [0,3,4,19] (.cdF hc (.sg 1 [0,3] (.kp [0,3] (.to (J (o1, o1_c) H.symm)))))
  | cons x rest ih =>
    intro i z hI hd o1 o1_c H
    subst hI
    rw [podestalaw11_PipeTexts_l0s] at H
    refine .facts 0 fun hf => ?_
    have hlen : list.length ≤ 9223372036854775807 := by have hq := len_ok hf.2.1; rw [List.length_map] at hq; exact hq
    obtain ⟨hlt, hv_i, hd2⟩ := drop_cons hd
    have hc : (decide (((i : Nat) : Int) < (((List.map strA list).length : Nat) : Int))) = true := by rw [List.length_map]; exact decide_eq_true (by omega)
    have hw : IntKind.i64.wrap (((i : Nat) : Int) + 1) = ((i + 1 : Nat) : Int) := wrapI_succ (by omega)
    refine .sg 3 [0,3,4,19] (.cdT hc (.sg 4 [0,3,4] (.rg (.sg 3 [0,3,4,22,23,24] (.xi [0,3,4,22,25] strA hv_i (.sg 1 [0,3,4,22,26] (letH H fun v1 hv H => (.ch [0,3,4,27] [0,1] (pipe_Pipe_string_Put_walk ({ ch := ⟨o1_c, o1⟩ } : Pipe_string) x v1 hv) (.sg 1 [0,3,4,28] (.dn (.cd (!v1.1) H (fun hb H => ?_) (fun hb H => ?_))))))))))))
    ·
      refine .sg 2 [2] ?_
      subst H
      obtain rfl := Jr _ rfl
      exact .ret Try.func9 hc0
    ·
      exact .sg 3 [0,3,4] (.kp [0,3,4] (.into (.cl (ih (i + 1) _ hw hd2 v1.2.ch.buf v1.2.ch.cap H))))

def podestalaw11_PipeTexts_l1s (v2 : (List ByteArray) × Pipe_string) : List ByteArray → Nat → List ByteArray → Nat → Option (Sum ((List ByteArray) × Nat) (Bool))
  | [], i1, o11, o1_c1 =>
    some (.inl (o11, o1_c1))
  | x1 :: rest, i1, o11, o1_c1 =>
    letT (pipe_Pipe_string_Get ({ ch := ⟨o1_c1, o11⟩ } : Pipe_string)) fun v3 =>
    (bif ((!v3.2.1) || (v3.1 != x1)) then
      some (.inr false)
    else
      (ixO v2.1 ((i1 : Nat) : Int)).bind fun x2 =>
      (bif (x2 != v3.1) then
        some (.inr false)
      else
        podestalaw11_PipeTexts_l1s v2 rest (i1 + 1) v3.2.2.ch.buf v3.2.2.ch.cap))
theorem podestalaw11_PipeTexts_l1_walk (list : List ByteArray) (v : Pipe_string) (v1 : (List ByteArray) × Nat) (v2 : (List ByteArray) × Pipe_string) (f_list : Bool) (r : Bool) (c0 : Ctx) (hc0 : c0.m.length = 0) (res : Sum ((List ByteArray) × Nat) (Bool)) (J : ∀ w : (List ByteArray) × Nat, res = .inl w → AX Try.prog tab podestalaw11_PipeTexts_F c0 (Rp tab.S c0 (.sc (.bool r)) []) (some ⟨[.code [1, 1, 1, 1, 1, 1, 1]], [(3, .ptr 0 0 none)], [.box 93 [.ref chanK 1], .vals (.chan w.2) (List.map strA w.1)]⟩)) (Jr : ∀ w, res = .inr w → w = r) :
    ∀ (rest : List ByteArray) (i1 : Nat) (z : Int) (hI : z = ((i1 : Nat) : Int)) (hd : list.drop i1 = rest) (o11 : List ByteArray) (o1_c1 : Nat) (H : podestalaw11_PipeTexts_l1s v2 rest i1 o11 o1_c1 = some res), AX Try.prog tab podestalaw11_PipeTexts_F c0 (Rp tab.S c0 (.sc (.bool r)) []) (some ⟨[.code [1, 1, 1, 1, 1, 1, 0, 1, 0, 0], .loop [1, 1, 1, 1, 1, 1, 0, 1, 0], .blk 2, .code [1, 1, 1, 1, 1, 1, 1]], [(0, .sl 9 (List.map strA list) f_list), (3, .ptr 0 0 none), (5, .sl 9 (List.map strA v2.1) false), (6, .sc (.int .i64 z))], [.box 93 [.ref chanK 1], .vals (.chan o1_c1) (List.map strA o11)]⟩) := by
  intro rest
  induction rest with
  | nil =>
    intro i1 z hI hd o11 o1_c1 H
    subst hI
    rw [podestalaw11_PipeTexts_l1s] at H
    refine .facts 0 fun hf => ?_
    have hlen : list.length ≤ 9223372036854775807 := by have hq := len_ok hf.2.1; rw [List.length_map] at hq; exact hq
    have hge : list.length ≤ i1 := List.drop_eq_nil_iff.1 hd
    have hc : (decide (((i1 : Nat) : Int) < (((List.map strA list).length : Nat) : Int))) = false := by rw [List.length_map]; exact decide_eq_false (by omega)
    exact .sg 3 [0,3,5,6,43] (.cdF hc (.sg 1 [3] (.kp [3] (.to (J (o11, o1_c1) (Option.some.inj H).symm)))))
  | cons x1 rest ih =>
    intro i1 z hI hd o11 o1_c1 H
    subst hI
    rw [podestalaw11_PipeTexts_l1s] at H
    refine .facts 0 fun hf => ?_
    have hlen : list.length ≤ 9223372036854775807 := by have hq := len_ok hf.2.1; rw [List.length_map] at hq; exact hq
    obtain ⟨hlt, hv_i1, hd2⟩ := drop_cons hd
    have hc : (decide (((i1 : Nat) : Int) < (((List.map strA list).length : Nat) : Int))) = true := by rw [List.length_map]; exact decide_eq_true (by omega)
    have hw : IntKind.i64.wrap (((i1 : Nat) : Int) + 1) = ((i1 + 1 : Nat) : Int) := wrapI_succ (by omega)
    refine .sg 3 [0,3,5,6,43] (.cdT hc (.sg 4 [0,3,5,6] (.rg (.sg 1 [0,3,5,6,47] (letH H fun v3 hv H => (.ch [0,3,5,6,48] [0,1] (pipe_Pipe_string_Get_walk ({ ch := ⟨o1_c1, o11⟩ } : Pipe_string) v3 hv) (.sg 5 [0,3,5,6,7,8] (.dn (.sg 1 [0,3,5,6,7,8] (.rg (.sg 3 [0,3,5,6,7,53] (.mm 53 (!v3.2.1) 7 [.pure, .pure, .pure, .pure, .pure, .pure, .pure] [0, 3, 5, 6, 7, 60] 60 (fun z => .sc (.bool (z || (v3.1 != x1)))) ?J1 (fun hb J => ?ht1) (fun hb J => ?hf1)))))))))))))
    case ht1 =>
      exact .sg 7 [0,3,5,6,7,60] (.cl J)
    case hf1 =>
      exact .sg 3 [0,3,5,6,7,53,54,55,56] (.xi [0,3,5,6,7,53,54,57] strA hv_i1 (.sg 3 [0,3,5,6,7,60] (.cl J)))
    refine .sg 1 [0,3,5,6,7,61] (.sp 61 ((!v3.2.1) || (v3.1 != x1)) H (fun hb H => ?_) (fun hb H => ?_))
    ·
      refine .sg 7 [0,3,5,6,68] (.dn (.sg 3 [2] ?_))
      obtain rfl := Option.some.inj H
      obtain rfl := Jr _ rfl
      exact .ret Try.func9 hc0
    ·
      refine .sg 2 [0,3,5,6,7,61,62,63] (bndO H fun x2 hv H => (.xi [0,3,5,6,7,61,64] strA hv (.sg 4 [0,3,5,6,68] (.dn (.cd (x2 != v3.1) H (fun hb H => ?_) (fun hb H => ?_))))))
      ·
        refine .sg 2 [2] ?_
        obtain rfl := Option.some.inj H
        obtain rfl := Jr _ rfl
        exact .ret Try.func9 hc0
      ·
        exact .sg 3 [0,3,5,6] (.kp [0,3,5,6] (.into (.cl (ih (i1 + 1) _ hw hd2 v3.2.2.ch.buf v3.2.2.ch.cap H))))

def podestalaw11_PipeTexts_raw (list : List ByteArray) : Option (Bool) :=
  (bif (decide ((((List.map strA list).length : Nat) : Int) > 100)) then
    some true
  else
    (pipe_New_string_raw 100).bind fun v =>
    sumG (fun q => some q) (podestalaw11_PipeTexts_l0s list v.ch.buf v.ch.cap) fun v1 =>
    (pipe_Pipe_string_allO ({ ch := ⟨v1.2, v1.1⟩ } : Pipe_string)).bind fun v2 =>
    (bif ((((List.map strA v2.1).length : Nat) : Int) != (((List.map strA list).length : Nat) : Int)) then
      some false
    else
      loopO (podestalaw11_PipeTexts_l1s v2 list 0 v2.2.ch.buf v2.2.ch.cap) fun v3 =>
      letT (pipe_Pipe_string_Get ({ ch := ⟨v3.2, v3.1⟩ } : Pipe_string)) fun v4 =>
      (bif (!v4.2.1) then
        letT (pipe_Pipe_string_Len v4.2.2) fun v5 =>
        some (v5.1 == 0)
      else
        some false)))
theorem podestalaw11_PipeTexts_walk (list : List ByteArray) (f_list : Bool) (r : Bool) (H : podestalaw11_PipeTexts_raw list = some r) : ACalls Try.prog tab.S 9 [.sl 9 (List.map strA list) f_list] [] (.sc (.bool r)) [] := by
  refine .of_AX podestalaw11_PipeTexts_F Try.func9 fun c0 hc0 => ?_
  rw [podestalaw11_PipeTexts_raw] at H
  refine .sg 5 [0,13] (.cd (decide ((((List.map strA list).length : Nat) : Int) > 100)) H (fun hb H => ?_) (fun hb H => ?_))
  ·
    refine .sg 1 [] (.rg (.cp [14] (podestalaw11_answers_ok) (.sg 1 [2] (.dn ?_))))
    obtain rfl := Option.some.inj H
    exact .ret Try.func9 hc0
  ·
    refine .sg 2 [0] (.rg (bndO H fun v hv H => (.ch [0,15] [] (pipe_New_string_walk 100 v hv) (.sg 1 [0,3] (.dn (.sg 4 [0,3,4] ?_))))))
    rcases sumG_eq H with ⟨v1, hv, H⟩ | ⟨r1, hv, hr1⟩
    case inr =>
      refine .into ?_
      obtain rfl := Option.some.inj hr1
      exact .to (podestalaw11_PipeTexts_l0_walk list v f_list _ c0 hc0 (.inr _) (fun _ e => by cases e) (fun _ e => (Sum.inr.inj e).symm) list 0 _ rfl rfl v.ch.buf v.ch.cap hv)
    refine .into (.to (podestalaw11_PipeTexts_l0_walk list v f_list r c0 hc0 (.inl v1) (fun w e => ?_) (fun _ e => by cases e) list 0 _ rfl rfl v.ch.buf v.ch.cap hv))
    have e := Sum.inl.inj e
    subst e
    refine .sg 1 [0,3] (.rg (.sg 1 [0,3,29] (bndO H fun v2 hv H => (.ch [0,3,30] [0,1] (pipe_Pipe_string_All_ok ({ ch := ⟨v1.2, v1.1⟩ } : Pipe_string) v2 hv) (.sg 1 [0,3,5] (.dn (.sg 2 [0,3,5] (.rg (.cp [0,3,5,31] (podestalaw11_answers_ok) (.sg 8 [0,3,5,39] (.dn (.cd ((((List.map strA v2.1).length : Nat) : Int) != (((List.map strA list).length : Nat) : Int)) H (fun hb H => ?_) (fun hb H => ?_)))))))))))))
    ·
      refine .sg 2 [2] ?_
      obtain rfl := Option.some.inj H
      exact .ret Try.func9 hc0
    ·
      refine .sg 5 [0,3,5,6] ?_
      rcases loopO_some H with ⟨v3, hv, H⟩ | hv
      case inr =>
        exact .into (.to (podestalaw11_PipeTexts_l1_walk list v v1 v2 f_list _ c0 hc0 (.inr _) (fun _ e => by cases e) (fun _ e => (Sum.inr.inj e).symm) list 0 _ rfl rfl v2.2.ch.buf v2.2.ch.cap hv))
      refine .into (.to (podestalaw11_PipeTexts_l1_walk list v v1 v2 f_list r c0 hc0 (.inl v3) (fun w e => ?_) (fun _ e => by cases e) list 0 _ rfl rfl v2.2.ch.buf v2.2.ch.cap hv))
      have e := Sum.inl.inj e
      subst e
      refine .sg 1 [3] (.rg (.sg 1 [3,70] (letH H fun v4 hv H => (.ch [3,71] [0,1] (pipe_Pipe_string_Get_walk ({ ch := ⟨v3.2, v3.1⟩ } : Pipe_string) v4 hv) (.sg 5 [3,10] (.dn (.sg 1 [3,10] (.rg (.sg 3 [3,76] (.sp 76 (!v4.2.1) H (fun hb H => ?_) (fun hb H => ?_)))))))))))
      ·
        refine .sg 1 [76,77] (letH H fun v5 hv H => (.ch [76,78] [0,1] (pipe_Pipe_string_Len_walk v4.2.2 v5 hv) (.sg 3 [2] (.dn ?_))))
        obtain rfl := Option.some.inj H
        exact .ret Try.func9 hc0
      ·
        refine .sg 5 [2] (.dn ?_)
        obtain rfl := Option.some.inj H
        exact .ret Try.func9 hc0

end Go.Proofs.Ytjchejmakdkioaa

set_option linter.unusedVariables false
set_option linter.unusedSimpArgs false
set_option maxRecDepth 100000
set_option maxHeartbeats 4000000
namespace Go.Proofs.Ytjchejmakdkioaa
open Go.Sh
theorem PipeTexts_l0 : ∀ (l a : List ByteArray), a.length + l.length ≤ 100 → podestalaw11_PipeTexts_l0s l a 100 = .inl (a ++ l, 100)
  | [], a, _ => by simp [podestalaw11_PipeTexts_l0s]
  | x :: l, a, h => by
    simp only [List.length_cons] at h
    rw [podestalaw11_PipeTexts_l0s, pipe_Pipe_string_Put_lt _ _ (by simp only; omega)]
    simp only [letT, Bool.not_true, cond_false]
    rw [PipeTexts_l0 l (a ++ [x]) (by simp; omega)]
    simp
theorem PipeTexts_l1 (v2 : List ByteArray × Pipe_string) (l : List ByteArray) (hv : v2.1 = l) : ∀ (r : List ByteArray) (i : Nat), l.drop i = r → podestalaw11_PipeTexts_l1s v2 r i r 100 = some (.inl ([], 100))
  | [], i, _ => rfl
  | x :: r, i, h => by
    obtain ⟨h1, h2, h3⟩ := drop_cons h
    rw [podestalaw11_PipeTexts_l1s]
    simp only [letT, pipe_Pipe_string_Get_cons, hv, h2, Option.bind_some]
    have hx : (x != x) = false := by rw [bne, ← beq_bytes]; simp
    have := PipeTexts_l1 v2 l hv r (i + 1) h3
    simpa [hx] using this
theorem PipeTexts_true (x0 : List ByteArray) (w0 : ∀ y ∈ x0, True) (l0 : x0.length * 16 ≤ 140737488355328) : podestalaw11_PipeTexts_raw x0 = some true := by
  unfold podestalaw11_PipeTexts_raw
  cases hd : decide ((((List.map strA x0).length : Nat) : Int) > 100) with
  | true => rfl
  | false =>
    have hl : x0.length ≤ 100 := by
      have := of_decide_eq_false hd
      rw [List.length_map] at this
      omega
    have h : pipe_New_string_raw 100 = some ⟨⟨100, []⟩⟩ := by kernel_rfl
    have ha : pipe_Pipe_string_allO ⟨⟨100, x0⟩⟩ = some (x0, ⟨⟨100, x0⟩⟩) := by
      unfold pipe_Pipe_string_allO
      rw [if_pos (by simp only; omega)]
    rw [cond_false, h, Option.bind_some, PipeTexts_l0 x0 [] (by simpa using hl)]
    simp only [sumG, List.nil_append, ha, Option.bind_some, List.length_map, bne_self_eq_false, cond_false]
    rw [PipeTexts_l1 (x0, ⟨⟨100, x0⟩⟩) x0 rfl x0 0 rfl]
    rfl

end Go.Proofs.Ytjchejmakdkioaa
