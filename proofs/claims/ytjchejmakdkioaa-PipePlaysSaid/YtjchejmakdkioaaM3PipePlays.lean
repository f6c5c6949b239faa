import Derived.Test.YtjchejmakdkioaaProg
import Derived.Test.YtjchejmakdkioaaM2PipePlays
set_option linter.unusedVariables false
set_option linter.unusedSimpArgs false
set_option maxRecDepth 100000
set_option maxHeartbeats 4000000
namespace Go.Proofs.Ytjchejmakdkioaa
open Go.Sh
def tab : Go.Sh.Tab := [
  (1, ⟨.other, 1, 8, [.sc .nilFunc]⟩),
  (2, ⟨.int .i64, 1, 8, [.sc (.int .i64 0)]⟩),
  (3, ⟨.int .i64, 1, 8, [.sc (.int .i64 0)]⟩),
  (4, ⟨.bool, 1, 1, [.sc (.bool false)]⟩),
  (5, ⟨.int .u8, 1, 1, [.sc (.int .u8 0)]⟩),
  (9, ⟨.str, 1, 16, [.sc (.string ⟨#[]⟩)]⟩),
  (12, ⟨.int .u64, 1, 8, [.sc (.int .u64 0)]⟩),
  (13, ⟨.struct [(0, 9), (1, 12)], 2, 24, [.sc (.string ⟨#[]⟩), .sc (.int .u64 0)]⟩),
  (21, ⟨.int .i32, 1, 4, [.sc (.int .i32 0)]⟩),
  (22, ⟨.struct [(0, 3), (1, 3)], 2, 16, [.sc (.int .i64 0), .sc (.int .i64 0)]⟩),
  (23, ⟨.struct [(0, 3), (1, 3)], 2, 16, [.sc (.int .i64 0), .sc (.int .i64 0)]⟩),
  (25, ⟨.other, 1, 8, [.sc .nilFunc]⟩),
  (26, ⟨.other, 1, 8, [.sc .nilFunc]⟩),
  (27, ⟨.other, 1, 8, [.sc .nilFunc]⟩),
  (28, ⟨.other, 1, 8, [.sc .nilFunc]⟩),
  (29, ⟨.other, 1, 8, [.sc .nilFunc]⟩),
  (30, ⟨.other, 1, 8, [.sc .nilFunc]⟩),
  (31, ⟨.slice 3, 1, 24, [.sl 0 [] true]⟩),
  (32, ⟨.ptr 83, 1, 8, [.sc (.pointer none)]⟩),
  (33, ⟨.other, 1, 8, [.sc .nilFunc]⟩),
  (34, ⟨.other, 1, 8, [.sc .nilFunc]⟩),
  (35, ⟨.other, 1, 8, [.sc .nilFunc]⟩),
  (37, ⟨.other, 1, 8, [.sc .nilFunc]⟩),
  (38, ⟨.other, 1, 8, [.sc .nilFunc]⟩),
  (39, ⟨.slice 88, 1, 24, [.sl 0 [] true]⟩),
  (40, ⟨.other, 1, 8, [.sc .nilFunc]⟩),
  (41, ⟨.other, 1, 8, [.sc .nilFunc]⟩),
  (42, ⟨.other, 1, 8, [.sc .nilFunc]⟩),
  (43, ⟨.other, 1, 8, [.sc .nilFunc]⟩),
  (44, ⟨.slice 9, 1, 24, [.sl 0 [] true]⟩),
  (45, ⟨.ptr 93, 1, 8, [.sc (.pointer none)]⟩),
  (46, ⟨.other, 1, 8, [.sc .nilFunc]⟩),
  (47, ⟨.other, 1, 8, [.sc .nilFunc]⟩),
  (48, ⟨.other, 1, 8, [.sc .nilFunc]⟩),
  (50, ⟨.other, 1, 8, [.sc .nilFunc]⟩),
  (51, ⟨.other, 1, 8, [.sc .nilFunc]⟩),
  (52, ⟨.slice 66, 1, 24, [.sl 0 [] true]⟩),
  (54, ⟨.other, 1, 8, [.sc .nilFunc]⟩),
  (55, ⟨.other, 1, 8, [.sc .nilFunc]⟩),
  (56, ⟨.other, 1, 8, [.sc .nilFunc]⟩),
  (57, ⟨.int .u16, 1, 2, [.sc (.int .u16 0)]⟩),
  (58, ⟨.other, 1, 8, [.sc .nilFunc]⟩),
  (59, ⟨.int .u64, 1, 8, [.sc (.int .u64 0)]⟩),
  (60, ⟨.arr 12 59, 12, 96, [.arr .u64 12 [0, 0, 0, 0, 0, 0, 0, 0, 0, 0, 0, 0]]⟩),
  (61, ⟨.arr 12 59, 12, 96, [.arr .u64 12 [0, 0, 0, 0, 0, 0, 0, 0, 0, 0, 0, 0]]⟩),
  (62, ⟨.struct [(0, 61), (12, 61)], 24, 192, [.arr .u64 12 [0, 0, 0, 0, 0, 0, 0, 0, 0, 0, 0, 0], .arr .u64 12 [0, 0, 0, 0, 0, 0, 0, 0, 0, 0, 0, 0]]⟩),
  (63, ⟨.struct [(0, 61), (12, 61)], 24, 192, [.arr .u64 12 [0, 0, 0, 0, 0, 0, 0, 0, 0, 0, 0, 0], .arr .u64 12 [0, 0, 0, 0, 0, 0, 0, 0, 0, 0, 0, 0]]⟩),
  (64, ⟨.slice 110, 1, 24, [.sl 0 [] true]⟩),
  (65, ⟨.struct [(0, 63), (24, 3), (25, 64), (26, 3), (27, 3), (28, 3), (29, 3), (30, 3), (31, 3)], 32, 272, [.arr .u64 12 [0, 0, 0, 0, 0, 0, 0, 0, 0, 0, 0, 0], .arr .u64 12 [0, 0, 0, 0, 0, 0, 0, 0, 0, 0, 0, 0], .sc (.int .i64 0), .sl 0 [] true, .sc (.int .i64 0), .sc (.int .i64 0), .sc (.int .i64 0), .sc (.int .i64 0), .sc (.int .i64 0), .sc (.int .i64 0)]⟩),
  (66, ⟨.struct [(0, 63), (24, 3), (25, 64), (26, 3), (27, 3), (28, 3), (29, 3), (30, 3), (31, 3)], 32, 272, [.arr .u64 12 [0, 0, 0, 0, 0, 0, 0, 0, 0, 0, 0, 0], .arr .u64 12 [0, 0, 0, 0, 0, 0, 0, 0, 0, 0, 0, 0], .sc (.int .i64 0), .sl 0 [] true, .sc (.int .i64 0), .sc (.int .i64 0), .sc (.int .i64 0), .sc (.int .i64 0), .sc (.int .i64 0), .sc (.int .i64 0)]⟩),
  (67, ⟨.other, 1, 8, [.sc .nilFunc]⟩),
  (68, ⟨.other, 1, 8, [.sc .nilFunc]⟩),
  (69, ⟨.slice 99, 1, 24, [.sl 0 [] true]⟩),
  (70, ⟨.struct [(0, 3), (1, 3), (2, 3), (3, 69)], 4, 48, [.sc (.int .i64 0), .sc (.int .i64 0), .sc (.int .i64 0), .sl 0 [] true]⟩),
  (71, ⟨.struct [(0, 3), (1, 3), (2, 3), (3, 69)], 4, 48, [.sc (.int .i64 0), .sc (.int .i64 0), .sc (.int .i64 0), .sl 0 [] true]⟩),
  (72, ⟨.struct [(0, 3), (1, 3)], 2, 16, [.sc (.int .i64 0), .sc (.int .i64 0)]⟩),
  (73, ⟨.struct [(0, 3), (1, 3)], 2, 16, [.sc (.int .i64 0), .sc (.int .i64 0)]⟩),
  (75, ⟨.other, 1, 8, [.sc .nilFunc]⟩),
  (76, ⟨.int .i64, 1, 8, [.sc (.int .i64 0)]⟩),
  (77, ⟨.other, 1, 8, [.sc .nilFunc]⟩),
  (78, ⟨.slice 73, 1, 24, [.sl 0 [] true]⟩),
  (79, ⟨.other, 1, 8, [.sc .nilFunc]⟩),
  (80, ⟨.other, 1, 8, [.sc .nilFunc]⟩),
  (81, ⟨.other, 1, 8, [.sc (.chan none)]⟩),
  (82, ⟨.struct [(0, 81)], 1, 8, [.sc (.chan none)]⟩),
  (83, ⟨.struct [(0, 81)], 1, 8, [.sc (.chan none)]⟩),
  (84, ⟨.other, 1, 8, [.sc .nilFunc]⟩),
  (85, ⟨.struct [(0, 3), (1, 63), (25, 3), (26, 64), (27, 3), (28, 3), (29, 3), (30, 4)], 31, 264, [.sc (.int .i64 0), .arr .u64 12 [0, 0, 0, 0, 0, 0, 0, 0, 0, 0, 0, 0], .arr .u64 12 [0, 0, 0, 0, 0, 0, 0, 0, 0, 0, 0, 0], .sc (.int .i64 0), .sl 0 [] true, .sc (.int .i64 0), .sc (.int .i64 0), .sc (.int .i64 0), .sc (.bool false)]⟩),
  (86, ⟨.struct [(0, 3), (1, 63), (25, 3), (26, 64), (27, 3), (28, 3), (29, 3), (30, 4)], 31, 264, [.sc (.int .i64 0), .arr .u64 12 [0, 0, 0, 0, 0, 0, 0, 0, 0, 0, 0, 0], .arr .u64 12 [0, 0, 0, 0, 0, 0, 0, 0, 0, 0, 0, 0], .sc (.int .i64 0), .sl 0 [] true, .sc (.int .i64 0), .sc (.int .i64 0), .sc (.int .i64 0), .sc (.bool false)]⟩),
  (87, ⟨.struct [(0, 3), (1, 86)], 32, 272, [.sc (.int .i64 0), .sc (.int .i64 0), .arr .u64 12 [0, 0, 0, 0, 0, 0, 0, 0, 0, 0, 0, 0], .arr .u64 12 [0, 0, 0, 0, 0, 0, 0, 0, 0, 0, 0, 0], .sc (.int .i64 0), .sl 0 [] true, .sc (.int .i64 0), .sc (.int .i64 0), .sc (.int .i64 0), .sc (.bool false)]⟩),
  (88, ⟨.struct [(0, 3), (1, 86)], 32, 272, [.sc (.int .i64 0), .sc (.int .i64 0), .arr .u64 12 [0, 0, 0, 0, 0, 0, 0, 0, 0, 0, 0, 0], .arr .u64 12 [0, 0, 0, 0, 0, 0, 0, 0, 0, 0, 0, 0], .sc (.int .i64 0), .sl 0 [] true, .sc (.int .i64 0), .sc (.int .i64 0), .sc (.int .i64 0), .sc (.bool false)]⟩),
  (89, ⟨.other, 1, 8, [.sc .nilFunc]⟩),
  (90, ⟨.other, 1, 8, [.sc .nilFunc]⟩),
  (91, ⟨.other, 1, 8, [.sc (.chan none)]⟩),
  (92, ⟨.struct [(0, 91)], 1, 8, [.sc (.chan none)]⟩),
  (93, ⟨.struct [(0, 91)], 1, 8, [.sc (.chan none)]⟩),
  (94, ⟨.other, 1, 8, [.sc .nilFunc]⟩),
  (95, ⟨.other, 1, 8, [.sc .nilFunc]⟩),
  (96, ⟨.other, 1, 8, [.sc .nilFunc]⟩),
  (97, ⟨.other, 1, 8, [.sc .nilFunc]⟩),
  (98, ⟨.struct [(0, 73), (2, 73)], 4, 32, [.sc (.int .i64 0), .sc (.int .i64 0), .sc (.int .i64 0), .sc (.int .i64 0)]⟩),
  (99, ⟨.struct [(0, 73), (2, 73)], 4, 32, [.sc (.int .i64 0), .sc (.int .i64 0), .sc (.int .i64 0), .sc (.int .i64 0)]⟩),
  (100, ⟨.other, 1, 8, [.sc .nilFunc]⟩),
  (101, ⟨.other, 1, 8, [.sc (.map none)]⟩),
  (102, ⟨.other, 1, 8, [.sc .nilFunc]⟩),
  (103, ⟨.other, 1, 8, [.sc .nilFunc]⟩),
  (104, ⟨.other, 1, 8, [.sc .nilFunc]⟩),
  (105, ⟨.other, 1, 8, [.sc .nilFunc]⟩),
  (106, ⟨.other, 1, 8, [.sc .nilFunc]⟩),
  (107, ⟨.other, 1, 8, [.sc .nilFunc]⟩),
  (108, ⟨.other, 1, 8, [.sc .nilFunc]⟩),
  (109, ⟨.struct [(0, 3), (1, 3), (2, 3), (3, 59)], 4, 32, [.sc (.int .i64 0), .sc (.int .i64 0), .sc (.int .i64 0), .sc (.int .u64 0)]⟩),
  (110, ⟨.struct [(0, 3), (1, 3), (2, 3), (3, 59)], 4, 32, [.sc (.int .i64 0), .sc (.int .i64 0), .sc (.int .i64 0), .sc (.int .u64 0)]⟩),
  (111, ⟨.other, 1, 8, [.sc .nilFunc]⟩),
  (112, ⟨.other, 1, 8, [.sc .nilFunc]⟩),
  (113, ⟨.other, 1, 8, [.sc .nilFunc]⟩),
  (114, ⟨.slice 5, 1, 24, [.sl 0 [] true]⟩),
  (115, ⟨.other, 1, 8, [.sc .nilFunc]⟩),
  (116, ⟨.slice 4, 1, 24, [.sl 0 [] true]⟩),
  (117, ⟨.other, 1, 8, [.sc .nilFunc]⟩),
  (118, ⟨.int .u64, 1, 8, [.sc (.int .u64 0)]⟩),
  (119, ⟨.other, 1, 8, [.sc .nilFunc]⟩),
  (125, ⟨.int .u32, 1, 4, [.sc (.int .u32 0)]⟩),
  (128, ⟨.other, 1, 8, [.sc .nilFunc]⟩),
  (129, ⟨.ptr 5, 1, 8, [.sc (.pointer none)]⟩)]

theorem tab_ok : tab.ok Try.prog := Tab.ok_of (by kernel_rfl)
theorem mixed : Try.prog.follows .mixedOrders = true := by kernel_rfl
end Go.Proofs.Ytjchejmakdkioaa

set_option linter.unusedVariables false
set_option linter.unusedSimpArgs false
set_option maxRecDepth 100000
set_option maxHeartbeats 4000000
namespace Go.Proofs.Ytjchejmakdkioaa
open Go.Sh
instance : Ok Try.prog tab := ⟨tab_ok, mixed⟩
theorem wrap_eq {n : Int} (h1 : -9223372036854775808 ≤ n) (h2 : n ≤ 9223372036854775807) : IntKind.i64.wrap n = n := by
  rw [IntKind.wrap_i64]; omega
theorem wrap_succ {i : Nat} (h : i < 9223372036854775807) : IntKind.i64.wrap ((i : Int) + 1) = ((i + 1 : Nat) : Int) := by
  rw [wrap_eq (by omega) (by omega)]; rfl
theorem ixO_lt {α : Type} {xs : List α} {i : Nat} (h : i < xs.length) : ixO xs (i : Int) = some xs[i] := by
  unfold ixO
  rw [if_pos (by omega), Int.toNat_natCast, List.getElem?_eq_getElem h]
theorem fitO_eq {α : Type} {n b : Nat} {r : Option α} (h : n * b ≤ 140737488355328) : fitO n b r = r := by
  unfold fitO; rw [if_pos h]
theorem reqO_eq {α : Type} {b : Bool} {r : Option α} (h : b = true) : reqO b r = r := by
  subst h; rfl
theorem zero_nat : (0 : Int) = ((0 : Nat) : Int) := rfl
def idxF {α : Type} (f : α → Bool) (l : List α) : Int := match l.findIdx? f with | some i => (i : Int) | none => -1
theorem idxF_any {α : Type} (f : α → Bool) (l : List α) : decide (idxF f l ≥ 0) = l.any f := by
  unfold idxF
  cases h : l.findIdx? f with
  | none =>
    have : l.any f = false := by
      rw [Bool.eq_false_iff]
      intro ha
      obtain ⟨x, hx, hf⟩ := List.any_eq_true.1 ha
      have := List.findIdx?_eq_none_iff.1 h x hx
      rw [hf] at this
      cases this
    rw [this]
    rfl
  | some i =>
    have : l.any f = true := by
      obtain ⟨hlt, hp, _⟩ := List.findIdx?_eq_some_iff_getElem.1 h
      exact List.any_eq_true.2 ⟨l[i], List.getElem_mem hlt, hp⟩
    rw [this]
    simp
theorem findIdx_drop {α : Type} (f : α → Bool) {l : List α} {i : Nat} (h : i < l.length) : (l.drop i).findIdx? f = if f l[i] then some 0 else ((l.drop (i + 1)).findIdx? f).map (· + 1) := by
  rw [List.drop_eq_getElem_cons h, List.findIdx?_cons]
def zipAll {α β : Type} (f : α → β → Bool) : List α → List β → Bool
  | [], [] => true
  | x :: l, y :: r => f x y && zipAll f l r
  | _, _ => false
theorem zipAll_beq {α : Type} [DecidableEq α] : ∀ (l r : List α), zipAll (fun x y => x == y) l r = (l == r)
  | [], [] => rfl
  | x :: l, y :: r => by
      rw [zipAll, zipAll_beq l r]
      rfl
  | [], _ :: _ => rfl
  | _ :: _, [] => rfl
theorem zipAll_len {α β : Type} {f : α → β → Bool} : ∀ {l : List α} {r : List β}, zipAll f l r = true → l.length = r.length
  | [], [], _ => rfl
  | x :: l, y :: r, h => by
      rw [zipAll, Bool.and_eq_true] at h
      rw [List.length_cons, List.length_cons, zipAll_len h.2]
  | [], _ :: _, h => by cases h
  | _ :: _, [], h => by cases h
/-- two lists side by side -/
theorem cmp_loop {α β ε ρ : Type} {e : ε} {v : ρ} (L : List α → Nat → Option (Sum ε ρ)) (s2 : List β) (f : α → β → Bool) (h0 : ∀ i, L [] i = some (.inl e)) (h1 : ∀ x rest i, L (x :: rest) i = (ixO s2 ((i : Nat) : Int)).bind fun x1 => bif (!(f x x1)) then some (.inr v) else L rest (i + 1)) :
    ∀ (l : List α) (i : Nat), l.length + i = s2.length → L l i = some (if zipAll f l (s2.drop i) then .inl e else .inr v)
  | [], i, q => by
      rw [h0, List.drop_eq_nil_of_le (by simp at q; omega)]
      rfl
  | x :: l, i, q => by
      have hlt : i < s2.length := by simp at q; omega
      rw [h1, ixO_lt hlt, Option.bind_some, cmp_loop L s2 f h0 h1 l (i + 1) (by simp at q; omega), List.drop_eq_getElem_cons hlt, zipAll]
      cases f x s2[i]
      · rfl
      · simp only [Bool.not_true, cond_false, Bool.true_and]
theorem len_bne {α β : Type} (f : α → AV) (g : β → AV) (a : List α) (b : List β) : ((((List.map f a).length : Nat) : Int) != (((List.map g b).length : Nat) : Int)) = !decide (a.length = b.length) := by
  rw [List.length_map, List.length_map]
  by_cases h : a.length = b.length
  · rw [h]; simp
  · simp [h]; omega
theorem nil_app {α : Type} (l : List α) : ([] : List α) ++ l = l := rfl
theorem zipAll_refl {α : Type} {f : α → α → Bool} : ∀ {l : List α}, (∀ x ∈ l, f x x = true) → zipAll f l l = true
  | [], _ => rfl
  | x :: l, h => by
      rw [zipAll, h x (by simp), zipAll_refl fun y hy => h y (by simp [hy])]
      rfl

end Go.Proofs.Ytjchejmakdkioaa

set_option linter.unusedVariables false
set_option linter.unusedSimpArgs false
set_option maxRecDepth 100000
set_option maxHeartbeats 4000000
namespace Go.Proofs.Ytjchejmakdkioaa
open Go.Sh
structure Pipe_int where
  ch : Ch Int
  deriving DecidableEq, Inhabited
structure Pipe_string where
  ch : Ch ByteArray
  deriving DecidableEq, Inhabited
/-! ### pipe.New: function 20 -/
noncomputable def pipe_New_int_F : Go.Sh.Fn := ⟨20, bodyOf Try.f20, 9⟩
def pipe_New_int_raw (most : Int) : Option (Pipe_int) :=
  reqO (decide (0 ≤ (if 4096 < (if 0 > most then 0 else most) then 4096 else (if 0 > most then 0 else most))) && decide ((if 4096 < (if 0 > most then 0 else most) then 4096 else (if 0 > most then 0 else most)) ≤ 9223372036854775807) && decide ((if 4096 < (if 0 > most then 0 else most) then 4096 else (if 0 > most then 0 else most)) * 8 ≤ 281474976710544)) (
  some ({ ch := ⟨(if 4096 < (if 0 > most then 0 else most) then 4096 else (if 0 > most then 0 else most)).toNat, ([] : List Int)⟩ } : Pipe_int))
theorem pipe_New_int_walk (most : Int) (r : Pipe_int) (H : pipe_New_int_raw most = some r) : ACalls Try.prog tab.S 20 [.sc (.int .i64 most)] [] (.ptr 0 0 none) [.box 83 [.ref chanK 1], .vals (.chan r.ch.cap) (List.map (intA .i64) r.ch.buf)] := by
  refine .of_AX pipe_New_int_F Try.func20 fun c0 hc0 => ?_
  rw [pipe_New_int_raw] at H
  refine .sg 3 [0] (.rg (.sg 3 [5] (reqH H fun hreq H => (.mc [6] (j := (if 4096 < (if 0 > most then 0 else most) then 4096 else (if 0 > most then 0 else most))) (by_ := 8) hreq (.sg 3 [2] (.dn ?_))))))
  obtain rfl := Option.some.inj H
  exact .ret Try.func20 hc0 [1,0]

/-! ### (*podesta/pipe.Pipe: function 21 -/
noncomputable def pipe_Pipe_int_Put_F : Go.Sh.Fn := ⟨21, bodyOf Try.f21, 15⟩
def pipe_Pipe_int_Put (p : Pipe_int) (x : Int) : Bool × Pipe_int :=
  (bif ((bif (decide (p.ch.buf.length < p.ch.cap)) then 0 else (-1)) == 0) then
    (true, ({ ch := ⟨p.ch.cap, (bif (decide (p.ch.buf.length < p.ch.cap)) then p.ch.buf ++ [x] else p.ch.buf)⟩ } : Pipe_int))
  else
    (false, ({ ch := ⟨p.ch.cap, (bif (decide (p.ch.buf.length < p.ch.cap)) then p.ch.buf ++ [x] else p.ch.buf)⟩ } : Pipe_int)))
theorem pipe_Pipe_int_Put_walk (p : Pipe_int) (x : Int) (r : Bool × Pipe_int) (H : pipe_Pipe_int_Put p x = r) : ACalls Try.prog tab.S 21 [.ptr 0 0 none, .sc (.int .i64 x)] [.box 83 [.ref chanK 1], .vals (.chan p.ch.cap) (List.map (intA .i64) p.ch.buf)] (.sc (.bool r.1)) [.box 83 [.ref chanK 1], .vals (.chan r.2.ch.cap) (List.map (intA .i64) r.2.ch.buf)] := by
  refine .of_AX pipe_Pipe_int_Put_F Try.func21 fun c0 hc0 => ?_
  rw [pipe_Pipe_int_Put] at H
  refine .sg 12 [10,11] (.snd (intA .i64) p.ch.buf p.ch.cap x (.sg 2 [14] (.dn (.sg 1 [14] (.cd ((bif (decide (p.ch.buf.length < p.ch.cap)) then 0 else (-1)) == 0) H (fun hb H => ?_) (fun hb H => ?_))))))
  ·
    refine .sg 2 [4] ?_
    subst H
    exact .ret Try.func21 hc0 [0,1]
  ·
    refine .sg 2 [4] ?_
    subst H
    exact .ret Try.func21 hc0 [0,1]

/-! ### (*podesta/pipe.Pipe: function 23 -/
noncomputable def pipe_Pipe_int_Get_F : Go.Sh.Fn := ⟨23, bodyOf Try.f23, 19⟩
def pipe_Pipe_int_Get (p : Pipe_int) : Int × Bool × Pipe_int :=
  (bif ((bif p.ch.buf.isEmpty then (-1) else 0) == 0) then
    ((p.ch.buf.headD 0), true, ({ ch := ⟨p.ch.cap, p.ch.buf.tail⟩ } : Pipe_int))
  else
    (0, false, ({ ch := ⟨p.ch.cap, p.ch.buf.tail⟩ } : Pipe_int)))
theorem pipe_Pipe_int_Get_walk (p : Pipe_int) (r : Int × Bool × Pipe_int) (H : pipe_Pipe_int_Get p = r) : ACalls Try.prog tab.S 23 [.ptr 0 0 none] [.box 83 [.ref chanK 1], .vals (.chan p.ch.cap) (List.map (intA .i64) p.ch.buf)] (.tup [.sc (.int .i64 r.1), .sc (.bool r.2.1)]) [.box 83 [.ref chanK 1], .vals (.chan r.2.2.ch.cap) (List.map (intA .i64) r.2.2.ch.buf)] := by
  refine .of_AX pipe_Pipe_int_Get_F Try.func23 fun c0 hc0 => ?_
  rw [pipe_Pipe_int_Get] at H
  refine .sg 12 [4,12] (.rcv (intA .i64) p.ch.buf 0 (fun _ => rfl) (.sg 2 [4,13,15] (.dn (.sg 1 [4,13,15] (.cd ((bif p.ch.buf.isEmpty then (-1) else 0) == 0) H (fun hb H => ?_) (fun hb H => ?_))))))
  ·
    refine .sg 4 [2,3] ?_
    subst H
    exact .ret Try.func23 hc0 [0,1]
  ·
    refine .sg 2 [2,3] ?_
    subst H
    exact .ret Try.func23 hc0 [0,1]

/-! ### (*podesta/pipe.Pipe: function 22 -/
noncomputable def pipe_Pipe_int_Len_F : Go.Sh.Fn := ⟨22, bodyOf Try.f22, 10⟩
def pipe_Pipe_int_Len (p : Pipe_int) : Int × Pipe_int :=
  ((((List.map (intA .i64) p.ch.buf).length : Nat) : Int), p)
theorem pipe_Pipe_int_Len_walk (p : Pipe_int) (r : Int × Pipe_int) (H : pipe_Pipe_int_Len p = r) : ACalls Try.prog tab.S 22 [.ptr 0 0 none] [.box 83 [.ref chanK 1], .vals (.chan p.ch.cap) (List.map (intA .i64) p.ch.buf)] (.sc (.int .i64 r.1)) [.box 83 [.ref chanK 1], .vals (.chan r.2.ch.cap) (List.map (intA .i64) r.2.ch.buf)] := by
  refine .of_AX pipe_Pipe_int_Len_F Try.func22 fun c0 hc0 => ?_
  rw [pipe_Pipe_int_Len] at H
  refine .sg 8 [0] (.rg (.sg 4 [8] (.lc [9] (.sg 1 [2] (.dn ?_)))))
  subst H
  exact .ret Try.func22 hc0 [0,1]

/-! ### (*podesta/pipe.Pipe: function 27 -/
noncomputable def pipe_Pipe_int_All_F : Go.Sh.Fn := ⟨27, bodyOf Try.f27, 24⟩
def pipe_Pipe_int_All_l0 (v : Int × Pipe_int) : Nat → Int → List Int → Nat → List Int → Option ((List Int) × Nat × (List Int))
  | 0, _, _, _, _ => none
  | m + 1, t8, o1, o1_c, out =>
    (bif (decide (t8 < v.1)) then
    letT (pipe_Pipe_int_Get ({ ch := ⟨o1_c, o1⟩ } : Pipe_int)) fun v1 =>
    fitO (out.length + [v1.1].length) 8 (
    letT (pipe_Pipe_int_Put v1.2.2 v1.1) fun v2 =>
    pipe_Pipe_int_All_l0 v m (IntKind.i64.wrap (t8 + 1)) v2.2.ch.buf v2.2.ch.cap (out ++ [v1.1]))
  else
    some (o1, o1_c, out))
theorem pipe_Pipe_int_All_l0_walk (q0 : Nat) (p : Pipe_int) (v : Int × Pipe_int)  (r : (List Int) × Pipe_int) (c0 : Ctx) (hc0 : c0.m.length = 2) (res : (List Int) × Nat × (List Int)) (J : AX Try.prog tab pipe_Pipe_int_All_F c0 (Rp tab.S c0 (.sl 3 (List.map (intA .i64) r.1) false) [.box 83 [.ref chanK 1], .vals (.chan r.2.ch.cap) (List.map (intA .i64) r.2.ch.buf)]) (some ⟨[.code [1, 1, 1]], [(3, .own 2 1000000)], [.box 83 [.ref chanK 1], .vals (.chan res.2.1) (List.map (intA .i64) res.1), .row 3 (List.map (intA .i64) res.2.2) 1000000 true]⟩)) :
    ∀ (m : Nat) (t8 : Int) (o1 : List Int) (o1_c : Nat) (out : List Int) (H : pipe_Pipe_int_All_l0 v m t8 o1 o1_c out = some res), AX Try.prog tab pipe_Pipe_int_All_F c0 (Rp tab.S c0 (.sl 3 (List.map (intA .i64) r.1) false) [.box 83 [.ref chanK 1], .vals (.chan r.2.ch.cap) (List.map (intA .i64) r.2.ch.buf)]) (some ⟨[.code [1, 1, 0, 1, 0, 0], .loop [1, 1, 0, 1, 0], .blk 0, .code [1, 1, 1]], [(0, .ptr 0 0 none), (3, .own 2 1000000), (7, .sc (.int .i64 v.1)), (8, .sc (.int .i64 t8))], [.box 83 [.ref chanK 1], .vals (.chan o1_c) (List.map (intA .i64) o1), .row 3 (List.map (intA .i64) out) 1000000 true]⟩) := by
  intro m
  induction m with
  | zero => intro t8 o1 o1_c out H; cases H
  | succ m ih =>
    intro t8 o1 o1_c out H
    rw [pipe_Pipe_int_All_l0] at H
    refine .sg 3 [0,3,7,8,9] (.cd (decide (t8 < v.1)) H (fun hb H => ?_) (fun hb H => ?_))
    ·
      exact .sg 4 [0,3,7,8] (.rg (.sg 1 [0,3,7,8,11] (letH H fun v1 hv H => (.ch [0,3,7,8,12] [0,1] (pipe_Pipe_int_Get_walk ({ ch := ⟨o1_c, o1⟩ } : Pipe_int) v1 hv) (.sg 5 [0,3,4,7,8] (.dn (.sg 1 [0,3,4,7,8] (.rg (.sg 3 [0,4,7,8,15,17] (fitH H fun hfit H => (.ap [0,4,7,8,18] (intA .i64) hfit (.sg 1 [0,3,4,7,8] (.dn (.rg (.sg 2 [0,3,7,8,19,20] (letH H fun v2 hv H => (.ch [0,3,7,8] [0,1] (pipe_Pipe_int_Put_walk v1.2.2 v1.1 v2 hv) (.dn (.sg 2 [0,3,7,8] (.tl hc0 [0,1,2] [0,3,7,8] (.into (.to (ih (IntKind.i64.wrap (t8 + 1)) v2.2.ch.buf v2.2.ch.cap (out ++ [v1.1]) H)))))))))))))))))))))))
    ·
      refine .sg 1 [3] (.kp [3] ?_)
      obtain rfl := Option.some.inj H
      exact .to J
def pipe_Pipe_int_All_raw (q0 : Nat) (p : Pipe_int) : Option ((List Int) × Pipe_int) :=
  letT (pipe_Pipe_int_Len p) fun v =>
  (pipe_Pipe_int_All_l0 v q0 0 v.2.ch.buf v.2.ch.cap ([] : List Int)).bind fun v1 =>
  some (v1.2.2, ({ ch := ⟨v1.2.1, v1.1⟩ } : Pipe_int))
theorem pipe_Pipe_int_All_walk (q0 : Nat) (p : Pipe_int) (r : (List Int) × Pipe_int) (H : pipe_Pipe_int_All_raw q0 p = some r) : ACalls Try.prog tab.S 27 [.ptr 0 0 none] [.box 83 [.ref chanK 1], .vals (.chan p.ch.cap) (List.map (intA .i64) p.ch.buf)] (.sl 3 (List.map (intA .i64) r.1) false) [.box 83 [.ref chanK 1], .vals (.chan r.2.ch.cap) (List.map (intA .i64) r.2.ch.buf)] := by
  refine .of_AX pipe_Pipe_int_All_F Try.func27 fun c0 hc0 => ?_
  rw [pipe_Pipe_int_All_raw] at H
  refine .sg 6 [0,3] (.rg (.sg 1 [0,3,6] (letH H fun v hv H => (.ch [0,3,7] [0,1] (pipe_Pipe_int_Len_walk p v hv) (.sg 1 [0,3,7,8] (.dn (.sg 1 [0,3,7,8] (.ad 3 3 true (.kp [0,3,7,8] ?_)))))))))
  refine bndO H fun v1 hv H => (.into (.to (pipe_Pipe_int_All_l0_walk q0 p v r c0 hc0 v1 ?_ q0 0 v.2.ch.buf v.2.ch.cap ([] : List Int) hv)))
  refine .sg 2 [2] ?_
  obtain rfl := Option.some.inj H
  exact .ret Try.func27 hc0 [0,1]

theorem pipe_Pipe_int_Put_lt (p : Pipe_int) (x : Int) (h : p.ch.buf.length < p.ch.cap) : pipe_Pipe_int_Put p x = (true, ⟨⟨p.ch.cap, p.ch.buf ++ [x]⟩⟩) := by
  simp only [pipe_Pipe_int_Put, decide_eq_true h]
  rfl
theorem pipe_Pipe_int_Put_ge (p : Pipe_int) (x : Int) (h : ¬ p.ch.buf.length < p.ch.cap) : pipe_Pipe_int_Put p x = (false, p) := by
  simp only [pipe_Pipe_int_Put, decide_eq_false h]
  rfl
theorem pipe_Pipe_int_Get_cons (x : Int) (l : List Int) (c : Nat) : pipe_Pipe_int_Get ⟨⟨c, x :: l⟩⟩ = (x, true, ⟨⟨c, l⟩⟩) := rfl
theorem pipe_Pipe_int_Get_empty (c : Nat) : pipe_Pipe_int_Get ⟨⟨c, []⟩⟩ = (0, false, ⟨⟨c, []⟩⟩) := rfl
theorem pipe_Pipe_int_All_l0_eq (xs : List Int) (c : Nat) (p : Pipe_int) (h1 : xs.length ≤ c) (h2 : xs.length ≤ 1000000) : ∀ (b a : List Int), a ++ b = xs → pipe_Pipe_int_All_l0 ((xs.length : Int), p) (b.length + 1) (a.length : Int) (b ++ a) c a = some (xs, c, xs)
  | [], a, h => by
    rw [List.append_nil] at h
    subst h
    rw [pipe_Pipe_int_All_l0]
    simp
  | x :: r, a, h => by
    have hl : a.length + (r.length + 1) = xs.length := by rw [← h]; simp
    rw [pipe_Pipe_int_All_l0]
    have hd : decide ((a.length : Int) < (xs.length : Int)) = true := decide_eq_true (by omega)
    simp only [hd, cond_true, letT, List.cons_append, pipe_Pipe_int_Get_cons]
    have hf : (a.length + [x].length) * 8 ≤ reach := by simp [reach]; omega
    unfold fitO
    rw [if_pos hf, pipe_Pipe_int_Put_lt _ _ (by simp; omega)]
    have hw : IntKind.i64.wrap ((a.length : Int) + 1) = ((a ++ [x]).length : Int) := by
      rw [wrapI_eq (by omega) (by omega)]; simp
    have := pipe_Pipe_int_All_l0_eq xs c p h1 h2 r (a ++ [x]) (by rw [← h]; simp)
    rw [hw]
    simpa using this
def pipe_Pipe_int_allO (p : Pipe_int) : Option (List Int × Pipe_int) := if p.ch.buf.length ≤ p.ch.cap ∧ p.ch.cap ≤ 1000000 then some (p.ch.buf, p) else none
theorem pipe_Pipe_int_All_eq (p : Pipe_int) (r : List Int × Pipe_int) (H : pipe_Pipe_int_allO p = some r) : pipe_Pipe_int_All_raw (p.ch.buf.length + 1) p = some r := by
  unfold pipe_Pipe_int_allO at H
  split at H
  · rename_i h
    injection H with H
    subst H
    have := pipe_Pipe_int_All_l0_eq p.ch.buf p.ch.cap p h.1 (by omega) p.ch.buf [] rfl
    simp only [pipe_Pipe_int_All_raw, pipe_Pipe_int_Len, letT, List.length_map]
    rw [List.append_nil] at this
    rw [show (0 : Int) = (([] : List Int).length : Int) from rfl, this]
    rfl
  · cases H

theorem pipe_Pipe_int_All_ok (p : Pipe_int) (r : (List Int) × Pipe_int) (H : pipe_Pipe_int_allO p = some r) : ACalls Try.prog tab.S 27 [.ptr 0 0 none] [.box 83 [.ref chanK 1], .vals (.chan p.ch.cap) (List.map (intA .i64) p.ch.buf)] (.sl 3 (List.map (intA .i64) r.1) false) [.box 83 [.ref chanK 1], .vals (.chan r.2.ch.cap) (List.map (intA .i64) r.2.ch.buf)] :=
 pipe_Pipe_int_All_walk (p.ch.buf.length + 1) p r (pipe_Pipe_int_All_eq p r H)
/-! ### podestalaw11.answers: function 19 -/
noncomputable def podestalaw11_answers_F : Go.Sh.Fn := ⟨19, bodyOf Try.f19, 19⟩
def podestalaw11_answers_raw : Option (Bool) :=
  (pipe_New_int_raw 1).bind fun v =>
  letT (pipe_Pipe_int_Put v 5) fun v1 =>
  letT (pipe_Pipe_int_Put v1.2 6) fun v2 =>
  (bif (v1.1 && (!v2.1)) then
    letT (pipe_Pipe_int_Len v2.2) fun v3 =>
    some (v3.1 == 1)
  else
    some false)
theorem podestalaw11_answers_walk (r : Bool) (H : podestalaw11_answers_raw = some r) : ACalls Try.prog tab.S 19 [] [] (.sc (.bool r)) [] := by
  refine .of_AX podestalaw11_answers_F Try.func19 fun c0 hc0 => ?_
  rw [podestalaw11_answers_raw] at H
  refine .sg 3 [] (.rg (bndO H fun v hv H => (.ch [4] [] (pipe_New_int_walk 1 v hv) (.sg 1 [1] (.dn (.sg 1 [1] (.rg (.sg 1 [1,5] (letH H fun v1 hv H => (.ch [1,6] [0,1] (pipe_Pipe_int_Put_walk v 5 v1 hv) (.sg 1 [1,6,7] (letH H fun v2 hv H => (.ch [1,6,8] [0,1] (pipe_Pipe_int_Put_walk v1.2 6 v2 hv) (.sg 2 [1,2,3] (.dn (.sg 1 [1,2,3] (.rg (.sg 2 [1,3,10] (.mx 0 [1,13] (.sg 1 [1,14] (.sp 14 (v1.1 && (!v2.1)) H (fun hb H => ?_) (fun hb H => ?_))))))))))))))))))))))
  ·
    refine .sg 1 [14,15] (letH H fun v3 hv H => (.ch [14,16] [0,1] (pipe_Pipe_int_Len_walk v2.2 v3 hv) (.sg 3 [0] (.dn ?_))))
    obtain rfl := Option.some.inj H
    exact .ret Try.func19 hc0
  ·
    refine .sg 5 [0] (.dn ?_)
    obtain rfl := Option.some.inj H
    exact .ret Try.func19 hc0

theorem podestalaw11_answers_ok : ACalls Try.prog tab.S 19 [] [] (.sc (.bool true)) [] := podestalaw11_answers_walk true (by kernel_rfl)
/-! ### podestalaw11.PipeTurn: function 6 -/
noncomputable def podestalaw11_PipeTurn_F : Go.Sh.Fn := ⟨6, bodyOf Try.f6, 55⟩
def podestalaw11_PipeTurn_l0s : List Int → List Int → Nat → Sum ((List Int) × Nat) (Bool)
  | [], o1, o1_c =>
    (.inl (o1, o1_c))
  | x :: rest, o1, o1_c =>
    letT (pipe_Pipe_int_Put ({ ch := ⟨o1_c, o1⟩ } : Pipe_int) x) fun v1 =>
    (bif (!v1.1) then
      (.inr false)
    else
      letT (pipe_Pipe_int_Put v1.2 7) fun v2 =>
      (bif v2.1 then
        (.inr false)
      else
        letT (pipe_Pipe_int_Len v2.2) fun v3 =>
        (bif (v3.1 != 1) then
          (.inr false)
        else
          letT (pipe_Pipe_int_Get v3.2) fun v4 =>
          (bif ((!v4.2.1) || (v4.1 != x)) then
            (.inr false)
          else
            podestalaw11_PipeTurn_l0s rest v4.2.2.ch.buf v4.2.2.ch.cap))))
theorem podestalaw11_PipeTurn_l0_walk (list : List Int) (v : Pipe_int) (f_list : Bool) (r : Bool) (c0 : Ctx) (hc0 : c0.m.length = 0) (res : Sum ((List Int) × Nat) (Bool)) (J : ∀ w : (List Int) × Nat, res = .inl w → AX Try.prog tab podestalaw11_PipeTurn_F c0 (Rp tab.S c0 (.sc (.bool r)) []) (some ⟨[.code [1, 1, 1, 1]], [(3, .ptr 0 0 none)], [.box 83 [.ref chanK 1], .vals (.chan w.2) (List.map (intA .i64) w.1)]⟩)) (Jr : ∀ w, res = .inr w → w = r) :
    ∀ (rest : List Int) (i : Nat) (z : Int) (hI : z = ((i : Nat) : Int)) (hd : list.drop i = rest) (o1 : List Int) (o1_c : Nat) (H : podestalaw11_PipeTurn_l0s rest o1 o1_c = res), AX Try.prog tab podestalaw11_PipeTurn_F c0 (Rp tab.S c0 (.sc (.bool r)) []) (some ⟨[.code [1, 1, 1, 0, 1, 0, 0], .loop [1, 1, 1, 0, 1, 0], .blk 0, .code [1, 1, 1, 1]], [(0, .sl 3 (List.map (intA .i64) list) f_list), (3, .ptr 0 0 none), (4, .sc (.int .i64 z))], [.box 83 [.ref chanK 1], .vals (.chan o1_c) (List.map (intA .i64) o1)]⟩) := by
  intro rest
  induction rest with
  | nil =>
    intro i z hI hd o1 o1_c H
    subst hI
    rw [podestalaw11_PipeTurn_l0s] at H
    refine .facts 0 fun hf => ?_
    have hlen : list.length ≤ 9223372036854775807 := by have hq := len_ok hf.2.1; rw [List.length_map] at hq; exact hq
    have hge : list.length ≤ i := List.drop_eq_nil_iff.1 hd
    have hc : (decide (((i : Nat) : Int) < (((List.map (intA .i64) list).length : Nat) : Int))) = false := by rw [List.length_map]; exact decide_eq_false (by omega)
    exact .sg 3 [0,3,4,15] (.cdF hc (.sg 1 [3] (.kp [3] (.to (J (o1, o1_c) H.symm)))))
  | cons x rest ih =>
    intro i z hI hd o1 o1_c H
    subst hI
    rw [podestalaw11_PipeTurn_l0s] at H
    refine .facts 0 fun hf => ?_
    have hlen : list.length ≤ 9223372036854775807 := by have hq := len_ok hf.2.1; rw [List.length_map] at hq; exact hq
    obtain ⟨hlt, hv_i, hd2⟩ := drop_cons hd
    have hc : (decide (((i : Nat) : Int) < (((List.map (intA .i64) list).length : Nat) : Int))) = true := by rw [List.length_map]; exact decide_eq_true (by omega)
    have hw : IntKind.i64.wrap (((i : Nat) : Int) + 1) = ((i + 1 : Nat) : Int) := wrapI_succ (by omega)
    refine .sg 3 [0,3,4,15] (.cdT hc (.sg 5 [0,3,4] (.rg (.sg 3 [0,3,4,18,19,20] (.xi [0,3,4,18,21] (intA .i64) hv_i (.sg 1 [0,3,4,18,22] (letH H fun v1 hv H => (.ch [0,3,4,23] [0,1] (pipe_Pipe_int_Put_walk ({ ch := ⟨o1_c, o1⟩ } : Pipe_int) x v1 hv) (.sg 2 [0,3,4,25] (.sp 25 (!v1.1) H (fun hb H => ?_) (fun hb H => ?_)))))))))))
    ·
      refine .sg 8 [0,3,4,33] (.dn (.sg 3 [2] ?_))
      subst H
      obtain rfl := Jr _ rfl
      exact .ret Try.func6 hc0
    ·
      refine .sg 1 [0,3,4,25,26] (letH H fun v2 hv H => (.ch [0,3,4,25,27] [0,1] (pipe_Pipe_int_Put_walk v1.2 7 v2 hv) (.sg 2 [0,3,4,29] (.sp 29 v2.1 H (fun hb H => ?_) (fun hb H => ?_)))))
      ·
        refine .sg 4 [0,3,4,33] (.dn (.sg 3 [2] ?_))
        subst H
        obtain rfl := Jr _ rfl
        exact .ret Try.func6 hc0
      ·
        refine .sg 1 [0,3,4,29,30] (letH H fun v3 hv H => (.ch [0,3,4,29,31] [0,1] (pipe_Pipe_int_Len_walk v2.2 v3 hv) (.sg 2 [0,3,4,33] (.dn (.cd (v3.1 != 1) H (fun hb H => ?_) (fun hb H => ?_))))))
        ·
          refine .sg 2 [2] ?_
          subst H
          obtain rfl := Jr _ rfl
          exact .ret Try.func6 hc0
        ·
          refine .sg 2 [0,3,4] (.rg (.sg 1 [0,3,4,35] (letH H fun v4 hv H => (.ch [0,3,4,36] [0,1] (pipe_Pipe_int_Get_walk v3.2 v4 hv) (.sg 5 [0,3,4,5,6] (.dn (.sg 1 [0,3,4,5,6] (.rg (.sg 3 [0,3,4,5,41] (.mm 41 (!v4.2.1) 7 [.pure, .pure, .pure, .pure, .pure, .pure, .pure] [0, 3, 4, 48] 48 (fun z => .sc (.bool (z || (v4.1 != x)))) ?J1 (fun hb J => ?ht1) (fun hb J => ?hf1)))))))))))
          case ht1 =>
            exact .sg 7 [0,3,4,48] (.cl J)
          case hf1 =>
            exact .sg 3 [0,3,4,41,42,43,44] (.xi [0,3,4,41,42,45] (intA .i64) hv_i (.sg 3 [0,3,4,48] (.cl J)))
          refine .dn (.cd ((!v4.2.1) || (v4.1 != x)) H (fun hb H => ?_) (fun hb H => ?_))
          ·
            refine .sg 2 [2] ?_
            subst H
            obtain rfl := Jr _ rfl
            exact .ret Try.func6 hc0
          ·
            exact .sg 3 [0,3,4] (.kp [0,3,4] (.into (.cl (ih (i + 1) _ hw hd2 v4.2.2.ch.buf v4.2.2.ch.cap H))))

def podestalaw11_PipeTurn_raw (list : List Int) : Option (Bool) :=
  (bif (decide ((((List.map (intA .i64) list).length : Nat) : Int) > 200)) then
    some true
  else
    (pipe_New_int_raw 1).bind fun v =>
    sumG (fun q => some q) (podestalaw11_PipeTurn_l0s list v.ch.buf v.ch.cap) fun v1 =>
    letT (pipe_Pipe_int_Len ({ ch := ⟨v1.2, v1.1⟩ } : Pipe_int)) fun v2 =>
    some (v2.1 == 0))
theorem podestalaw11_PipeTurn_walk (list : List Int) (f_list : Bool) (r : Bool) (H : podestalaw11_PipeTurn_raw list = some r) : ACalls Try.prog tab.S 6 [.sl 3 (List.map (intA .i64) list) f_list] [] (.sc (.bool r)) [] := by
  refine .of_AX podestalaw11_PipeTurn_F Try.func6 fun c0 hc0 => ?_
  rw [podestalaw11_PipeTurn_raw] at H
  refine .sg 5 [0,9] (.cd (decide ((((List.map (intA .i64) list).length : Nat) : Int) > 200)) H (fun hb H => ?_) (fun hb H => ?_))
  ·
    refine .sg 1 [] (.rg (.cp [10] (podestalaw11_answers_ok) (.sg 1 [2] (.dn ?_))))
    obtain rfl := Option.some.inj H
    exact .ret Try.func6 hc0
  ·
    refine .sg 2 [0] (.rg (bndO H fun v hv H => (.ch [0,11] [] (pipe_New_int_walk 1 v hv) (.sg 1 [0,3] (.dn (.sg 4 [0,3,4] ?_))))))
    rcases sumG_eq H with ⟨v1, hv, H⟩ | ⟨r1, hv, hr1⟩
    case inr =>
      refine .into ?_
      obtain rfl := Option.some.inj hr1
      exact .to (podestalaw11_PipeTurn_l0_walk list v f_list _ c0 hc0 (.inr _) (fun _ e => by cases e) (fun _ e => (Sum.inr.inj e).symm) list 0 _ rfl rfl v.ch.buf v.ch.cap hv)
    refine .into (.to (podestalaw11_PipeTurn_l0_walk list v f_list r c0 hc0 (.inl v1) (fun w e => ?_) (fun _ e => by cases e) list 0 _ rfl rfl v.ch.buf v.ch.cap hv))
    have e := Sum.inl.inj e
    subst e
    refine .sg 1 [3] (.rg (.cp [3,49] (podestalaw11_answers_ok) (.sg 2 [50,51] (letH H fun v2 hv H => (.ch [50,52] [0,1] (pipe_Pipe_int_Len_walk ({ ch := ⟨v1.2, v1.1⟩ } : Pipe_int) v2 hv) (.sg 3 [2] (.dn ?_)))))))
    obtain rfl := Option.some.inj H
    exact .ret Try.func6 hc0

end Go.Proofs.Ytjchejmakdkioaa

set_option linter.unusedVariables false
set_option linter.unusedSimpArgs false
set_option maxRecDepth 100000
set_option maxHeartbeats 4000000
namespace Go.Proofs.Ytjchejmakdkioaa
open Go.Sh
/-! ### podestaref01.Ints: function 26 -/
noncomputable def podestaref01_Ints_F : Go.Sh.Fn := ⟨26, bodyOf Try.f26, 26⟩
def podestaref01_Ints_l0s (b : List Int) : List Int → Nat → Option (Sum (Unit) (Bool))
  | [], i =>
    some (.inl ())
  | x :: rest, i =>
    (ixO b ((i : Nat) : Int)).bind fun x1 =>
    (bif (x != x1) then
      some (.inr false)
    else
      podestaref01_Ints_l0s b rest (i + 1) )
theorem podestaref01_Ints_l0_walk (a : List Int) (b : List Int) (f_a : Bool) (f_b : Bool) (r : Bool) (c0 : Ctx) (hc0 : c0.m.length = 0) (res : Sum (Unit) (Bool)) (J : ∀ w : Unit, res = .inl w → AX Try.prog tab podestaref01_Ints_F c0 (Rp tab.S c0 (.sc (.bool r)) []) (some ⟨[.code [1, 1, 1]], [], []⟩)) (Jr : ∀ w, res = .inr w → w = r) :
    ∀ (rest : List Int) (i : Nat) (z : Int) (hI : z = ((i : Nat) : Int)) (hd : a.drop i = rest) (H : podestaref01_Ints_l0s b rest i = some res), AX Try.prog tab podestaref01_Ints_F c0 (Rp tab.S c0 (.sc (.bool r)) []) (some ⟨[.code [1, 1, 0, 1, 0, 0], .loop [1, 1, 0, 1, 0], .blk 0, .code [1, 1, 1]], [(0, .sl 3 (List.map (intA .i64) a) f_a), (1, .sl 3 (List.map (intA .i64) b) f_b), (5, .sc (.int .i64 z))], []⟩) := by
  intro rest
  induction rest with
  | nil =>
    intro i z hI hd  H
    subst hI
    rw [podestaref01_Ints_l0s] at H
    refine .facts 0 fun hf => ?_
    have hlen : a.length ≤ 9223372036854775807 := by have hq := len_ok hf.2.1; rw [List.length_map] at hq; exact hq
    have hge : a.length ≤ i := List.drop_eq_nil_iff.1 hd
    have hc : (decide (((i : Nat) : Int) < (((List.map (intA .i64) a).length : Nat) : Int))) = false := by rw [List.length_map]; exact decide_eq_false (by omega)
    exact .sg 3 [0,1,5,14] (.cdF hc (.sg 1 [] (.kp [] (.to (J () (Option.some.inj H).symm)))))
  | cons x rest ih =>
    intro i z hI hd  H
    subst hI
    rw [podestaref01_Ints_l0s] at H
    refine .facts 0 fun hf => ?_
    have hlen : a.length ≤ 9223372036854775807 := by have hq := len_ok hf.2.1; rw [List.length_map] at hq; exact hq
    obtain ⟨hlt, hv_i, hd2⟩ := drop_cons hd
    have hc : (decide (((i : Nat) : Int) < (((List.map (intA .i64) a).length : Nat) : Int))) = true := by rw [List.length_map]; exact decide_eq_true (by omega)
    have hw : IntKind.i64.wrap (((i : Nat) : Int) + 1) = ((i + 1 : Nat) : Int) := wrapI_succ (by omega)
    refine .sg 3 [0,1,5,14] (.cdT hc (.sg 4 [0,1,5] (.rg (.sg 2 [0,1,5,17,18] (.xi [0,1,5,19] (intA .i64) hv_i (.sg 3 [0,1,5,20,21,22] (bndO H fun x1 hv H => (.xi [0,1,5,20,23] (intA .i64) hv (.sg 2 [0,1,5,25] (.dn (.cd (x != x1) H (fun hb H => ?_) (fun hb H => ?_))))))))))))
    ·
      refine .sg 2 [4] ?_
      obtain rfl := Option.some.inj H
      obtain rfl := Jr _ rfl
      exact .ret Try.func26 hc0
    ·
      exact .sg 3 [0,1,5] (.kp [0,1,5] (.into (.cl (ih (i + 1) _ hw hd2 H))))

def podestaref01_Ints_raw (a : List Int) (b : List Int) : Option (Bool) :=
  (bif ((((List.map (intA .i64) a).length : Nat) : Int) != (((List.map (intA .i64) b).length : Nat) : Int)) then
    some false
  else
    loopO (podestaref01_Ints_l0s b a 0) fun v =>
    some true)
theorem podestaref01_Ints_walk (a : List Int) (b : List Int) (f_a : Bool) (f_b : Bool) (r : Bool) (H : podestaref01_Ints_raw a b = some r) : ACalls Try.prog tab.S 26 [.sl 3 (List.map (intA .i64) a) f_a, .sl 3 (List.map (intA .i64) b) f_b] [] (.sc (.bool r)) [] := by
  refine .of_AX podestaref01_Ints_F Try.func26 fun c0 hc0 => ?_
  rw [podestaref01_Ints_raw] at H
  refine .sg 5 [0,1,10] (.cd ((((List.map (intA .i64) a).length : Nat) : Int) != (((List.map (intA .i64) b).length : Nat) : Int)) H (fun hb H => ?_) (fun hb H => ?_))
  ·
    refine .sg 2 [4] ?_
    obtain rfl := Option.some.inj H
    exact .ret Try.func26 hc0
  ·
    refine .sg 5 [0,1,5] ?_
    rcases loopO_some H with ⟨v, hv, H⟩ | hv
    case inr =>
      exact .into (.to (podestaref01_Ints_l0_walk a b f_a f_b _ c0 hc0 (.inr _) (fun _ e => by cases e) (fun _ e => (Sum.inr.inj e).symm) a 0 _ rfl rfl hv))
    refine .into (.to (podestaref01_Ints_l0_walk a b f_a f_b r c0 hc0 (.inl v) (fun w e => ?_) (fun _ e => by cases e) a 0 _ rfl rfl hv))
    have e := Sum.inl.inj e
    subst e
    refine .sg 2 [4] ?_
    obtain rfl := Option.some.inj H
    exact .ret Try.func26 hc0

def refInts (a b : List Int) : Bool := a == b
theorem podestaref01_Ints_ok (a b : List Int) (f_a f_b : Bool) : ACalls Try.prog tab.S 26 [.sl 3 (List.map (intA .i64) a) f_a, .sl 3 (List.map (intA .i64) b) f_b] [] (.sc (.bool (refInts a b))) [] := by
  refine podestaref01_Ints_walk a b f_a f_b _ ?_
  rw [podestaref01_Ints_raw, len_bne]
  by_cases h : a.length = b.length
  · simp only [h, decide_true, Bool.not_true, cond_false]
    rw [cmp_loop (v := false) (podestaref01_Ints_l0s b) b (fun x y => x == y) (fun _ => rfl) (fun x r i => by rw [podestaref01_Ints_l0s]; simp only [bne]) a 0 (by omega), List.drop_zero, zipAll_beq]
    unfold refInts
    cases a == b <;> rfl
  · have e : refInts a b = false := by
      unfold refInts
      rw [beq_eq_false_iff_ne]
      intro e
      exact h (by rw [e])
    rw [e]
    simp only [h, decide_false, Bool.not_false, cond_true]

/-! ### podestalaw11.PipePlays: function 8 -/
noncomputable def podestalaw11_PipePlays_F : Go.Sh.Fn := ⟨8, bodyOf Try.f8, 113⟩
def podestalaw11_PipePlays_l0s (room : Int) : List Int → List Int → Nat → List Int → Option (Sum ((List Int) × Nat × (List Int)) (Bool))
  | [], o1, o1_c, l =>
    some (.inl (o1, o1_c, l))
  | x :: rest, o1, o1_c, l =>
    (bif (decide (x < 0)) then
      letT (pipe_Pipe_int_Get ({ ch := ⟨o1_c, o1⟩ } : Pipe_int)) fun v1 =>
      (bif (v1.2.1 != (decide ((((List.map (intA .i64) l).length : Nat) : Int) > 0))) then
        some (.inr false)
      else
        (bif v1.2.1 then
          (ixO l 0).bind fun x1 =>
          (bif ((v1.1 != x1) || ((!v1.2.1) && (v1.1 != 0))) then
            some (.inr false)
          else
            (bif v1.2.1 then
              (sliceO l (some 1) none none).bind fun x2 =>
              podestalaw11_PipePlays_l0s room rest v1.2.2.ch.buf v1.2.2.ch.cap x2
            else
              podestalaw11_PipePlays_l0s room rest v1.2.2.ch.buf v1.2.2.ch.cap l))
        else
          (bif ((!v1.2.1) && (v1.1 != 0)) then
            some (.inr false)
          else
            (bif v1.2.1 then
              (sliceO l (some 1) none none).bind fun x3 =>
              podestalaw11_PipePlays_l0s room rest v1.2.2.ch.buf v1.2.2.ch.cap x3
            else
              podestalaw11_PipePlays_l0s room rest v1.2.2.ch.buf v1.2.2.ch.cap l))))
    else
      letT (pipe_Pipe_int_Put ({ ch := ⟨o1_c, o1⟩ } : Pipe_int) x) fun v2 =>
      (bif (v2.1 != (decide ((((List.map (intA .i64) l).length : Nat) : Int) < room))) then
        some (.inr false)
      else
        (bif (decide ((((List.map (intA .i64) l).length : Nat) : Int) < room)) then
          fitO (l.length + [x].length) 8 (
          podestalaw11_PipePlays_l0s room rest v2.2.ch.buf v2.2.ch.cap (l ++ [x]))
        else
          podestalaw11_PipePlays_l0s room rest v2.2.ch.buf v2.2.ch.cap l)))
theorem podestalaw11_PipePlays_l0_walk (most : Int) (acts : List Int) (v : Pipe_int) (room : Int) (f_acts : Bool) (r : Bool) (c0 : Ctx) (hc0 : c0.m.length = 0) (res : Sum ((List Int) × Nat × (List Int)) (Bool)) (J : ∀ w : (List Int) × Nat × (List Int), res = .inl w → AX Try.prog tab podestalaw11_PipePlays_F c0 (Rp tab.S c0 (.sc (.bool r)) []) (some ⟨[.code [1, 1, 1, 1, 1, 1, 1, 1]], [(5, .ptr 0 0 none), (7, .own 2 2000000)], [.box 83 [.ref chanK 1], .vals (.chan w.2.1) (List.map (intA .i64) w.1), .row 3 (List.map (intA .i64) w.2.2) 2000000 true]⟩)) (Jr : ∀ w, res = .inr w → w = r) :
    ∀ (rest : List Int) (i : Nat) (z : Int) (hI : z = ((i : Nat) : Int)) (hd : acts.drop i = rest) (o1 : List Int) (o1_c : Nat) (l : List Int) (H : podestalaw11_PipePlays_l0s room rest o1 o1_c l = some res), AX Try.prog tab podestalaw11_PipePlays_F c0 (Rp tab.S c0 (.sc (.bool r)) []) (some ⟨[.code [1, 1, 1, 1, 1, 1, 1, 0, 1, 0, 0], .loop [1, 1, 1, 1, 1, 1, 1, 0, 1, 0], .blk 0, .code [1, 1, 1, 1, 1, 1, 1, 1]], [(1, .sl 3 (List.map (intA .i64) acts) f_acts), (5, .ptr 0 0 none), (6, .sc (.int .i64 room)), (7, .own 2 2000000), (8, .sc (.int .i64 z))], [.box 83 [.ref chanK 1], .vals (.chan o1_c) (List.map (intA .i64) o1), .row 3 (List.map (intA .i64) l) 2000000 true]⟩) := by
  intro rest
  induction rest with
  | nil =>
    intro i z hI hd o1 o1_c l H
    subst hI
    rw [podestalaw11_PipePlays_l0s] at H
    refine .facts 1 fun hf => ?_
    have hlen : acts.length ≤ 9223372036854775807 := by have hq := len_ok hf.2.1; rw [List.length_map] at hq; exact hq
    have hge : acts.length ≤ i := List.drop_eq_nil_iff.1 hd
    have hc : (decide (((i : Nat) : Int) < (((List.map (intA .i64) acts).length : Nat) : Int))) = false := by rw [List.length_map]; exact decide_eq_false (by omega)
    exact .sg 3 [1,5,6,7,8,25] (.cdF hc (.sg 1 [5,7] (.kp [5,7] (.to (J (o1, o1_c, l) (Option.some.inj H).symm)))))
  | cons x rest ih =>
    intro i z hI hd o1 o1_c l H
    subst hI
    rw [podestalaw11_PipePlays_l0s] at H
    refine .facts 1 fun hf => ?_
    have hlen : acts.length ≤ 9223372036854775807 := by have hq := len_ok hf.2.1; rw [List.length_map] at hq; exact hq
    obtain ⟨hlt, hv_i, hd2⟩ := drop_cons hd
    have hc : (decide (((i : Nat) : Int) < (((List.map (intA .i64) acts).length : Nat) : Int))) = true := by rw [List.length_map]; exact decide_eq_true (by omega)
    have hw : IntKind.i64.wrap (((i : Nat) : Int) + 1) = ((i + 1 : Nat) : Int) := wrapI_succ (by omega)
    refine .sg 3 [1,5,6,7,8,25] (.cdT hc (.sg 5 [1,5,6,7,8] (.rg (.sg 2 [1,5,6,7,8,28,29] (.xi [1,5,6,7,8,30] (intA .i64) hv_i (.sg 2 [1,5,6,7,8,32] (.dn (.cd (decide (x < 0)) H (fun hb H => ?_) (fun hb H => ?_)))))))))
    ·
      refine .sg 1 [1,5,6,7,8] (.rg (.sg 1 [1,5,6,7,8,34] (letH H fun v1 hv H => (.ch [1,5,6,7,8,35] [0,1] (pipe_Pipe_int_Get_walk ({ ch := ⟨o1_c, o1⟩ } : Pipe_int) v1 hv) (.sg 5 [1,5,6,7,8,9,10] (.dn (.sg 2 [1,5,6,7,8,9,10] (.rg (.sg 6 [1,5,6,7,8,9,10,43] (.sp 43 (v1.2.1 != (decide ((((List.map (intA .i64) l).length : Nat) : Int) > 0))) H (fun hb H => ?_) (fun hb H => ?_)))))))))))
      ·
        refine .sg 17 [1,5,6,7,8,10,60] (.dn (.sg 3 [4] ?_))
        obtain rfl := Option.some.inj H
        obtain rfl := Jr _ rfl
        exact .ret Try.func8 hc0
      ·
        refine .sg 2 [1,5,6,7,8,9,10,43,45] (.sp 45 v1.2.1 H (fun hb H => ?_) (fun hb H => ?_))
        ·
          refine .sg 2 [1,5,6,7,8,9,10,43,45,46,47] (bndO H fun x1 hv_x1 H => (.xo [1,5,6,7,8,9,10,43,45,46,48] (ixO_req hv_x1 (intA .i64)) (.lo [1,5,6,7,8,9,10,43,45,46,49] (ixO_map hv_x1 (intA .i64)).2 (.sg 4 [1,5,6,7,8,9,10,53] (.mm 53 (v1.1 != x1) 7 [.pure, .pure, .pure, .pure, .pure, .pure, .pure] [1, 5, 6, 7, 8, 10, 60] 60 (fun z => .sc (.bool (z || ((!v1.2.1) && (v1.1 != 0))))) ?J20 (fun hb J => ?ht20) (fun hb J => ?hf20))))))
          case ht20 =>
            exact .sg 7 [1,5,6,7,8,10,60] (.cl J)
          case hf20 =>
            exact .sg 3 [1,5,6,7,8,9,10,53,56] (.mx 0 [1,5,6,7,8,10,53,59] (.sg 1 [1,5,6,7,8,10,60] (.cl J)))
          refine .dn (.cd ((v1.1 != x1) || ((!v1.2.1) && (v1.1 != 0))) H (fun hb H => ?_) (fun hb H => ?_))
          ·
            refine .sg 2 [4] ?_
            obtain rfl := Option.some.inj H
            obtain rfl := Jr _ rfl
            exact .ret Try.func8 hc0
          ·
            refine .sg 4 [1,5,6,7,8,61] (.cd v1.2.1 H (fun hb H => ?_) (fun hb H => ?_))
            ·
              exact .rg (.sg 1 [1,5,6,8,62] (bndO H fun x2 hv H => (.rst [1,5,6,8,63] (intA .i64) hv (.sg 1 [1,5,6,7,8] (.dn (.sg 2 [1,5,6,7,8] (.tl hc0 [0,1,2] [1,5,6,7,8] (.into (.cl (ih (i + 1) _ hw hd2 v1.2.2.ch.buf v1.2.2.ch.cap x2 H))))))))))
            ·
              exact .sg 3 [1,5,6,7,8] (.kp [1,5,6,7,8] (.into (.cl (ih (i + 1) _ hw hd2 v1.2.2.ch.buf v1.2.2.ch.cap l H))))
        ·
          refine .sg 11 [1,5,6,7,8,9,10,53,56] (.mx 0 [1,5,6,7,8,10,53,59] (.sg 1 [1,5,6,7,8,10,60] (.dn (.cd ((!v1.2.1) && (v1.1 != 0)) H (fun hb H => ?_) (fun hb H => ?_)))))
          ·
            refine .sg 2 [4] ?_
            obtain rfl := Option.some.inj H
            obtain rfl := Jr _ rfl
            exact .ret Try.func8 hc0
          ·
            refine .sg 4 [1,5,6,7,8,61] (.cd v1.2.1 H (fun hb H => ?_) (fun hb H => ?_))
            ·
              exact .rg (.sg 1 [1,5,6,8,62] (bndO H fun x3 hv H => (.rst [1,5,6,8,63] (intA .i64) hv (.sg 1 [1,5,6,7,8] (.dn (.sg 2 [1,5,6,7,8] (.tl hc0 [0,1,2] [1,5,6,7,8] (.into (.cl (ih (i + 1) _ hw hd2 v1.2.2.ch.buf v1.2.2.ch.cap x3 H))))))))))
            ·
              exact .sg 3 [1,5,6,7,8] (.kp [1,5,6,7,8] (.into (.cl (ih (i + 1) _ hw hd2 v1.2.2.ch.buf v1.2.2.ch.cap l H))))
    ·
      refine .sg 3 [1,5,6,7,8] (.rg (.sg 3 [1,5,6,7,8,64,65,66] (.xi [1,5,6,7,8,64,67] (intA .i64) hv_i (.sg 1 [1,5,6,7,8,64,68] (letH H fun v2 hv H => (.ch [1,5,6,7,8,69] [0,1] (pipe_Pipe_int_Put_walk ({ ch := ⟨o1_c, o1⟩ } : Pipe_int) x v2 hv) (.sg 5 [1,5,6,7,8,74] (.dn (.cd (v2.1 != (decide ((((List.map (intA .i64) l).length : Nat) : Int) < room))) H (fun hb H => ?_) (fun hb H => ?_))))))))))
      ·
        refine .sg 2 [4] ?_
        obtain rfl := Option.some.inj H
        obtain rfl := Jr _ rfl
        exact .ret Try.func8 hc0
      ·
        refine .sg 3 [1,5,6,7,8,78] (.cd (decide ((((List.map (intA .i64) l).length : Nat) : Int) < room)) H (fun hb H => ?_) (fun hb H => ?_))
        ·
          exact .rg (.sg 3 [1,5,6,8,79,80,81] (.xi [1,5,6,8,79,82] (intA .i64) hv_i (.sg 2 [1,5,6,8,79,84] (fitH H fun hfit H => (.ap [1,5,6,8,85] (intA .i64) hfit (.sg 1 [1,5,6,7,8] (.dn (.sg 2 [1,5,6,7,8] (.tl hc0 [0,1,2] [1,5,6,7,8] (.into (.cl (ih (i + 1) _ hw hd2 v2.2.ch.buf v2.2.ch.cap (l ++ [x]) H))))))))))))
        ·
          exact .sg 3 [1,5,6,7,8] (.kp [1,5,6,7,8] (.into (.cl (ih (i + 1) _ hw hd2 v2.2.ch.buf v2.2.ch.cap l H))))

def podestalaw11_PipePlays_raw (most : Int) (acts : List Int) : Option (Bool) :=
  (bif (decide ((((List.map (intA .i64) acts).length : Nat) : Int) > 300)) then
    some true
  else
    (pipe_New_int_raw most).bind fun v =>
    loopO (podestalaw11_PipePlays_l0s (bif (decide ((bif (decide (most < 0)) then 0 else most) > 4096)) then 4096 else (bif (decide (most < 0)) then 0 else most)) acts v.ch.buf v.ch.cap ([] : List Int)) fun v1 =>
    letT (pipe_Pipe_int_Len ({ ch := ⟨v1.2.1, v1.1⟩ } : Pipe_int)) fun v2 =>
    (bif (v2.1 == (((List.map (intA .i64) v1.2.2).length : Nat) : Int)) then
      (pipe_Pipe_int_allO v2.2).bind fun v3 =>
      (bif (refInts v3.1 v1.2.2) then
        (pipe_Pipe_int_allO v3.2).bind fun v4 =>
        (bif (refInts v4.1 v1.2.2) then
          letT (pipe_Pipe_int_Len v4.2) fun v5 =>
          some (v5.1 == (((List.map (intA .i64) v1.2.2).length : Nat) : Int))
        else
          some false)
      else
        some false)
    else
      some false))
theorem podestalaw11_PipePlays_walk (most : Int) (acts : List Int) (f_acts : Bool) (r : Bool) (H : podestalaw11_PipePlays_raw most acts = some r) : ACalls Try.prog tab.S 8 [.sc (.int .i64 most), .sl 3 (List.map (intA .i64) acts) f_acts] [] (.sc (.bool r)) [] := by
  refine .of_AX podestalaw11_PipePlays_F Try.func8 fun c0 hc0 => ?_
  rw [podestalaw11_PipePlays_raw] at H
  refine .sg 5 [0,1,13] (.cd (decide ((((List.map (intA .i64) acts).length : Nat) : Int) > 300)) H (fun hb H => ?_) (fun hb H => ?_))
  ·
    refine .sg 1 [] (.rg (.cp [14] (podestalaw11_answers_ok) (.sg 1 [4] (.dn ?_))))
    obtain rfl := Option.some.inj H
    exact .ret Try.func8 hc0
  ·
    refine .sg 2 [0,1] (.rg (.sg 1 [0,1,15] (bndO H fun v hv H => (.ch [0,1,16] [] (pipe_New_int_walk most v hv) (.sg 1 [0,1,5] (.dn (.sg 5 [1,5,6,19] (.jn (decide (most < 0)) [1, 5, 6] (fun z => [(6, .sc (.int .i64 (bif z then 0 else most)))]) ?J1 (fun hb J => ?ht1) (fun hb J => ?hf1)))))))))
    case ht1 =>
      exact .sg 1 [1,5,6] (.cl J)
    case hf1 =>
      exact .sg 1 [1,5,6] (.cl J)
    refine .sg 3 [1,5,6,21] (.jn (decide ((bif (decide (most < 0)) then 0 else most) > 4096)) [1, 5, 6] (fun z => [(6, .sc (.int .i64 (bif z then 4096 else (bif (decide (most < 0)) then 0 else most))))]) ?J2 (fun hb J => ?ht2) (fun hb J => ?hf2))
    case ht2 =>
      exact .sg 1 [1,5,6] (.cl J)
    case hf2 =>
      exact .sg 1 [1,5,6] (.cl J)
    refine .sg 6 [1,5,6,7,8] (.ad 7 3 true (.nm 2 2000000 hc0 (.kp [1,5,6,7,8] ?_)))
    rcases loopO_some H with ⟨v1, hv, H⟩ | hv
    case inr =>
      exact .into (.to (podestalaw11_PipePlays_l0_walk most acts v (bif (decide ((bif (decide (most < 0)) then 0 else most) > 4096)) then 4096 else (bif (decide (most < 0)) then 0 else most)) f_acts _ c0 hc0 (.inr _) (fun _ e => by cases e) (fun _ e => (Sum.inr.inj e).symm) acts 0 _ rfl rfl v.ch.buf v.ch.cap ([] : List Int) hv))
    refine .into (.to (podestalaw11_PipePlays_l0_walk most acts v (bif (decide ((bif (decide (most < 0)) then 0 else most) > 4096)) then 4096 else (bif (decide (most < 0)) then 0 else most)) f_acts r c0 hc0 (.inl v1) (fun w e => ?_) (fun _ e => by cases e) acts 0 _ rfl rfl v.ch.buf v.ch.cap ([] : List Int) hv))
    have e := Sum.inl.inj e
    subst e
    refine .sg 1 [5,7] (.rg (.cp [5,7,86] (podestalaw11_answers_ok) (.sg 2 [5,7,87,88] (letH H fun v2 hv H => (.ch [5,7,87,89] [0,1] (pipe_Pipe_int_Len_walk ({ ch := ⟨v1.2.1, v1.1⟩ } : Pipe_int) v2 hv) (.sg 5 [5,7,94] (.sp 94 (v2.1 == (((List.map (intA .i64) v1.2.2).length : Nat) : Int)) H (fun hb H => ?_) (fun hb H => ?_))))))))
    ·
      refine .sg 1 [5,7,94,95] (bndO H fun v3 hv H => (.ch [5,7,94,96] [0,1] (pipe_Pipe_int_All_ok v2.2 v3 hv) (.sg 1 [5,7,94,96,97] (.cs [5,7,94,98] (podestaref01_Ints_ok v3.1 v1.2.2 false false) (.sg 2 [5,7,100] (.sp 100 (refInts v3.1 v1.2.2) H (fun hb H => ?_) (fun hb H => ?_)))))))
      ·
        refine .sg 1 [5,7,100,101] (bndO H fun v4 hv H => (.ch [5,7,100,102] [0,1] (pipe_Pipe_int_All_ok v3.2 v4 hv) (.sg 1 [5,7,100,102,103] (.cs [5,7,100,104] (podestaref01_Ints_ok v4.1 v1.2.2 false false) (.sg 2 [5,7,106] (.sp 106 (refInts v4.1 v1.2.2) H (fun hb H => ?_) (fun hb H => ?_)))))))
        ·
          refine .sg 1 [7,106,107] (letH H fun v5 hv H => (.ch [7,106,108] [0,1] (pipe_Pipe_int_Len_walk v4.2 v5 hv) (.sg 5 [4] (.dn ?_))))
          obtain rfl := Option.some.inj H
          exact .ret Try.func8 hc0
        ·
          refine .sg 7 [4] (.dn ?_)
          obtain rfl := Option.some.inj H
          exact .ret Try.func8 hc0
      ·
        refine .sg 13 [4] (.dn ?_)
        obtain rfl := Option.some.inj H
        exact .ret Try.func8 hc0
    ·
      refine .sg 19 [4] (.dn ?_)
      obtain rfl := Option.some.inj H
      exact .ret Try.func8 hc0

end Go.Proofs.Ytjchejmakdkioaa

set_option linter.unusedVariables false
set_option linter.unusedSimpArgs false
set_option maxRecDepth 100000
set_option maxHeartbeats 4000000
namespace Go.Proofs.Ytjchejmakdkioaa
open Go.Sh
theorem PipePlays_l0 (room : Nat) (hr : room ≤ 4096) : ∀ (acts l : List Int), l.length ≤ room → ∃ l' : List Int, l'.length ≤ room ∧ podestalaw11_PipePlays_l0s (room : Int) acts l room l = some (.inl (l', room, l'))
  | [], l, h => ⟨l, h, rfl⟩
  | x :: acts, l, h => by
    rw [podestalaw11_PipePlays_l0s]
    cases hx : decide (x < 0) with
    | true =>
      cases l with
      | nil =>
        obtain ⟨l', h1, h2⟩ := PipePlays_l0 room hr acts [] h
        refine ⟨l', h1, ?_⟩
        simp only [cond_true, letT, pipe_Pipe_int_Get_empty, List.map_nil, List.length_nil]
        exact h2
      | cons y l =>
        obtain ⟨l', h1, h2⟩ := PipePlays_l0 room hr acts l (by simp at h; omega)
        refine ⟨l', h1, ?_⟩
        have e1 : ixO (y :: l) 0 = some y := ixO_lt (xs := y :: l) (i := 0) (by simp)
        have e2 : sliceO (y :: l) (some 1) none none = some l := by
          unfold sliceO
          rw [if_pos (by simp; omega)]
          simp
        have e3 : decide ((((List.map (intA .i64) (y :: l)).length : Nat) : Int) > 0) = true := decide_eq_true (by simp; try omega)
        simp only [cond_true, letT, pipe_Pipe_int_Get_cons, e1, e2, e3, Option.bind_some, bne_self_eq_false, cond_false, Bool.not_true, Bool.false_and, Bool.or_self]
        exact h2
    | false =>
      simp only [cond_false, letT, List.length_map]
      by_cases hl : l.length < room
      · obtain ⟨l', h1, h2⟩ := PipePlays_l0 room hr acts (l ++ [x]) (by simp; try omega)
        refine ⟨l', h1, ?_⟩
        have e3 : decide ((l.length : Int) < (room : Int)) = true := decide_eq_true (by omega)
        rw [pipe_Pipe_int_Put_lt _ _ (by simpa using hl), e3]
        simp only [bne_self_eq_false, cond_false, cond_true]
        rw [fitO_eq (by simp; omega)]
        exact h2
      · obtain ⟨l', h1, h2⟩ := PipePlays_l0 room hr acts l h
        refine ⟨l', h1, ?_⟩
        have e3 : decide ((l.length : Int) < (room : Int)) = false := decide_eq_false (by omega)
        rw [pipe_Pipe_int_Put_ge _ _ (by simpa using hl), e3]
        simp only [bne_self_eq_false, cond_false]
        exact h2
theorem PipePlays_room (most : Int) : ∃ room : Nat, room ≤ 4096 ∧ (bif (decide ((bif (decide (most < 0)) then 0 else most) > 4096)) then 4096 else (bif (decide (most < 0)) then 0 else most)) = (room : Int) ∧ (if 4096 < (if 0 > most then 0 else most) then 4096 else (if 0 > most then 0 else most)) = (room : Int) := by
  have key : (bif (decide ((bif (decide (most < 0)) then 0 else most) > 4096)) then 4096 else (bif (decide (most < 0)) then 0 else most)) = (if 4096 < (if 0 > most then 0 else most) then 4096 else (if 0 > most then 0 else most)) := by
    simp only [cond_eq_ite, decide_eq_true_eq]
    try rfl
  by_cases h1 : most < 0
  · exact ⟨0, by omega, by rw [key]; simp [h1], by simp [h1]⟩
  · by_cases h2 : 4096 < most
    · exact ⟨4096, by omega, by rw [key]; simp [h1, h2], by simp [h1, h2]⟩
    · refine ⟨most.toNat, by omega, ?_, ?_⟩
      · rw [key]; simp [h1, h2]; omega
      · simp [h1, h2]; omega
theorem PipePlays_true (x0 : Int) (x1 : List Int) (w0 : intW .i64 x0) (w1 : ∀ y ∈ x1, intW .i64 y) (l1 : x1.length * 8 ≤ 140737488355328) : podestalaw11_PipePlays_raw x0 x1 = some true := by
  unfold podestalaw11_PipePlays_raw
  cases decide ((((List.map (intA .i64) x1).length : Nat) : Int) > 300) with
  | true => rfl
  | false =>
    obtain ⟨room, hr, e1, e2⟩ := PipePlays_room x0
    have hn : pipe_New_int_raw x0 = some ⟨⟨room, []⟩⟩ := by
      unfold pipe_New_int_raw
      rw [e2, reqO_eq]
      · simp
      · simp only [Bool.and_eq_true, decide_eq_true_eq]; omega
    obtain ⟨l, h1, h2⟩ := PipePlays_l0 room hr x1 [] (by simp)
    have ha : pipe_Pipe_int_allO ⟨⟨room, l⟩⟩ = some (l, ⟨⟨room, l⟩⟩) := by
      unfold pipe_Pipe_int_allO
      rw [if_pos (by simp only; omega)]
    have hi : refInts l l = true := by simp [refInts]
    rw [cond_false, hn, Option.bind_some, e1, h2]
    simp only [loopO, letT, pipe_Pipe_int_Len, List.length_map, beq_self_eq_true, cond_true, ha, Option.bind_some, hi]

end Go.Proofs.Ytjchejmakdkioaa
