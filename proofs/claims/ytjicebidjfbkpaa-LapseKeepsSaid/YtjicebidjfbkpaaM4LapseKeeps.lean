import Derived.Test.YtjicebidjfbkpaaProg
import Derived.Test.YtjicebidjfbkpaaM3LapseKeeps
set_option linter.unusedVariables false
set_option linter.unusedSimpArgs false
set_option maxRecDepth 100000
set_option maxHeartbeats 4000000
namespace Go.Proofs.Ytjicebidjfbkpaa
open Go.Sh
def tab : Go.Sh.Tab := [
 (1, ⟨.other, 1, 8, [.sc .nilFunc]⟩),
 (2, ⟨.int .i64, 1, 8, [.sc (.int .i64 0)]⟩),
 (3, ⟨.int .i64, 1, 8, [.sc (.int .i64 0)]⟩),
 (4, ⟨.bool, 1, 1, [.sc (.bool false)]⟩),
 (5, ⟨.int .u8, 1, 1, [.sc (.int .u8 0)]⟩),
 (9, ⟨.str, 1, 16, [.sc (.string ⟨#[]⟩)]⟩),
 (12, ⟨.int .u64, 1, 8, [.sc (.int .u64 0)]⟩),
 (13, ⟨.struct [(0, 9), (1, 12)], 2, 24, [.sc (.string ⟨#[]⟩), .sc (.int .u64 0)]⟩),
 (21, ⟨.int .i32, 1, 4, [.sc (.int .i32 0)]⟩),
 (22, ⟨.slice 31, 1, 24, [.sl 0 [] true]⟩),
 (23, ⟨.other, 1, 8, [.sc .nilFunc]⟩),
 (24, ⟨.int .u64, 1, 8, [.sc (.int .u64 0)]⟩),
 (25, ⟨.arr 12 24, 12, 96, [.arr .u64 12 [0, 0, 0, 0, 0, 0, 0, 0, 0, 0, 0, 0]]⟩),
 (26, ⟨.arr 12 24, 12, 96, [.arr .u64 12 [0, 0, 0, 0, 0, 0, 0, 0, 0, 0, 0, 0]]⟩),
 (27, ⟨.struct [(0, 26), (12, 26)], 24, 192, [.arr .u64 12 [0, 0, 0, 0, 0, 0, 0, 0, 0, 0, 0, 0], .arr .u64 12 [0, 0, 0, 0, 0, 0, 0, 0, 0, 0, 0, 0]]⟩),
 (28, ⟨.struct [(0, 26), (12, 26)], 24, 192, [.arr .u64 12 [0, 0, 0, 0, 0, 0, 0, 0, 0, 0, 0, 0], .arr .u64 12 [0, 0, 0, 0, 0, 0, 0, 0, 0, 0, 0, 0]]⟩),
 (29, ⟨.slice 34, 1, 24, [.sl 0 [] true]⟩),
 (30, ⟨.struct [(0, 28), (24, 3), (25, 29), (26, 3), (27, 3), (28, 3), (29, 3), (30, 3), (31, 3)], 32, 272, [.arr .u64 12 [0, 0, 0, 0, 0, 0, 0, 0, 0, 0, 0, 0], .arr .u64 12 [0, 0, 0, 0, 0, 0, 0, 0, 0, 0, 0, 0], .sc (.int .i64 0), .sl 0 [] true, .sc (.int .i64 0), .sc (.int .i64 0), .sc (.int .i64 0), .sc (.int .i64 0), .sc (.int .i64 0), .sc (.int .i64 0)]⟩),
 (31, ⟨.struct [(0, 28), (24, 3), (25, 29), (26, 3), (27, 3), (28, 3), (29, 3), (30, 3), (31, 3)], 32, 272, [.arr .u64 12 [0, 0, 0, 0, 0, 0, 0, 0, 0, 0, 0, 0], .arr .u64 12 [0, 0, 0, 0, 0, 0, 0, 0, 0, 0, 0, 0], .sc (.int .i64 0), .sl 0 [] true, .sc (.int .i64 0), .sc (.int .i64 0), .sc (.int .i64 0), .sc (.int .i64 0), .sc (.int .i64 0), .sc (.int .i64 0)]⟩),
 (32, ⟨.other, 1, 8, [.sc .nilFunc]⟩),
 (33, ⟨.struct [(0, 3), (1, 3), (2, 3), (3, 24)], 4, 32, [.sc (.int .i64 0), .sc (.int .i64 0), .sc (.int .i64 0), .sc (.int .u64 0)]⟩),
 (34, ⟨.struct [(0, 3), (1, 3), (2, 3), (3, 24)], 4, 32, [.sc (.int .i64 0), .sc (.int .i64 0), .sc (.int .i64 0), .sc (.int .u64 0)]⟩),
 (35, ⟨.other, 1, 8, [.sc .nilFunc]⟩),
 (36, ⟨.other, 1, 8, [.sc .nilFunc]⟩),
 (38, ⟨.other, 1, 8, [.sc .nilFunc]⟩),
 (39, ⟨.other, 1, 8, [.sc .nilFunc]⟩),
 (40, ⟨.other, 1, 8, [.sc .nilFunc]⟩),
 (41, ⟨.struct [(0, 3), (1, 28), (25, 3), (26, 29), (27, 3), (28, 3), (29, 3), (30, 4)], 31, 264, [.sc (.int .i64 0), .arr .u64 12 [0, 0, 0, 0, 0, 0, 0, 0, 0, 0, 0, 0], .arr .u64 12 [0, 0, 0, 0, 0, 0, 0, 0, 0, 0, 0, 0], .sc (.int .i64 0), .sl 0 [] true, .sc (.int .i64 0), .sc (.int .i64 0), .sc (.int .i64 0), .sc (.bool false)]⟩),
 (42, ⟨.struct [(0, 3), (1, 28), (25, 3), (26, 29), (27, 3), (28, 3), (29, 3), (30, 4)], 31, 264, [.sc (.int .i64 0), .arr .u64 12 [0, 0, 0, 0, 0, 0, 0, 0, 0, 0, 0, 0], .arr .u64 12 [0, 0, 0, 0, 0, 0, 0, 0, 0, 0, 0, 0], .sc (.int .i64 0), .sl 0 [] true, .sc (.int .i64 0), .sc (.int .i64 0), .sc (.int .i64 0), .sc (.bool false)]⟩),
 (43, ⟨.int .i64, 1, 8, [.sc (.int .i64 0)]⟩),
 (45, ⟨.other, 1, 8, [.sc .nilFunc]⟩),
 (46, ⟨.other, 1, 8, [.sc .nilFunc]⟩),
 (47, ⟨.other, 1, 8, [.sc .nilFunc]⟩),
 (49, ⟨.other, 1, 8, [.sc .nilFunc]⟩),
 (50, ⟨.other, 1, 8, [.sc .nilFunc]⟩),
 (51, ⟨.other, 1, 8, [.sc .nilFunc]⟩),
 (52, ⟨.other, 1, 8, [.sc .nilFunc]⟩),
 (53, ⟨.other, 1, 8, [.sc .nilFunc]⟩),
 (54, ⟨.other, 1, 8, [.sc .nilFunc]⟩),
 (55, ⟨.other, 1, 8, [.sc .nilFunc]⟩),
 (56, ⟨.other, 1, 8, [.sc .nilFunc]⟩),
 (57, ⟨.other, 1, 8, [.sc .nilFunc]⟩),
 (58, ⟨.ptr 31, 1, 8, [.sc (.pointer none)]⟩),
 (59, ⟨.other, 1, 8, [.sc .nilFunc]⟩),
 (60, ⟨.other, 1, 8, [.sc .nilFunc]⟩),
 (61, ⟨.other, 1, 8, [.sc .nilFunc]⟩),
 (62, ⟨.other, 1, 8, [.sc .nilFunc]⟩),
 (63, ⟨.other, 1, 8, [.sc .nilFunc]⟩),
 (64, ⟨.other, 1, 8, [.sc .nilFunc]⟩),
 (65, ⟨.other, 1, 8, [.sc .nilFunc]⟩),
 (66, ⟨.other, 1, 8, [.sc .nilFunc]⟩),
 (67, ⟨.other, 1, 8, [.sc .nilFunc]⟩),
 (68, ⟨.int .u64, 1, 8, [.sc (.int .u64 0)]⟩),
 (69, ⟨.other, 1, 8, [.sc .nilFunc]⟩),
 (70, ⟨.other, 1, 8, [.sc .nilFunc]⟩),
 (71, ⟨.other, 1, 8, [.sc .nilFunc]⟩),
 (72, ⟨.other, 1, 8, [.sc .nilFunc]⟩),
 (73, ⟨.other, 1, 8, [.sc .nilFunc]⟩),
 (74, ⟨.other, 1, 8, [.sc .nilFunc]⟩),
 (75, ⟨.other, 1, 8, [.sc .nilFunc]⟩),
 (76, ⟨.other, 1, 8, [.sc .nilFunc]⟩),
 (77, ⟨.other, 1, 8, [.sc .nilFunc]⟩),
 (78, ⟨.other, 1, 8, [.sc .nilFunc]⟩),
 (80, ⟨.other, 1, 8, [.sc .nilFunc]⟩),
 (81, ⟨.other, 1, 8, [.sc .nilFunc]⟩),
 (82, ⟨.other, 1, 8, [.sc .nilFunc]⟩),
 (84, ⟨.other, 1, 8, [.sc .nilFunc]⟩),
 (85, ⟨.slice 3, 1, 24, [.sl 0 [] true]⟩),
 (86, ⟨.other, 1, 8, [.sc .nilFunc]⟩),
 (87, ⟨.slice 24, 1, 24, [.sl 0 [] true]⟩),
 (88, ⟨.other, 1, 8, [.sc .nilFunc]⟩),
 (89, ⟨.other, 1, 8, [.sc .nilFunc]⟩),
 (90, ⟨.other, 1, 8, [.sc .nilFunc]⟩),
 (91, ⟨.other, 1, 8, [.sc .nilFunc]⟩),
 (92, ⟨.other, 1, 8, [.sc .nilFunc]⟩),
 (93, ⟨.struct [(0, 9), (1, 3)], 2, 24, [.sc (.string ⟨#[]⟩), .sc (.int .i64 0)]⟩),
 (94, ⟨.struct [(0, 9), (1, 3)], 2, 24, [.sc (.string ⟨#[]⟩), .sc (.int .i64 0)]⟩),
 (95, ⟨.arr 12 94, 24, 288, [.sc (.string ⟨#[]⟩), .sc (.int .i64 0), .sc (.string ⟨#[]⟩), .sc (.int .i64 0), .sc (.string ⟨#[]⟩), .sc (.int .i64 0), .sc (.string ⟨#[]⟩), .sc (.int .i64 0), .sc (.string ⟨#[]⟩), .sc (.int .i64 0), .sc (.string ⟨#[]⟩), .sc (.int .i64 0), .sc (.string ⟨#[]⟩), .sc (.int .i64 0), .sc (.string ⟨#[]⟩), .sc (.int .i64 0), .sc (.string ⟨#[]⟩), .sc (.int .i64 0), .sc (.string ⟨#[]⟩), .sc (.int .i64 0), .sc (.string ⟨#[]⟩), .sc (.int .i64 0), .sc (.string ⟨#[]⟩), .sc (.int .i64 0)]⟩),
 (96, ⟨.other, 1, 8, [.sc .nilFunc]⟩),
 (97, ⟨.other, 1, 8, [.sc .nilFunc]⟩),
 (103, ⟨.other, 1, 8, [.sc .nilFunc]⟩),
 (104, ⟨.int .u32, 1, 4, [.sc (.int .u32 0)]⟩),
 (107, ⟨.other, 1, 8, [.sc .nilFunc]⟩),
 (108, ⟨.ptr 5, 1, 8, [.sc (.pointer none)]⟩)]
theorem tab_ok : tab.ok Try.prog := Tab.ok_of (by kernel_rfl)
theorem mixed : Try.prog.follows .mixedOrders = true := by kernel_rfl
end Go.Proofs.Ytjicebidjfbkpaa
namespace Go.Proofs.Ytjicebidjfbkpaa
open Go.Sh
instance : Ok Try.prog tab := ⟨tab_ok, mixed⟩
theorem ixO_lt {α : Type} {xs : List α} {i : Nat} (h : i < xs.length) : ixO xs (i : Int) = some xs[i] := by
 unfold ixO
 rw [if_pos (by omega), Int.toNat_natCast, List.getElem?_eq_getElem h]
theorem fitO_eq {α : Type} {n b : Nat} {r : Option α} (h : n * b ≤ 140737488355328) : fitO n b r = r := by
 unfold fitO; rw [if_pos h]
def zipAll {α β : Type} (f : α → β → Bool) : List α → List β → Bool
 | [], [] => true
 | x :: l, y :: r => f x y && zipAll f l r
 | _, _ => false
theorem zipAll_beq {α : Type} [DecidableEq α] : ∀ (l r : List α), zipAll (fun x y => x == y) l r = (l == r)
 | [], [] => rfl
 | x :: l, y :: r => by
   rw [zipAll, zipAll_beq l r]
   rfl
 | [], _ :: _ => rfl
 | _ :: _, [] => rfl
theorem zipAll_len {α β : Type} {f : α → β → Bool} : ∀ {l : List α} {r : List β}, zipAll f l r = true → l.length = r.length
 | [], [], _ => rfl
 | x :: l, y :: r, h => by
   rw [zipAll, Bool.and_eq_true] at h
   rw [List.length_cons, List.length_cons, zipAll_len h.2]
 | [], _ :: _, h => by cases h
 | _ :: _, [], h => by cases h
theorem cmp_loop {α β ε ρ : Type} {e : ε} {v : ρ} (L : List α → Nat → Option (Sum ε ρ)) (s2 : List β) (f : α → β → Bool) (h0 : ∀ i, L [] i = some (.inl e)) (h1 : ∀ x rest i, L (x :: rest) i = (ixO s2 ((i : Nat) : Int)).bind fun x1 => bif (!(f x x1)) then some (.inr v) else L rest (i + 1)) :
  ∀ (l : List α) (i : Nat), l.length + i = s2.length → L l i = some (if zipAll f l (s2.drop i) then .inl e else .inr v)
 | [], i, q => by
   rw [h0, List.drop_eq_nil_of_le (by simp at q; omega)]
   rfl
 | x :: l, i, q => by
   have hlt : i < s2.length := by simp at q; omega
   rw [h1, ixO_lt hlt, Option.bind_some, cmp_loop L s2 f h0 h1 l (i + 1) (by simp at q; omega), List.drop_eq_getElem_cons hlt, zipAll]
   cases f x s2[i]
   ·rfl
   ·simp only [Bool.not_true, cond_false, Bool.true_and]
theorem len_bne {α β : Type} (f : α → AV) (g : β → AV) (a : List α) (b : List β) : ((((List.map f a).length : Nat) : Int) != (((List.map g b).length : Nat) : Int)) = !decide (a.length = b.length) := by
 rw [List.length_map, List.length_map]
 by_cases h : a.length = b.length
 ·rw [h]; simp
 ·simp [h]; omega
structure Act where
 Kind : Int
 Port : Int
 Field : Int
 Value : Int
 deriving DecidableEq, Inhabited
def Act.ch (r : Act) : List AV := [.sc (.int .i64 r.Kind), .sc (.int .i64 r.Port), .sc (.int .i64 r.Field), .sc (.int .u64 r.Value)]
def Act.av (r : Act) : AV := .agg [.sc (.int .i64 r.Kind), .sc (.int .i64 r.Port), .sc (.int .i64 r.Field), .sc (.int .u64 r.Value)]
structure Cube where
 Value : List Int
 Care : List Int
 deriving DecidableEq, Inhabited
def Cube.ch (r : Cube) : List AV := [.arr .u64 12 r.Value, .arr .u64 12 r.Care]
def Cube.av (r : Cube) : AV := .agg [.arr .u64 12 r.Value, .arr .u64 12 r.Care]
structure Rule where
 Match : Cube
 Prio : Int
 Acts : List Act
 Idle : Int
 Hard : Int
 Owner : Int
 Hits : Int
 Quiet : Int
 Age : Int
 deriving DecidableEq, Inhabited
def Rule.ch (r : Rule) : List AV := [.arr .u64 12 r.Match.Value, .arr .u64 12 r.Match.Care, .sc (.int .i64 r.Prio), .sl 34 (List.map Act.av r.Acts) false, .sc (.int .i64 r.Idle), .sc (.int .i64 r.Hard), .sc (.int .i64 r.Owner), .sc (.int .i64 r.Hits), .sc (.int .i64 r.Quiet), .sc (.int .i64 r.Age)]
def Rule.av (r : Rule) : AV := .agg [.arr .u64 12 r.Match.Value, .arr .u64 12 r.Match.Care, .sc (.int .i64 r.Prio), .sl 34 (List.map Act.av r.Acts) false, .sc (.int .i64 r.Idle), .sc (.int .i64 r.Hard), .sc (.int .i64 r.Owner), .sc (.int .i64 r.Hits), .sc (.int .i64 r.Quiet), .sc (.int .i64 r.Age)]
structure Mod where
 Kind : Int
 Match : Cube
 Prio : Int
 Acts : List Act
 Idle : Int
 Hard : Int
 Owner : Int
 Check : Bool
 deriving DecidableEq, Inhabited
def Mod.ch (r : Mod) : List AV := [.sc (.int .i64 r.Kind), .arr .u64 12 r.Match.Value, .arr .u64 12 r.Match.Care, .sc (.int .i64 r.Prio), .sl 34 (List.map Act.av r.Acts) false, .sc (.int .i64 r.Idle), .sc (.int .i64 r.Hard), .sc (.int .i64 r.Owner), .sc (.bool r.Check)]
def Mod.av (r : Mod) : AV := .agg [.sc (.int .i64 r.Kind), .arr .u64 12 r.Match.Value, .arr .u64 12 r.Match.Care, .sc (.int .i64 r.Prio), .sl 34 (List.map Act.av r.Acts) false, .sc (.int .i64 r.Idle), .sc (.int .i64 r.Hard), .sc (.int .i64 r.Owner), .sc (.bool r.Check)]
structure Field where
 name : ByteArray
 size : Int
 deriving DecidableEq, Inhabited
def Field.ch (r : Field) : List AV := [.sc (.string r.name), .sc (.int .i64 r.size)]
def Field.av (r : Field) : AV := .agg [.sc (.string r.name), .sc (.int .i64 r.size)]
end Go.Proofs.Ytjicebidjfbkpaa
namespace Go.Proofs.Ytjicebidjfbkpaa
open Go.Sh
end Go.Proofs.Ytjicebidjfbkpaa
namespace Go.Proofs.Ytjicebidjfbkpaa
open Go.Sh
end Go.Proofs.Ytjicebidjfbkpaa
namespace Go.Proofs.Ytjicebidjfbkpaa
open Go.Sh
end Go.Proofs.Ytjicebidjfbkpaa
namespace Go.Proofs.Ytjicebidjfbkpaa
open Go.Sh
end Go.Proofs.Ytjicebidjfbkpaa
namespace Go.Proofs.Ytjicebidjfbkpaa
open Go.Sh
end Go.Proofs.Ytjicebidjfbkpaa
namespace Go.Proofs.Ytjicebidjfbkpaa
open Go.Sh
noncomputable def z34_F : Go.Sh.Fn := ⟨34, bodyOf Try.f34, 8⟩
theorem z34_calls (s : List Act) (f_s : Bool) : ACalls Try.prog tab.S 34 [.sl 34 (List.map Act.av s) f_s] [] (.sl 34 (List.map Act.av s) false) [] := by
 have hG := tab_ok
 have hm := mixed
 have hE : Ent Try.prog 34 := ent_of Try.func34 (by kernel_rfl) (by kernel_rfl)
 cases s with
 | nil =>
  refine ACalls.empty hE fun p c => ?_
  refine ACalls.of_AR (G := tab) z34_F (fn := Try.f34) Try.func34 (by kernel_rfl) (by kernel_rfl) (by kernel_rfl) (Nat.le_of_ble_eq_true (by kernel_rfl)) ?_
  intro c0 hc0
  replace hc0 : c0.m.length = 0 := hc0
  refine AR.seg hG hm 4 [0] (k' := [.code [1, 0, 0], .code [1, 0, 1], .code [1, 1]]) (t' := [(0, .sc (.slice p 0 c))]) (h' := []) (by kernel_rfl) ?_
  refine AR.reg hm [.pure, .pure] (by kernel_rfl) ?_
  refine DK.seg hG 1 [0, 3] (t' := [(0, .sc (.slice p 0 c)), (3, .sc (.slice p 0 c))]) (h' := []) (by kernel_rfl) rfl ?_
  refine DK.op' [0, 4] (t' := [(0, .sc (.slice p 0 c)), (4, .sc (.bool p.isNone))]) (h' := []) (LSpec.nilEq hG (p := p) (l := 0) (c := c) (by kernel_rfl)) (by kernel_rfl) rfl (by kernel_rfl) rfl ?_
  refine DK.done (by kernel_rfl) (by kernel_rfl) ?_
  refine AR.cond (.tmp 4) p.isNone (by kernel_rfl) (by kernel_rfl) (fun hb => ?ht) (fun hb => ?hf)
  case ht =>
   refine AR.seg hG hm 2 [2] (k' := [.code [1, 0, 1, 0, 1], .code [1, 1]]) (t' := [(2, .sl 0 [] true)]) (h' := []) (by kernel_rfl) ?_
   exact AR.ret0 (fn := Try.f34) hG Try.func34 (by kernel_rfl) hc0 (r0 := .sl 0 [] true) (by kernel_rfl) (WkV.sl (Wk1.nil 34 false))
  case hf =>
   refine AR.seg hG hm 2 [0] (k' := [.code [1, 1, 0], .code [1, 1, 1]]) (t' := [(0, .sc (.slice p 0 c))]) (h' := []) (by kernel_rfl) ?_
   refine AR.reg hm [.pure, .pure, .pure, .pure] (by kernel_rfl) ?_
   refine DK.seg hG 2 [5, 6] (t' := [(5, .sl 34 [] true), (6, .sc (.slice p 0 c))]) (h' := []) (by kernel_rfl) rfl ?_
   refine DK.op' [7] (t' := [(7, .sl 34 [] true)]) (h' := []) (LSpec.app0 hG (e0 := 34) (rows := []) (f := true) (by kernel_rfl)) (by kernel_rfl) rfl (by kernel_rfl) rfl ?_
   refine DK.seg hG 1 [2] (t' := [(2, .sl 34 [] true)]) (h' := []) (by kernel_rfl) rfl ?_
   refine DK.done (by kernel_rfl) (by kernel_rfl) ?_
   exact AR.ret0 (fn := Try.f34) hG Try.func34 (by kernel_rfl) hc0 (r0 := .sl 34 [] true) (by kernel_rfl) (WkV.sl (Wk1.nil 34 false))
 | cons x xs =>
  refine ACalls.facts hE fun hf => ?_
  have hfit : (([] : List Act).length + (x :: xs).length) * 32 ≤ reach := by
   have h1 : (List.map Act.av (x :: xs)).length * 32 ≤ reach := hf.1.1
   simpa using h1
  refine ACalls.of_AR (G := tab) z34_F (fn := Try.f34) Try.func34 (by kernel_rfl) (by kernel_rfl) (by kernel_rfl) (Nat.le_of_ble_eq_true (by kernel_rfl)) ?_
  intro c0 hc0
  replace hc0 : c0.m.length = 0 := hc0
  refine AR.seg hG hm 4 [0] (k' := [.code [1, 0, 0], .code [1, 0, 1], .code [1, 1]]) (t' := [(0, .sl 34 (List.map Act.av (x :: xs)) f_s)]) (h' := []) (by kernel_rfl) ?_
  refine AR.reg hm [.pure, .pure] (by kernel_rfl) ?_
  refine DK.seg hG 1 [0, 3] (t' := [(0, .sl 34 (List.map Act.av (x :: xs)) f_s), (3, .sl 34 (List.map Act.av (x :: xs)) f_s)]) (h' := []) (by kernel_rfl) rfl ?_
  refine DK.op' [0, 4] (t' := [(0, .sl 34 (List.map Act.av (x :: xs)) f_s), (4, .sc (.bool false))]) (h' := []) (LSpec.neNil hG (by kernel_rfl)) (by kernel_rfl) rfl (by kernel_rfl) rfl ?_
  refine DK.done (by kernel_rfl) (by kernel_rfl) ?_
  refine AR.seg hG hm 3 [0] (k' := [.code [1, 1, 0], .code [1, 1, 1]]) (t' := [(0, .sl 34 (List.map Act.av (x :: xs)) f_s)]) (h' := []) (by kernel_rfl) ?_
  refine AR.reg hm [.pure, .pure, .loud, .pure] (by kernel_rfl) ?_
  refine DK.seg hG 2 [5, 6] (t' := [(5, .sl 34 [] true), (6, .sl 34 (List.map Act.av (x :: xs)) f_s)]) (h' := []) (by kernel_rfl) rfl ?_
  refine DK.op' [7] (t' := [(7, .own 0 1)]) (h' := [.row 34 (List.map Act.av ([] ++ (x :: xs))) 1 true]) (LSpec.appendN hG Act.av [] (x :: xs) 34 32 hfit (by kernel_rfl)) (by kernel_rfl) (by kernel_rfl) (by kernel_rfl) rfl ?_
  refine DK.seg hG 1 [2] (t' := [(2, .own 0 1)]) (h' := [.row 34 (List.map Act.av ([] ++ (x :: xs))) 1 true]) (by kernel_rfl) rfl ?_
  refine DK.done (by kernel_rfl) (by kernel_rfl) ?_
  exact AR.ret0 (fn := Try.f34) hG Try.func34 (by kernel_rfl) hc0 (r0 := .sl 34 (List.map Act.av (x :: xs)) false) (by kernel_rfl) (WkV.refl _)
noncomputable def z33_F : Go.Sh.Fn := ⟨33, bodyOf Try.f33, 9⟩
def z33_raw (s : List Act) : Option ((List Act)) :=
 (sliceO s none (some (((List.map Act.av s).length : Nat) : Int)) (some (((List.map Act.av s).length : Nat) : Int))).bind fun x =>
 some x
theorem z33_walk (s : List Act) (f_s : Bool) (r : (List Act)) (H : z33_raw s = some r) : ACalls Try.prog tab.S 33 [.sl 34 (List.map Act.av s) f_s] [] (.sl 34 (List.map Act.av r) true) [] := by
 refine .of_AX z33_F Try.func33 fun c0 hc0 => ?_
 rw [z33_raw] at H
 refine .sg 3 [0] (.rg (.sg 5 [3,5,7] (bndO H fun x hv H => (.so [8] Act.av hv (.sg 1 [2] (.dn ?_))))))
 obtain rfl := Option.some.inj H
 exact .ret Try.func33 hc0
theorem z33_calls (s : List Act) (f_s : Bool) : ACalls Try.prog tab.S 33 [.sl 34 (List.map Act.av s) f_s] [] (.sl 34 (List.map Act.av s) true) [] :=
 z33_walk s f_s s (by simp [z33_raw, sliceO])
noncomputable def z20_F : Go.Sh.Fn := ⟨20, bodyOf Try.f20, 9⟩
def z20_raw (s : List Rule) : Option ((List Rule)) :=
 (sliceO s none (some (((List.map Rule.av s).length : Nat) : Int)) (some (((List.map Rule.av s).length : Nat) : Int))).bind fun x =>
 some x
theorem z20_walk (s : List Rule) (f_s : Bool) (r : (List Rule)) (H : z20_raw s = some r) : ACalls Try.prog tab.S 20 [.sl 31 (List.map Rule.av s) f_s] [] (.sl 31 (List.map Rule.av r) true) [] := by
 refine .of_AX z20_F Try.func20 fun c0 hc0 => ?_
 rw [z20_raw] at H
 refine .sg 3 [0] (.rg (.sg 5 [3,5,7] (bndO H fun x hv H => (.so [8] Rule.av hv (.sg 1 [2] (.dn ?_))))))
 obtain rfl := Option.some.inj H
 exact .ret Try.func20 hc0
theorem z20_calls (s : List Rule) (f_s : Bool) : ACalls Try.prog tab.S 20 [.sl 31 (List.map Rule.av s) f_s] [] (.sl 31 (List.map Rule.av s) true) [] :=
 z20_walk s f_s s (by simp [z20_raw, sliceO])
noncomputable def z19_F : Go.Sh.Fn := ⟨19, bodyOf Try.f19, 9⟩
def z19 (r2 : Rule) : Rule :=
 r2
theorem z19_calls (r2 : Rule) : ACalls Try.prog tab.S 19 [Rule.av r2] [] (Rule.av (z19 r2)) [] := by
 generalize H : z19 r2 = r
 refine .of_AX z19_F Try.func19 fun c0 hc0 => ?_
 rw [z19] at H
 refine .sg 3 [1,2] (.rg (.sg 2 [1,2,4] (.cp [1,2,5] (z34_calls r2.Acts false) (.cp [1,2,6] (z33_calls r2.Acts false) (.sg 2 [1,2] (.dn (.sg 2 [2] ?_)))))))
 subst H
 exact .ret Try.func19 hc0 [] [(0, false)]
end Go.Proofs.Ytjicebidjfbkpaa
namespace Go.Proofs.Ytjicebidjfbkpaa
open Go.Sh
end Go.Proofs.Ytjicebidjfbkpaa
namespace Go.Proofs.Ytjicebidjfbkpaa
open Go.Sh
theorem copied_eq (x : Rule) : z19 x = x := rfl
end Go.Proofs.Ytjicebidjfbkpaa
namespace Go.Proofs.Ytjicebidjfbkpaa
open Go.Sh
noncomputable def z7_F : Go.Sh.Fn := ⟨7, bodyOf Try.f7, 20⟩
def z7_l0s : List Rule → List Rule → Option ((List Rule))
 | [], out =>
  some out
 | x :: rest, out =>
  fitO (out.length + [(z19 x)].length) 272 (
  z7_l0s rest (out ++ [(z19 x)]))
theorem z7_l0_walk (list : List Rule) (f_list : Bool) (r : (List Rule)) (c0 : Ctx) (hc0 : c0.m.length = 0) (res : (List Rule)) (J : AX Try.prog tab z7_F c0 (Rp tab.S c0 (.sl 31 (List.map Rule.av r) true) []) (some ⟨[.code [1, 1, 1]], [(3, .own 0 1000000)], [.row 31 (List.map Rule.av res) 1000000 true]⟩)) :
  ∀ (rest : List Rule) (t8 : Nat) (z : Int) (hI : z = ((t8 : Nat) : Int)) (hd : list.drop t8 = rest) (out : List Rule) (H : z7_l0s rest out = some res), AX Try.prog tab z7_F c0 (Rp tab.S c0 (.sl 31 (List.map Rule.av r) true) []) (some ⟨[.code [1, 1, 0, 1, 0, 0], .loop [1, 1, 0, 1, 0], .blk 0, .code [1, 1, 1]], [(3, .own 0 1000000), (6, .sl 31 (List.map Rule.av list) f_list), (7, .sc (.int .i64 (((List.map Rule.av list).length : Nat) : Int))), (8, .sc (.int .i64 z))], [.row 31 (List.map Rule.av out) 1000000 true]⟩) := by
 intro rest
 induction rest with
 | nil =>
  intro t8 z hI hd out H
  subst hI
  rw [z7_l0s] at H
  refine .facts 6 fun hf => ?_
  have hlen : list.length ≤ 9223372036854775807 := by have hq := len_ok hf.2.1; rw [List.length_map] at hq; exact hq
  have hge : list.length ≤ t8 := List.drop_eq_nil_iff.1 hd
  have hc : (decide (((t8 : Nat) : Int) < (((List.map Rule.av list).length : Nat) : Int))) = false := by rw [List.length_map]; exact decide_eq_false (by omega)
  refine .sg 3 [3,6,7,8,9] (.cdF hc (.sg 1 [3] (.kp [3] ?_)))
  obtain rfl := Option.some.inj H
  exact .to J
 | cons x rest ih =>
  intro t8 z hI hd out H
  subst hI
  rw [z7_l0s] at H
  refine .facts 6 fun hf => ?_
  have hlen : list.length ≤ 9223372036854775807 := by have hq := len_ok hf.2.1; rw [List.length_map] at hq; exact hq
  obtain ⟨hlt, hv_t8, hd2⟩ := drop_cons hd
  have hc : (decide (((t8 : Nat) : Int) < (((List.map Rule.av list).length : Nat) : Int))) = true := by rw [List.length_map]; exact decide_eq_true (by omega)
  have hw : IntKind.i64.wrap (((t8 : Nat) : Int) + 1) = ((t8 + 1 : Nat) : Int) := wrapI_succ (by omega)
  exact .sg 3 [3,6,7,8,9] (.cdT hc (.sg 4 [3,6,7,8] (.rg (.xi [3,6,7,8,10] Rule.av hv_t8 (.sg 3 [3,5,6,7,8] (.dn (.rg (.sg 2 [6,7,8,12,13] (.cp [6,7,8,12,14] (z19_calls x) (.sg 1 [6,7,8,12,15] (fitH H fun hfit H => (.ap [6,7,8,16] Rule.av hfit (.sg 1 [3,6,7,8] (.dn (.sg 2 [3,6,7,8] (.tl hc0 [0] [3,6,7,8] (.into (.cl (ih (t8 + 1) _ hw hd2 (out ++ [(z19 x)]) H)))))))))))))))))))
def z7_raw (list : List Rule) : Option ((List Rule)) :=
 (z7_l0s list ([] : List Rule)).bind fun v =>
 some v
theorem z7_walk (list : List Rule) (f_list : Bool) (r : (List Rule)) (H : z7_raw list = some r) : ACalls Try.prog tab.S 7 [.sl 31 (List.map Rule.av list) f_list] [] (.sl 31 (List.map Rule.av r) true) [] := by
 refine .of_AX z7_F Try.func7 fun c0 hc0 => ?_
 rw [z7_raw] at H
 refine .sg 8 [3,6,7,8] (.ad 3 31 true (.kp [3,6,7,8] ?_))
 refine bndO H fun v hv H => (.into (.to (z7_l0_walk list f_list r c0 hc0 v ?_ list 0 _ rfl rfl ([] : List Rule) hv)))
 refine .sg 1 [3] (.rg (.sg 1 [18] (.cc [19] [0] (z20_calls v false) (.sg 1 [2] (.dn ?_)))))
 obtain rfl := Option.some.inj H
 exact .ret Try.func7 hc0
theorem z7_l0s_eq : ∀ (l out : List Rule), (out.length + l.length) * 272 ≤ 140737488355328 → z7_l0s l out = some (out ++ l)
 | [], out, _ => by rw [z7_l0s, List.append_nil]
 | x :: l, out, h => by
   rw [List.length_cons] at h
   rw [z7_l0s, fitO_eq (by rw [List.length_cons, List.length_nil]; omega), z7_l0s_eq l (out ++ [z19 x]) (by rw [List.length_append, List.length_cons, List.length_nil]; omega), copied_eq, List.append_assoc]
   rfl
theorem z7_ok (l : List Rule) (f : Bool) : ACalls Try.prog tab.S 7 [.sl 31 (List.map Rule.av l) f] [] (.sl 31 (List.map Rule.av l) true) [] := by
 refine ACalls.facts (ent_of Try.func7 (by kernel_rfl) (by kernel_rfl)) fun hf => ?_
 have l0 : l.length * 272 ≤ 140737488355328 := by have h := hf.1.1; rw [List.length_map] at h; exact h
 refine z7_walk l f _ ?_
 rw [z7_raw, z7_l0s_eq l [] (by rw [List.length_nil, Nat.zero_add]; exact l0)]
 rfl
end Go.Proofs.Ytjicebidjfbkpaa
namespace Go.Proofs.Ytjicebidjfbkpaa
open Go.Sh
end Go.Proofs.Ytjicebidjfbkpaa
namespace Go.Proofs.Ytjicebidjfbkpaa
open Go.Sh
theorem Act.beq_eq (x y : Act) : ((x.Kind == y.Kind) && ((x.Port == y.Port) && ((x.Field == y.Field) && (x.Value == y.Value)))) = (x == y) := by
 rw [Bool.eq_iff_iff]
 simp only [Bool.and_eq_true, beq_iff_eq]
 cases x; cases y
 simp
theorem zipAll_ne {α β : Type} (f : α → β → Bool) {a : List α} {b : List β} (h : ¬ a.length = b.length) : zipAll f a b = false := by
 rw [Bool.eq_false_iff]
 exact fun q => h (zipAll_len q)
noncomputable def z35_F : Go.Sh.Fn := ⟨35, bodyOf Try.f35, 26⟩
def z35_l0s (b : List Act) : List Act → Nat → Option (Sum (Unit) (Bool))
 | [], i =>
  some (.inl ())
 | x :: rest, i =>
  (ixO b ((i : Nat) : Int)).bind fun x1 =>
  (bif (!((x.Kind == x1.Kind) && ((x.Port == x1.Port) && ((x.Field == x1.Field) && (x.Value == x1.Value))))) then
   some (.inr false)
  else
   z35_l0s b rest (i + 1) )
theorem z35_l0_walk (a : List Act) (b : List Act) (f_a : Bool) (f_b : Bool) (r : Bool) (c0 : Ctx) (hc0 : c0.m.length = 0) (res : Sum (Unit) (Bool)) (J : ∀ w : Unit, res = .inl w → AX Try.prog tab z35_F c0 (Rp tab.S c0 (.sc (.bool r)) []) (some ⟨[.code [1, 1, 1]], [], []⟩)) (Jr : ∀ w, res = .inr w → w = r) :
  ∀ (rest : List Act) (i : Nat) (z : Int) (hI : z = ((i : Nat) : Int)) (hd : a.drop i = rest) (H : z35_l0s b rest i = some res), AX Try.prog tab z35_F c0 (Rp tab.S c0 (.sc (.bool r)) []) (some ⟨[.code [1, 1, 0, 1, 0, 0], .loop [1, 1, 0, 1, 0], .blk 0, .code [1, 1, 1]], [(0, .sl 34 (List.map Act.av a) f_a), (1, .sl 34 (List.map Act.av b) f_b), (5, .sc (.int .i64 z))], []⟩) := by
 intro rest
 induction rest with
 | nil =>
  intro i z hI hd  H
  subst hI
  rw [z35_l0s] at H
  refine .facts 0 fun hf => ?_
  have hlen : a.length ≤ 9223372036854775807 := by have hq := len_ok hf.2.1; rw [List.length_map] at hq; exact hq
  have hge : a.length ≤ i := List.drop_eq_nil_iff.1 hd
  have hc : (decide (((i : Nat) : Int) < (((List.map Act.av a).length : Nat) : Int))) = false := by rw [List.length_map]; exact decide_eq_false (by omega)
  exact .sg 3 [0,1,5,14] (.cdF hc (.sg 1 [] (.kp [] (.to (J () (Option.some.inj H).symm)))))
 | cons x rest ih =>
  intro i z hI hd  H
  subst hI
  rw [z35_l0s] at H
  refine .facts 0 fun hf => ?_
  have hlen : a.length ≤ 9223372036854775807 := by have hq := len_ok hf.2.1; rw [List.length_map] at hq; exact hq
  obtain ⟨hlt, hv_i, hd2⟩ := drop_cons hd
  have hc : (decide (((i : Nat) : Int) < (((List.map Act.av a).length : Nat) : Int))) = true := by rw [List.length_map]; exact decide_eq_true (by omega)
  have hw : IntKind.i64.wrap (((i : Nat) : Int) + 1) = ((i + 1 : Nat) : Int) := wrapI_succ (by omega)
  refine .sg 3 [0,1,5,14] (.cdT hc (.sg 4 [0,1,5] (.rg (.sg 2 [0,1,5,17,18] (.xi [0,1,5,19] Act.av hv_i (.sg 3 [0,1,5,20,21,22] (bndO H fun x1 hv H => (.xi [0,1,5,20,23] Act.av hv (.sg 1 [0,1,5,20,24] (.eq_ [0,1,5,25] 9 (.dn (.cd (!((x.Kind == x1.Kind) && ((x.Port == x1.Port) && ((x.Field == x1.Field) && (x.Value == x1.Value))))) H (fun hb H => ?_) (fun hb H => ?_)))))))))))))
  ·
   refine .sg 2 [4] ?_
   obtain rfl := Option.some.inj H
   obtain rfl := Jr _ rfl
   exact .ret Try.func35 hc0
  ·
   exact .sg 3 [0,1,5] (.kp [0,1,5] (.into (.cl (ih (i + 1) _ hw hd2 H))))
def z35_raw (a : List Act) (b : List Act) : Option (Bool) :=
 (bif ((((List.map Act.av a).length : Nat) : Int) != (((List.map Act.av b).length : Nat) : Int)) then
  some false
 else
  loopO (z35_l0s b a 0) fun v =>
  some true)
theorem z35_walk (a : List Act) (b : List Act) (f_a : Bool) (f_b : Bool) (r : Bool) (H : z35_raw a b = some r) : ACalls Try.prog tab.S 35 [.sl 34 (List.map Act.av a) f_a, .sl 34 (List.map Act.av b) f_b] [] (.sc (.bool r)) [] := by
 refine .of_AX z35_F Try.func35 fun c0 hc0 => ?_
 rw [z35_raw] at H
 refine .sg 5 [0,1,10] (.cd ((((List.map Act.av a).length : Nat) : Int) != (((List.map Act.av b).length : Nat) : Int)) H (fun hb H => ?_) (fun hb H => ?_))
 ·
  refine .sg 2 [4] ?_
  obtain rfl := Option.some.inj H
  exact .ret Try.func35 hc0
 ·
  refine .sg 5 [0,1,5] ?_
  rcases loopO_some H with ⟨v, hv, H⟩ | hv
  case inr =>
   exact .into (.to (z35_l0_walk a b f_a f_b _ c0 hc0 (.inr _) (fun _ e => by cases e) (fun _ e => (Sum.inr.inj e).symm) a 0 _ rfl rfl hv))
  refine .into (.to (z35_l0_walk a b f_a f_b r c0 hc0 (.inl v) (fun w e => ?_) (fun _ e => by cases e) a 0 _ rfl rfl hv))
  have e := Sum.inl.inj e
  subst e
  refine .sg 2 [4] ?_
  obtain rfl := Option.some.inj H
  exact .ret Try.func35 hc0
theorem z35_ok (a b : List Act) (f_a f_b : Bool) : ACalls Try.prog tab.S 35 [.sl 34 (List.map Act.av a) f_a, .sl 34 (List.map Act.av b) f_b] [] (.sc (.bool (a == b))) [] := by
 refine z35_walk a b f_a f_b _ ?_
 rw [z35_raw, len_bne]
 by_cases h : a.length = b.length
 ·simp only [h, decide_true, Bool.not_true, cond_false]
  rw [cmp_loop (v := false) (z35_l0s b) b (fun x y => x == y) (fun _ => rfl) (fun x r i => by rw [z35_l0s]; simp only [Act.beq_eq]) a 0 (by omega), List.drop_zero, zipAll_beq]
  cases a == b <;> rfl
 ·have e : (a == b) = false := by
   rw [beq_eq_false_iff_ne]
   intro e
   exact h (by rw [e])
  rw [e]
  simp only [h, decide_false, Bool.not_false, cond_true]
noncomputable def z47_F : Go.Sh.Fn := ⟨47, bodyOf Try.f47, 17⟩
def z47 (a : Rule) (b : Rule) : Bool :=
 (((a.Match.Value == b.Match.Value) && (a.Match.Care == b.Match.Care)) && (a.Prio == b.Prio))
theorem z47_calls (a : Rule) (b : Rule) : ACalls Try.prog tab.S 47 [Rule.av a, Rule.av b] [] (.sc (.bool (z47 a b))) [] := by
 generalize H : z47 a b = r
 refine .of_AX z47_F Try.func47 fun c0 hc0 => ?_
 rw [z47] at H
 refine .sg 3 [2,3] (.rg (.sg 4 [2,3,6,8] (.eq_ [2,3,9] 9 (.sg 1 [2,3,10] (.mx 0 [16] (.sg 1 [4] (.dn ?_)))))))
 subst H
 exact .ret Try.func47 hc0
noncomputable def z28_F : Go.Sh.Fn := ⟨28, bodyOf Try.f28, 57⟩
def z28 (a : Rule) (b : Rule) : Bool :=
 ((((((((z47 a b) && (a.Acts == b.Acts)) && (a.Idle == b.Idle)) && (a.Hard == b.Hard)) && (a.Owner == b.Owner)) && (a.Hits == b.Hits)) && (a.Quiet == b.Quiet)) && (a.Age == b.Age))
theorem z28_calls (a : Rule) (b : Rule) : ACalls Try.prog tab.S 28 [Rule.av a, Rule.av b] [] (.sc (.bool (z28 a b))) [] := by
 generalize H : z28 a b = r
 refine .of_AX z28_F Try.func28 fun c0 hc0 => ?_
 rw [z28] at H
 refine .sg 3 [2,3] (.rg (.sg 2 [2,3,5,6] (.cp [2,3,7] (z47_calls a b) (.sg 1 [2,3,8] (.mm 8 (z47 a b) 6 [.pure, .pure, .read, .pure, .read, .pure] [2, 3, 14] 14 (fun z => .sc (.bool (z && (a.Acts == b.Acts)))) ?J1 (fun hb J => ?ht1) (fun hb J => ?hf1))))))
 case ht1 =>
  exact .sg 4 [2,3,8,10,12] (.cp [2,3,8,13] (z35_ok a.Acts b.Acts false false) (.sg 1 [2,3,14] (.cl J)))
 case hf1 =>
  exact .sg 6 [2,3,14] (.cl J)
 refine .sg 1 [2,3,15] (.mx 0 [2,3,21] (.sg 1 [2,3,22] (.mx 0 [2,3,28] (.sg 1 [2,3,29] (.mx 0 [2,3,35] (.sg 1 [2,3,36] (.mx 0 [2,3,42] (.sg 1 [2,3,43] (.mx 0 [2,3,49] (.sg 1 [2,3,50] (.mx 0 [56] (.sg 1 [4] (.dn ?_)))))))))))))
 subst H
 exact .ret Try.func28 hc0
noncomputable def z13_F : Go.Sh.Fn := ⟨13, bodyOf Try.f13, 27⟩
def z13_l0s (b : List Rule) : List Rule → Nat → Option (Sum (Unit) (Bool))
 | [], i =>
  some (.inl ())
 | x :: rest, i =>
  (ixO b ((i : Nat) : Int)).bind fun x1 =>
  (bif (!(z28 x x1)) then
   some (.inr false)
  else
   z13_l0s b rest (i + 1) )
theorem z13_l0_walk (a : List Rule) (b : List Rule) (f_a : Bool) (f_b : Bool) (r : Bool) (c0 : Ctx) (hc0 : c0.m.length = 0) (res : Sum (Unit) (Bool)) (J : ∀ w : Unit, res = .inl w → AX Try.prog tab z13_F c0 (Rp tab.S c0 (.sc (.bool r)) []) (some ⟨[.code [1, 1, 1]], [], []⟩)) (Jr : ∀ w, res = .inr w → w = r) :
  ∀ (rest : List Rule) (i : Nat) (z : Int) (hI : z = ((i : Nat) : Int)) (hd : a.drop i = rest) (H : z13_l0s b rest i = some res), AX Try.prog tab z13_F c0 (Rp tab.S c0 (.sc (.bool r)) []) (some ⟨[.code [1, 1, 0, 1, 0, 0], .loop [1, 1, 0, 1, 0], .blk 0, .code [1, 1, 1]], [(0, .sl 31 (List.map Rule.av a) f_a), (1, .sl 31 (List.map Rule.av b) f_b), (5, .sc (.int .i64 z))], []⟩) := by
 intro rest
 induction rest with
 | nil =>
  intro i z hI hd  H
  subst hI
  rw [z13_l0s] at H
  refine .facts 0 fun hf => ?_
  have hlen : a.length ≤ 9223372036854775807 := by have hq := len_ok hf.2.1; rw [List.length_map] at hq; exact hq
  have hge : a.length ≤ i := List.drop_eq_nil_iff.1 hd
  have hc : (decide (((i : Nat) : Int) < (((List.map Rule.av a).length : Nat) : Int))) = false := by rw [List.length_map]; exact decide_eq_false (by omega)
  exact .sg 3 [0,1,5,14] (.cdF hc (.sg 1 [] (.kp [] (.to (J () (Option.some.inj H).symm)))))
 | cons x rest ih =>
  intro i z hI hd  H
  subst hI
  rw [z13_l0s] at H
  refine .facts 0 fun hf => ?_
  have hlen : a.length ≤ 9223372036854775807 := by have hq := len_ok hf.2.1; rw [List.length_map] at hq; exact hq
  obtain ⟨hlt, hv_i, hd2⟩ := drop_cons hd
  have hc : (decide (((i : Nat) : Int) < (((List.map Rule.av a).length : Nat) : Int))) = true := by rw [List.length_map]; exact decide_eq_true (by omega)
  have hw : IntKind.i64.wrap (((i : Nat) : Int) + 1) = ((i + 1 : Nat) : Int) := wrapI_succ (by omega)
  refine .sg 3 [0,1,5,14] (.cdT hc (.sg 4 [0,1,5] (.rg (.sg 2 [0,1,5,17,18] (.xi [0,1,5,19] Rule.av hv_i (.sg 3 [0,1,5,20,21,22] (bndO H fun x1 hv H => (.xi [0,1,5,20,23] Rule.av hv (.sg 1 [0,1,5,20,24] (.cp [0,1,5,25] (z28_calls x x1) (.sg 1 [0,1,5,26] (.dn (.cd (!(z28 x x1)) H (fun hb H => ?_) (fun hb H => ?_))))))))))))))
  ·
   refine .sg 2 [4] ?_
   obtain rfl := Option.some.inj H
   obtain rfl := Jr _ rfl
   exact .ret Try.func13 hc0
  ·
   exact .sg 3 [0,1,5] (.kp [0,1,5] (.into (.cl (ih (i + 1) _ hw hd2 H))))
def z13_raw (a : List Rule) (b : List Rule) : Option (Bool) :=
 (bif ((((List.map Rule.av a).length : Nat) : Int) != (((List.map Rule.av b).length : Nat) : Int)) then
  some false
 else
  loopO (z13_l0s b a 0) fun v =>
  some true)
theorem z13_walk (a : List Rule) (b : List Rule) (f_a : Bool) (f_b : Bool) (r : Bool) (H : z13_raw a b = some r) : ACalls Try.prog tab.S 13 [.sl 31 (List.map Rule.av a) f_a, .sl 31 (List.map Rule.av b) f_b] [] (.sc (.bool r)) [] := by
 refine .of_AX z13_F Try.func13 fun c0 hc0 => ?_
 rw [z13_raw] at H
 refine .sg 5 [0,1,10] (.cd ((((List.map Rule.av a).length : Nat) : Int) != (((List.map Rule.av b).length : Nat) : Int)) H (fun hb H => ?_) (fun hb H => ?_))
 ·
  refine .sg 2 [4] ?_
  obtain rfl := Option.some.inj H
  exact .ret Try.func13 hc0
 ·
  refine .sg 5 [0,1,5] ?_
  rcases loopO_some H with ⟨v, hv, H⟩ | hv
  case inr =>
   exact .into (.to (z13_l0_walk a b f_a f_b _ c0 hc0 (.inr _) (fun _ e => by cases e) (fun _ e => (Sum.inr.inj e).symm) a 0 _ rfl rfl hv))
  refine .into (.to (z13_l0_walk a b f_a f_b r c0 hc0 (.inl v) (fun w e => ?_) (fun _ e => by cases e) a 0 _ rfl rfl hv))
  have e := Sum.inl.inj e
  subst e
  refine .sg 2 [4] ?_
  obtain rfl := Option.some.inj H
  exact .ret Try.func13 hc0
theorem z13_ok (a b : List Rule) (f_a f_b : Bool) : ACalls Try.prog tab.S 13 [.sl 31 (List.map Rule.av a) f_a, .sl 31 (List.map Rule.av b) f_b] [] (.sc (.bool (zipAll z28 a b))) [] := by
 refine z13_walk a b f_a f_b _ ?_
 rw [z13_raw, len_bne]
 by_cases h : a.length = b.length
 ·simp only [h, decide_true, Bool.not_true, cond_false]
  rw [cmp_loop (v := false) (z13_l0s b) b z28 (fun _ => rfl) (fun x r i => by rw [z13_l0s]) a 0 (by omega), List.drop_zero]
  cases zipAll z28 a b <;> rfl
 ·rw [zipAll_ne _ h]
  simp only [h, decide_false, Bool.not_false, cond_true]
theorem ref_Equal_eq (a b : Rule) : z28 a b = (a == b) := by
 obtain ⟨⟨v, c⟩, p, ac, i1, h1, o1, h2, q1, g1⟩ := a
 obtain ⟨⟨v', c'⟩, p', ac', i1', h1', o1', h2', q1', g1'⟩ := b
 rw [z28, z47, Bool.eq_iff_iff]
 simp only [Bool.and_eq_true, beq_iff_eq, Rule.mk.injEq, Cube.mk.injEq]
 constructor
 ·rintro ⟨⟨⟨⟨⟨⟨⟨⟨⟨a2, a3⟩, a4⟩, a1⟩, a5⟩, a6⟩, a7⟩, a8⟩, a9⟩, a10⟩
  exact ⟨⟨a2, a3⟩, a4, a1, a5, a6, a7, a8, a9, a10⟩
 ·rintro ⟨⟨a2, a3⟩, a4, a1, a5, a6, a7, a8, a9, a10⟩
  exact ⟨⟨⟨⟨⟨⟨⟨⟨⟨a2, a3⟩, a4⟩, a1⟩, a5⟩, a6⟩, a7⟩, a8⟩, a9⟩, a10⟩
theorem ref_Same_eq (a b : List Rule) : zipAll z28 a b = (a == b) := by
 rw [← zipAll_beq]
 exact congrArg (fun f => zipAll f a b) (funext fun x => funext fun y => ref_Equal_eq x y)
end Go.Proofs.Ytjicebidjfbkpaa
namespace Go.Proofs.Ytjicebidjfbkpaa
open Go.Sh
end Go.Proofs.Ytjicebidjfbkpaa
namespace Go.Proofs.Ytjicebidjfbkpaa
open Go.Sh
noncomputable def z26_F : Go.Sh.Fn := ⟨26, bodyOf Try.f26, 14⟩
def z26 (a : Int) (n : Int) : Int :=
 (bif (decide (a ≥ (IntKind.i64.wrap (4611686018427387904 - n)))) then
  (if 4611686018427387904 > a then 4611686018427387904 else a)
 else
  (IntKind.i64.wrap (a + n)))
theorem z26_calls (a : Int) (n : Int) : ACalls Try.prog tab.S 26 [.sc (.int .i64 a), .sc (.int .i64 n)] [] (.sc (.int .i64 (z26 a n))) [] := by
 generalize H : z26 a n = r
 refine .of_AX z26_F Try.func26 fun c0 hc0 => ?_
 rw [z26] at H
 refine .sg 5 [0,1,8] (.cd (decide (a ≥ (IntKind.i64.wrap (4611686018427387904 - n)))) H (fun hb H => ?_) (fun hb H => ?_))
 ·
  refine .sg 2 [4] ?_
  subst H
  exact .ret Try.func26 hc0
 ·
  refine .sg 3 [4] ?_
  subst H
  exact .ret Try.func26 hc0
noncomputable def z27_F : Go.Sh.Fn := ⟨27, bodyOf Try.f27, 25⟩
def z27 (r2 : Rule) : Bool :=
 (((decide (r2.Hard > 0)) && (decide (r2.Age ≥ r2.Hard))) || ((decide (r2.Idle > 0)) && (decide (r2.Quiet ≥ r2.Idle))))
theorem z27_calls (r2 : Rule) : ACalls Try.prog tab.S 27 [Rule.av r2] [] (.sc (.bool (z27 r2))) [] := by
 generalize H : z27 r2 = r
 refine .of_AX z27_F Try.func27 fun c0 hc0 => ?_
 rw [z27] at H
 refine .sg 3 [1] (.rg (.sg 4 [1,6] (.mx 0 [1,12] (.sg 1 [1,13] (.mm 13 ((decide (r2.Hard > 0)) && (decide (r2.Age ≥ r2.Hard))) 11 [.pure, .pure, .pure, .read, .pure, .read, .pure, .pure, .pure, .read, .pure] [24] 24 (fun z => .sc (.bool (z || ((decide (r2.Idle > 0)) && (decide (r2.Quiet ≥ r2.Idle)))))) ?J3 (fun hb J => ?ht3) (fun hb J => ?hf3))))))
 case ht3 =>
  exact .sg 11 [24] (.cl J)
 case hf3 =>
  exact .sg 4 [1,13,17] (.mx 0 [13,23] (.sg 1 [24] (.cl J)))
 refine .sg 1 [2] (.dn ?_)
 subst H
 exact .ret Try.func27 hc0
noncomputable def z11_F : Go.Sh.Fn := ⟨11, bodyOf Try.f11, 41⟩
def z11_l0s (n1 : Int) : List Rule → List Rule → List Rule → Option ((List Rule) × (List Rule))
 | [], gone, left =>
  some (gone, left)
 | x :: rest, gone, left =>
  (bif (z27 ({ x with Quiet := (z26 x.Quiet n1), Age := (z26 x.Age n1) } : Rule)) then
   fitO (gone.length + [({ x with Quiet := (z26 x.Quiet n1), Age := (z26 x.Age n1) } : Rule)].length) 272 (
   z11_l0s n1 rest (gone ++ [({ x with Quiet := (z26 x.Quiet n1), Age := (z26 x.Age n1) } : Rule)]) left)
  else
   fitO (left.length + [({ x with Quiet := (z26 x.Quiet n1), Age := (z26 x.Age n1) } : Rule)].length) 272 (
   z11_l0s n1 rest gone (left ++ [({ x with Quiet := (z26 x.Quiet n1), Age := (z26 x.Age n1) } : Rule)])))
theorem z11_l0_walk (list : List Rule) (n : Int) (n1 : Int) (f_list : Bool) (r : (List Rule) × (List Rule)) (c0 : Ctx) (hc0 : c0.m.length = 0) (res : (List Rule) × (List Rule)) (J : AX Try.prog tab z11_F c0 (Rp tab.S c0 (.tup [.sl 31 (List.map Rule.av r.1) false, .sl 31 (List.map Rule.av r.2) false]) []) (some ⟨[.code [1, 1, 1]], [(4, .own 1 1000000), (5, .own 0 1000000)], [.row 31 (List.map Rule.av res.1) 1000000 true, .row 31 (List.map Rule.av res.2) 1000000 true]⟩)) :
  ∀ (rest : List Rule) (t14 : Nat) (z : Int) (hI : z = ((t14 : Nat) : Int)) (hd : list.drop t14 = rest) (gone : List Rule) (left : List Rule) (H : z11_l0s n1 rest gone left = some res), AX Try.prog tab z11_F c0 (Rp tab.S c0 (.tup [.sl 31 (List.map Rule.av r.1) false, .sl 31 (List.map Rule.av r.2) false]) []) (some ⟨[.code [1, 1, 0, 1, 0, 0], .loop [1, 1, 0, 1, 0], .blk 0, .code [1, 1, 1]], [(1, .sc (.int .i64 n1)), (4, .own 1 1000000), (5, .own 0 1000000), (12, .sl 31 (List.map Rule.av list) true), (13, .sc (.int .i64 (((List.map Rule.av list).length : Nat) : Int))), (14, .sc (.int .i64 z))], [.row 31 (List.map Rule.av gone) 1000000 true, .row 31 (List.map Rule.av left) 1000000 true]⟩) := by
 intro rest
 induction rest with
 | nil =>
  intro t14 z hI hd gone left H
  subst hI
  rw [z11_l0s] at H
  refine .facts 12 fun hf => ?_
  have hlen : list.length ≤ 9223372036854775807 := by have hq := len_ok hf.2.1; rw [List.length_map] at hq; exact hq
  have hge : list.length ≤ t14 := List.drop_eq_nil_iff.1 hd
  have hc : (decide (((t14 : Nat) : Int) < (((List.map Rule.av list).length : Nat) : Int))) = false := by rw [List.length_map]; exact decide_eq_false (by omega)
  refine .sg 3 [1,4,5,12,13,14,15] (.cdF hc (.sg 1 [4,5] (.kp [4,5] ?_)))
  obtain rfl := Option.some.inj H
  exact .to J
 | cons x rest ih =>
  intro t14 z hI hd gone left H
  subst hI
  rw [z11_l0s] at H
  refine .facts 12 fun hf => ?_
  have hlen : list.length ≤ 9223372036854775807 := by have hq := len_ok hf.2.1; rw [List.length_map] at hq; exact hq
  obtain ⟨hlt, hv_t14, hd2⟩ := drop_cons hd
  have hc : (decide (((t14 : Nat) : Int) < (((List.map Rule.av list).length : Nat) : Int))) = true := by rw [List.length_map]; exact decide_eq_true (by omega)
  have hw : IntKind.i64.wrap (((t14 : Nat) : Int) + 1) = ((t14 + 1 : Nat) : Int) := wrapI_succ (by omega)
  refine .sg 3 [1,4,5,12,13,14,15] (.cdT hc (.sg 4 [1,4,5,12,13,14] (.rg (.xi [1,4,5,12,13,14,16] Rule.av hv_t14 (.sg 3 [1,4,5,7,12,13,14] (.dn (.sg 1 [1,4,5,7,12,13,14] (.rg (.sg 3 [1,4,5,7,12,13,14,19,20] (.cp [1,4,5,7,12,13,14,21] (z26_calls x.Age n1) (.sg 3 [1,4,5,7,12,13,14,21,23,24] (.cp [1,4,5,7,12,13,14,21,25] (z26_calls x.Quiet n1) (.sg 4 [1,4,5,7,12,13,14] (.dn (.sg 2 [1,4,5,7,12,13,14] (.rg (.sg 1 [1,4,5,7,12,13,14,28] (.cp [1,4,5,7,12,13,14,29] (z27_calls ({ x with Quiet := (z26 x.Quiet n1), Age := (z26 x.Age n1) } : Rule)) (.dn (.cd (z27 ({ x with Quiet := (z26 x.Quiet n1), Age := (z26 x.Age n1) } : Rule)) H (fun hb H => ?_) (fun hb H => ?_)))))))))))))))))))))
  ·
   exact .sg 1 [1,4,5,7,12,13,14] (.rg (.sg 3 [1,4,12,13,14,30,32] (fitH H fun hfit H => (.ap [1,4,12,13,14,33] Rule.av hfit (.sg 1 [1,4,5,12,13,14] (.dn (.sg 2 [1,4,5,12,13,14] (.tl hc0 [0,1] [1,4,5,12,13,14] (.into (.cl (ih (t14 + 1) _ hw hd2 (gone ++ [({ x with Quiet := (z26 x.Quiet n1), Age := (z26 x.Age n1) } : Rule)]) left H)))))))))))
  ·
   exact .sg 1 [1,4,5,7,12,13,14] (.rg (.sg 3 [1,5,12,13,14,34,36] (fitH H fun hfit H => (.ap [1,5,12,13,14,37] Rule.av hfit (.sg 1 [1,4,5,12,13,14] (.dn (.sg 2 [1,4,5,12,13,14] (.tl hc0 [0,1] [1,4,5,12,13,14] (.into (.cl (ih (t14 + 1) _ hw hd2 gone (left ++ [({ x with Quiet := (z26 x.Quiet n1), Age := (z26 x.Age n1) } : Rule)]) H)))))))))))
def z11_raw (list : List Rule) (n : Int) : Option ((List Rule) × (List Rule)) :=
 (z11_l0s (if 1048576 < (if 0 > n then 0 else n) then 1048576 else (if 0 > n then 0 else n)) list ([] : List Rule) ([] : List Rule)).bind fun v =>
 some (v.2, v.1)
theorem z11_walk (list : List Rule) (n : Int) (f_list : Bool) (r : (List Rule) × (List Rule)) (H : z11_raw list n = some r) : ACalls Try.prog tab.S 11 [.sl 31 (List.map Rule.av list) f_list, .sc (.int .i64 n)] [] (.tup [.sl 31 (List.map Rule.av r.1) false, .sl 31 (List.map Rule.av r.2) false]) [] := by
 refine .of_AX z11_F Try.func11 fun c0 hc0 => ?_
 rw [z11_raw] at H
 refine .sg 6 [0,1,4,5] (.rg (.sg 1 [1,4,5,11] (.cp [1,4,5,12] (z7_ok list f_list) (.sg 2 [1,4,5,12,13,14] (.dn (.sg 1 [1,4,5,12,13,14] (.ad 5 31 true (.kp [1,4,5,12,13,14] (.ad 4 31 true (.kp [1,4,5,12,13,14] ?_))))))))))
 refine bndO H fun v hv H => (.into (.to (z11_l0_walk list n (if 1048576 < (if 0 > n then 0 else n) then 1048576 else (if 0 > n then 0 else n)) f_list r c0 hc0 v ?_ list 0 _ rfl rfl ([] : List Rule) ([] : List Rule) hv)))
 refine .sg 2 [4,5] ?_
 obtain rfl := Option.some.inj H
 exact .ret Try.func11 hc0
end Go.Proofs.Ytjicebidjfbkpaa
namespace Go.Proofs.Ytjicebidjfbkpaa
open Go.Sh
open Go.ChangeShapes Go.WideShapes Go.ChangeAt Go.RowKit
def Act.wf (x : Act) : Prop := intW .i64 x.Kind ∧ intW .i64 x.Port ∧ intW .i64 x.Field ∧ intW .u64 x.Value
theorem Act.shaped {gs : List AV} (h : Shaped tab 34 gs) : ∃ x : Act, gs = [.sc (.int .i64 x.Kind), .sc (.int .i64 x.Port), .sc (.int .i64 x.Field), .sc (.int .u64 x.Value)] ∧ x.wf := by
 obtain ⟨gss, rfl, hl, hf⟩ := Shaped.struct_inv (fl := [(0, 3), (1, 3), (2, 3), (3, 24)]) (by kernel_rfl) h
 match gss, hl, hf with
 | [g0, g1, g2, g3], _, hf =>
  obtain ⟨x0, rfl, w0⟩ := Shaped.int_inv (k := .i64) (by kernel_rfl) (hf 0 _ _ rfl rfl)
  obtain ⟨x1, rfl, w1⟩ := Shaped.int_inv (k := .i64) (by kernel_rfl) (hf 1 _ _ rfl rfl)
  obtain ⟨x2, rfl, w2⟩ := Shaped.int_inv (k := .i64) (by kernel_rfl) (hf 2 _ _ rfl rfl)
  obtain ⟨x3, rfl, w3⟩ := Shaped.int_inv (k := .u64) (by kernel_rfl) (hf 3 _ _ rfl rfl)
  exact ⟨⟨x0, x1, x2, x3⟩, rfl, ⟨w0, w1, w2, w3⟩⟩
def Cube.wf (x : Cube) : Prop := arrW .u64 12 x.Value ∧ arrW .u64 12 x.Care
theorem Cube.shaped {gs : List AV} (h : Shaped tab 28 gs) : ∃ x : Cube, gs = [.arr .u64 12 x.Value, .arr .u64 12 x.Care] ∧ x.wf := by
 obtain ⟨gss, rfl, hl, hf⟩ := Shaped.struct_inv (fl := [(0, 26), (12, 26)]) (by kernel_rfl) h
 match gss, hl, hf with
 | [g0, g1], _, hf =>
  obtain ⟨x0, rfl, w0⟩ := Shaped.arr_inv (n := 12) (e := 24) (k := .u64) (by kernel_rfl) (by kernel_rfl) (hf 0 _ _ rfl rfl)
  obtain ⟨x1, rfl, w1⟩ := Shaped.arr_inv (n := 12) (e := 24) (k := .u64) (by kernel_rfl) (by kernel_rfl) (hf 1 _ _ rfl rfl)
  exact ⟨⟨x0, x1⟩, rfl, ⟨w0, w1⟩⟩
def Rule.wf (x : Rule) : Prop := Cube.wf x.Match ∧ intW .i64 x.Prio ∧ (∀ y ∈ x.Acts, Act.wf y) ∧ intW .i64 x.Idle ∧ intW .i64 x.Hard ∧ intW .i64 x.Owner ∧ intW .i64 x.Hits ∧ intW .i64 x.Quiet ∧ intW .i64 x.Age
theorem Rule.shaped {gs : List AV} (h : Shaped tab 31 gs) : ∃ x : Rule, gs = [.arr .u64 12 x.Match.Value, .arr .u64 12 x.Match.Care, .sc (.int .i64 x.Prio), .sl 34 (List.map Act.av x.Acts) false, .sc (.int .i64 x.Idle), .sc (.int .i64 x.Hard), .sc (.int .i64 x.Owner), .sc (.int .i64 x.Hits), .sc (.int .i64 x.Quiet), .sc (.int .i64 x.Age)] ∧ x.wf := by
 obtain ⟨gss, rfl, hl, hf⟩ := Shaped.struct_inv (fl := [(0, 28), (24, 3), (25, 29), (26, 3), (27, 3), (28, 3), (29, 3), (30, 3), (31, 3)]) (by kernel_rfl) h
 match gss, hl, hf with
 | [g0, g1, g2, g3, g4, g5, g6, g7, g8], _, hf =>
  obtain ⟨x0, rfl, w0⟩ := Cube.shaped (hf 0 _ _ rfl rfl)
  obtain ⟨x1, rfl, w1⟩ := Shaped.int_inv (k := .i64) (by kernel_rfl) (hf 1 _ _ rfl rfl)
  obtain ⟨q2, rfl, hq2⟩ := Shaped.slice_inv (e := 34) (by kernel_rfl) (hf 2 _ _ rfl rfl)
  obtain ⟨x2, hx2, w2⟩ := rows_typedW (G := tab) (e := 34) (av := Act.av) (wf := fun y => Act.wf y) q2 (fun g hg => by obtain ⟨x, rfl, w⟩ := Act.shaped (hq2 g hg); exact ⟨x, (by kernel_rfl), w⟩)
  obtain ⟨x3, rfl, w3⟩ := Shaped.int_inv (k := .i64) (by kernel_rfl) (hf 3 _ _ rfl rfl)
  obtain ⟨x4, rfl, w4⟩ := Shaped.int_inv (k := .i64) (by kernel_rfl) (hf 4 _ _ rfl rfl)
  obtain ⟨x5, rfl, w5⟩ := Shaped.int_inv (k := .i64) (by kernel_rfl) (hf 5 _ _ rfl rfl)
  obtain ⟨x6, rfl, w6⟩ := Shaped.int_inv (k := .i64) (by kernel_rfl) (hf 6 _ _ rfl rfl)
  obtain ⟨x7, rfl, w7⟩ := Shaped.int_inv (k := .i64) (by kernel_rfl) (hf 7 _ _ rfl rfl)
  obtain ⟨x8, rfl, w8⟩ := Shaped.int_inv (k := .i64) (by kernel_rfl) (hf 8 _ _ rfl rfl)
  rw [hx2]; exact ⟨⟨x0, x1, x2, x3, x4, x5, x6, x7, x8⟩, rfl, ⟨w0, w1, w2, w3, w4, w5, w6, w7, w8⟩⟩
def Mod.wf (x : Mod) : Prop := intW .i64 x.Kind ∧ Cube.wf x.Match ∧ intW .i64 x.Prio ∧ (∀ y ∈ x.Acts, Act.wf y) ∧ intW .i64 x.Idle ∧ intW .i64 x.Hard ∧ intW .i64 x.Owner ∧ True
theorem Mod.shaped {gs : List AV} (h : Shaped tab 42 gs) : ∃ x : Mod, gs = [.sc (.int .i64 x.Kind), .arr .u64 12 x.Match.Value, .arr .u64 12 x.Match.Care, .sc (.int .i64 x.Prio), .sl 34 (List.map Act.av x.Acts) false, .sc (.int .i64 x.Idle), .sc (.int .i64 x.Hard), .sc (.int .i64 x.Owner), .sc (.bool x.Check)] ∧ x.wf := by
 obtain ⟨gss, rfl, hl, hf⟩ := Shaped.struct_inv (fl := [(0, 3), (1, 28), (25, 3), (26, 29), (27, 3), (28, 3), (29, 3), (30, 4)]) (by kernel_rfl) h
 match gss, hl, hf with
 | [g0, g1, g2, g3, g4, g5, g6, g7], _, hf =>
  obtain ⟨x0, rfl, w0⟩ := Shaped.int_inv (k := .i64) (by kernel_rfl) (hf 0 _ _ rfl rfl)
  obtain ⟨x1, rfl, w1⟩ := Cube.shaped (hf 1 _ _ rfl rfl)
  obtain ⟨x2, rfl, w2⟩ := Shaped.int_inv (k := .i64) (by kernel_rfl) (hf 2 _ _ rfl rfl)
  obtain ⟨q3, rfl, hq3⟩ := Shaped.slice_inv (e := 34) (by kernel_rfl) (hf 3 _ _ rfl rfl)
  obtain ⟨x3, hx3, w3⟩ := rows_typedW (G := tab) (e := 34) (av := Act.av) (wf := fun y => Act.wf y) q3 (fun g hg => by obtain ⟨x, rfl, w⟩ := Act.shaped (hq3 g hg); exact ⟨x, (by kernel_rfl), w⟩)
  obtain ⟨x4, rfl, w4⟩ := Shaped.int_inv (k := .i64) (by kernel_rfl) (hf 4 _ _ rfl rfl)
  obtain ⟨x5, rfl, w5⟩ := Shaped.int_inv (k := .i64) (by kernel_rfl) (hf 5 _ _ rfl rfl)
  obtain ⟨x6, rfl, w6⟩ := Shaped.int_inv (k := .i64) (by kernel_rfl) (hf 6 _ _ rfl rfl)
  obtain ⟨x7, rfl⟩ := Shaped.bool_inv (by kernel_rfl) (hf 7 _ _ rfl rfl)
  rw [hx3]; exact ⟨⟨x0, x1, x2, x3, x4, x5, x6, x7⟩, rfl, ⟨w0, w1, w2, w3, w4, w5, w6, trivial⟩⟩
end Go.Proofs.Ytjicebidjfbkpaa
namespace Go.Proofs.Ytjicebidjfbkpaa
open Go.Sh
end Go.Proofs.Ytjicebidjfbkpaa
namespace Go.Proofs.Ytjicebidjfbkpaa
open Go.Sh
end Go.Proofs.Ytjicebidjfbkpaa
namespace Go.Proofs.Ytjicebidjfbkpaa
open Go.Sh
noncomputable def z10_F : Go.Sh.Fn := ⟨10, bodyOf Try.f10, 32⟩
def z10_raw : Option (Bool) :=
 (z11_raw [({ Match := ({ Value := [0, 0, 0, 0, 0, 0, 0, 0, 0, 0, 0, 0], Care := [0, 0, 0, 0, 0, 0, 0, 0, 0, 0, 0, 0] } : Cube), Prio := 0, Acts := [], Idle := 5, Hard := 0, Owner := 0, Hits := 0, Quiet := 0, Age := 0 } : Rule), ({ Match := ({ Value := [0, 0, 0, 0, 0, 0, 0, 0, 0, 0, 0, 0], Care := [0, 0, 0, 0, 0, 0, 0, 0, 0, 0, 0, 0] } : Cube), Prio := 0, Acts := [], Idle := 0, Hard := 9, Owner := 0, Hits := 0, Quiet := 0, Age := 0 } : Rule)] 5).bind fun x =>
 (bif (((((List.map Rule.av x.1).length : Nat) : Int) == 1) && ((((List.map Rule.av x.2).length : Nat) : Int) == 1)) then
  (ixO x.2 0).bind fun x1 =>
  (bif (x1.Idle == 5) then
   (ixO x.1 0).bind fun x2 =>
   some (x2.Age == 5)
  else
   some false)
 else
  some false)
theorem z10_walk (r : Bool) (H : z10_raw = some r) : ACalls Try.prog tab.S 10 [] [] (.sc (.bool r)) [] := by
 refine .of_AX z10_F Try.func10 fun c0 hc0 => ?_
 rw [z10_raw] at H
 refine .sg 3 [] (.rg (.sg 2 [4,5] (.wk 4 [(34, false)] (.wk 5 [(34, false)] (.sg 1 [6] (bndO H fun x hv H => (.cp [7] (z11_walk _ _ true x hv) (.sg 5 [1,2] (.dn (.sg 1 [1,2] (.rg (.sg 4 [1,2,13] (.mx 0 [1,2,17] (.sg 1 [1,2,18] (.sp 18 (((((List.map Rule.av x.1).length : Nat) : Int) == 1) && ((((List.map Rule.av x.2).length : Nat) : Int) == 1)) H (fun hb H => ?_) (fun hb H => ?_))))))))))))))))
 ·
  refine .sg 1 [1,18,19] (bndO H fun x1 hv H => (.xi [1,18,20] Rule.av hv (.sg 5 [1,25] (.sp 25 (x1.Idle == 5) H (fun hb H => ?_) (fun hb H => ?_)))))
  ·
   refine .sg 1 [25,26] (bndO H fun x2 hv H => (.xi [25,27] Rule.av hv (.sg 5 [0] (.dn ?_))))
   obtain rfl := Option.some.inj H
   exact .ret Try.func10 hc0
  ·
   refine .sg 7 [0] (.dn ?_)
   obtain rfl := Option.some.inj H
   exact .ret Try.func10 hc0
 ·
  refine .sg 14 [0] (.dn ?_)
  obtain rfl := Option.some.inj H
  exact .ret Try.func10 hc0
theorem z10_ok : ACalls Try.prog tab.S 10 [] [] (.sc (.bool true)) [] := z10_walk true (by kernel_rfl)
end Go.Proofs.Ytjicebidjfbkpaa
namespace Go.Proofs.Ytjicebidjfbkpaa
open Go.Sh
def RuleP.ch (r : Rule) : List AV := [.arr .u64 12 r.Match.Value, .arr .u64 12 r.Match.Care, .sc (.int .i64 r.Prio), .sl 1000034 (List.map Act.av r.Acts) false, .sc (.int .i64 r.Idle), .sc (.int .i64 r.Hard), .sc (.int .i64 r.Owner), .sc (.int .i64 r.Hits), .sc (.int .i64 r.Quiet), .sc (.int .i64 r.Age)]
def RuleP.av (r : Rule) : AV := .agg (RuleP.ch r)
theorem RuleP.un (r : Rule) : Un tab.S (RuleP.av r) (Rule.av r) := by (repeat' (first | exact CvL.nil | exact Cvs.nil | refine CvL.cons ?_ ?_ | refine Cvs.cons ?_ ?_ | exact Cv.scal rfl | exact Cv1.scal rfl | refine Cv.agg ?_ | refine Cv1.agg ?_ | refine Cv1.one ?_ rfl rfl | (refine Un.sl (fun _ _ => ?_) ?_ ?_ _ <;> first | kernel_rfl | decide | skip) | (refine Mk.sl (fun _ _ => ?_) ?_ ?_ _ <;> first | kernel_rfl | decide | skip) | (refine PK.sl (fun _ _ => ?_) ?_ _ <;> first | kernel_rfl | decide | skip) | refine Un.ep ?_ _ _ | refine Cv.fn ?_))
theorem RuleP.mk (r : Rule) : Mk tab.S (Rule.av r) (RuleP.av r) := by (repeat' (first | exact CvL.nil | exact Cvs.nil | refine CvL.cons ?_ ?_ | refine Cvs.cons ?_ ?_ | exact Cv.scal rfl | exact Cv1.scal rfl | refine Cv.agg ?_ | refine Cv1.agg ?_ | refine Cv1.one ?_ rfl rfl | (refine Un.sl (fun _ _ => ?_) ?_ ?_ _ <;> first | kernel_rfl | decide | skip) | (refine Mk.sl (fun _ _ => ?_) ?_ ?_ _ <;> first | kernel_rfl | decide | skip) | (refine PK.sl (fun _ _ => ?_) ?_ _ <;> first | kernel_rfl | decide | skip) | refine Un.ep ?_ _ _ | refine Cv.fn ?_))
theorem RuleP.pk (r : Rule) : Cv tab.S PK (RuleP.av r) (RuleP.av r) := by (repeat' (first | exact CvL.nil | exact Cvs.nil | refine CvL.cons ?_ ?_ | refine Cvs.cons ?_ ?_ | exact Cv.scal rfl | exact Cv1.scal rfl | refine Cv.agg ?_ | refine Cv1.agg ?_ | refine Cv1.one ?_ rfl rfl | (refine Un.sl (fun _ _ => ?_) ?_ ?_ _ <;> first | kernel_rfl | decide | skip) | (refine Mk.sl (fun _ _ => ?_) ?_ ?_ _ <;> first | kernel_rfl | decide | skip) | (refine PK.sl (fun _ _ => ?_) ?_ _ <;> first | kernel_rfl | decide | skip) | refine Un.ep ?_ _ _ | refine Cv.fn ?_))
def ModP.ch (r : Mod) : List AV := [.sc (.int .i64 r.Kind), .arr .u64 12 r.Match.Value, .arr .u64 12 r.Match.Care, .sc (.int .i64 r.Prio), .sl 1000034 (List.map Act.av r.Acts) false, .sc (.int .i64 r.Idle), .sc (.int .i64 r.Hard), .sc (.int .i64 r.Owner), .sc (.bool r.Check)]
def ModP.av (r : Mod) : AV := .agg (ModP.ch r)
theorem ModP.un (r : Mod) : Un tab.S (ModP.av r) (Mod.av r) := by (repeat' (first | exact CvL.nil | exact Cvs.nil | refine CvL.cons ?_ ?_ | refine Cvs.cons ?_ ?_ | exact Cv.scal rfl | exact Cv1.scal rfl | refine Cv.agg ?_ | refine Cv1.agg ?_ | refine Cv1.one ?_ rfl rfl | (refine Un.sl (fun _ _ => ?_) ?_ ?_ _ <;> first | kernel_rfl | decide | skip) | (refine Mk.sl (fun _ _ => ?_) ?_ ?_ _ <;> first | kernel_rfl | decide | skip) | (refine PK.sl (fun _ _ => ?_) ?_ _ <;> first | kernel_rfl | decide | skip) | refine Un.ep ?_ _ _ | refine Cv.fn ?_))
theorem ModP.mk (r : Mod) : Mk tab.S (Mod.av r) (ModP.av r) := by (repeat' (first | exact CvL.nil | exact Cvs.nil | refine CvL.cons ?_ ?_ | refine Cvs.cons ?_ ?_ | exact Cv.scal rfl | exact Cv1.scal rfl | refine Cv.agg ?_ | refine Cv1.agg ?_ | refine Cv1.one ?_ rfl rfl | (refine Un.sl (fun _ _ => ?_) ?_ ?_ _ <;> first | kernel_rfl | decide | skip) | (refine Mk.sl (fun _ _ => ?_) ?_ ?_ _ <;> first | kernel_rfl | decide | skip) | (refine PK.sl (fun _ _ => ?_) ?_ _ <;> first | kernel_rfl | decide | skip) | refine Un.ep ?_ _ _ | refine Cv.fn ?_))
theorem ModP.pk (r : Mod) : Cv tab.S PK (ModP.av r) (ModP.av r) := by (repeat' (first | exact CvL.nil | exact Cvs.nil | refine CvL.cons ?_ ?_ | refine Cvs.cons ?_ ?_ | exact Cv.scal rfl | exact Cv1.scal rfl | refine Cv.agg ?_ | refine Cv1.agg ?_ | refine Cv1.one ?_ rfl rfl | (refine Un.sl (fun _ _ => ?_) ?_ ?_ _ <;> first | kernel_rfl | decide | skip) | (refine Mk.sl (fun _ _ => ?_) ?_ ?_ _ <;> first | kernel_rfl | decide | skip) | (refine PK.sl (fun _ _ => ?_) ?_ _ <;> first | kernel_rfl | decide | skip) | refine Un.ep ?_ _ _ | refine Cv.fn ?_))
noncomputable def slices_Clone__api_ActP_F : Go.Sh.Fn := ⟨34, bodyOf Try.f34, 8⟩
theorem slices_Clone__api_ActP_calls (s : List Act) (f_s : Bool) : ACalls Try.prog tab.S 34 [.sl 1000034 (List.map Act.av s) f_s] [] (.sl 34 (List.map Act.av s) false) [] := by
 have hG := tab_ok
 have hm := mixed
 have hE : Ent Try.prog 34 := ent_of Try.func34 (by kernel_rfl) (by kernel_rfl)
 cases s with
 | nil =>
  refine ACalls.empty hE fun p c => ?_
  refine ACalls.of_AR (G := tab) slices_Clone__api_ActP_F (fn := Try.f34) Try.func34 (by kernel_rfl) (by kernel_rfl) (by kernel_rfl) (Nat.le_of_ble_eq_true (by kernel_rfl)) ?_
  intro c0 hc0
  replace hc0 : c0.m.length = 0 := hc0
  refine AR.seg hG hm 4 [0] (k' := [.code [1, 0, 0], .code [1, 0, 1], .code [1, 1]]) (t' := [(0, .sc (.slice p 0 c))]) (h' := []) (by kernel_rfl) ?_
  refine AR.reg hm [.pure, .pure] (by kernel_rfl) ?_
  refine DK.seg hG 1 [0, 3] (t' := [(0, .sc (.slice p 0 c)), (3, .sc (.slice p 0 c))]) (h' := []) (by kernel_rfl) rfl ?_
  refine DK.op' [0, 4] (t' := [(0, .sc (.slice p 0 c)), (4, .sc (.bool p.isNone))]) (h' := []) (LSpec.nilEq hG (p := p) (l := 0) (c := c) (by kernel_rfl)) (by kernel_rfl) rfl (by kernel_rfl) rfl ?_
  refine DK.done (by kernel_rfl) (by kernel_rfl) ?_
  refine AR.cond (.tmp 4) p.isNone (by kernel_rfl) (by kernel_rfl) (fun hb => ?ht) (fun hb => ?hf)
  case ht =>
   refine AR.seg hG hm 2 [2] (k' := [.code [1, 0, 1, 0, 1], .code [1, 1]]) (t' := [(2, .sl 0 [] true)]) (h' := []) (by kernel_rfl) ?_
   exact AR.ret0 (fn := Try.f34) hG Try.func34 (by kernel_rfl) hc0 (r0 := .sl 0 [] true) (by kernel_rfl) (WkV.sl (Wk1.nil 34 false))
  case hf =>
   refine AR.seg hG hm 2 [0] (k' := [.code [1, 1, 0], .code [1, 1, 1]]) (t' := [(0, .sc (.slice p 0 c))]) (h' := []) (by kernel_rfl) ?_
   refine AR.reg hm [.pure, .pure, .pure, .pure] (by kernel_rfl) ?_
   refine DK.seg hG 2 [5, 6] (t' := [(5, .sl 34 [] true), (6, .sc (.slice p 0 c))]) (h' := []) (by kernel_rfl) rfl ?_
   refine DK.op' [7] (t' := [(7, .sl 34 [] true)]) (h' := []) (LSpec.app0 hG (e0 := 34) (rows := []) (f := true) (by kernel_rfl)) (by kernel_rfl) rfl (by kernel_rfl) rfl ?_
   refine DK.seg hG 1 [2] (t' := [(2, .sl 34 [] true)]) (h' := []) (by kernel_rfl) rfl ?_
   refine DK.done (by kernel_rfl) (by kernel_rfl) ?_
   exact AR.ret0 (fn := Try.f34) hG Try.func34 (by kernel_rfl) hc0 (r0 := .sl 34 [] true) (by kernel_rfl) (WkV.sl (Wk1.nil 34 false))
 | cons x xs =>
  refine ACalls.facts hE fun hf => ?_
  have hfit : (([] : List Act).length + (x :: xs).length) * 32 ≤ reach := by
   have h1 : (List.map Act.av (x :: xs)).length * 32 ≤ reach := hf.1.1
   simpa using h1
  refine ACalls.of_AR (G := tab) slices_Clone__api_ActP_F (fn := Try.f34) Try.func34 (by kernel_rfl) (by kernel_rfl) (by kernel_rfl) (Nat.le_of_ble_eq_true (by kernel_rfl)) ?_
  intro c0 hc0
  replace hc0 : c0.m.length = 0 := hc0
  refine AR.seg hG hm 4 [0] (k' := [.code [1, 0, 0], .code [1, 0, 1], .code [1, 1]]) (t' := [(0, .sl 1000034 (List.map Act.av (x :: xs)) f_s)]) (h' := []) (by kernel_rfl) ?_
  refine AR.reg hm [.pure, .pure] (by kernel_rfl) ?_
  refine DK.seg hG 1 [0, 3] (t' := [(0, .sl 1000034 (List.map Act.av (x :: xs)) f_s), (3, .sl 1000034 (List.map Act.av (x :: xs)) f_s)]) (h' := []) (by kernel_rfl) rfl ?_
  refine DK.op' [0, 4] (t' := [(0, .sl 1000034 (List.map Act.av (x :: xs)) f_s), (4, .sc (.bool false))]) (h' := []) (LSpec.neNil hG (by kernel_rfl)) (by kernel_rfl) rfl (by kernel_rfl) rfl ?_
  refine DK.done (by kernel_rfl) (by kernel_rfl) ?_
  refine AR.seg hG hm 3 [0] (k' := [.code [1, 1, 0], .code [1, 1, 1]]) (t' := [(0, .sl 1000034 (List.map Act.av (x :: xs)) f_s)]) (h' := []) (by kernel_rfl) ?_
  refine AR.reg hm [.pure, .pure, .loud, .pure] (by kernel_rfl) ?_
  refine DK.seg hG 2 [5, 6] (t' := [(5, .sl 34 [] true), (6, .sl 1000034 (List.map Act.av (x :: xs)) f_s)]) (h' := []) (by kernel_rfl) rfl ?_
  refine DK.op' [7] (t' := [(7, .own 0 1)]) (h' := [.row 34 (List.map Act.av ([] ++ (x :: xs))) 1 true]) (LSpec.appendN hG Act.av [] (x :: xs) 34 32 hfit (by kernel_rfl)) (by kernel_rfl) (by kernel_rfl) (by kernel_rfl) rfl ?_
  refine DK.seg hG 1 [2] (t' := [(2, .own 0 1)]) (h' := [.row 34 (List.map Act.av ([] ++ (x :: xs))) 1 true]) (by kernel_rfl) rfl ?_
  refine DK.done (by kernel_rfl) (by kernel_rfl) ?_
  exact AR.ret0 (fn := Try.f34) hG Try.func34 (by kernel_rfl) hc0 (r0 := .sl 34 (List.map Act.av (x :: xs)) false) (by kernel_rfl) (WkV.refl _)
noncomputable def rule_copiedP_F : Go.Sh.Fn := ⟨19, bodyOf Try.f19, 9⟩
def rule_copiedP (r2 : Rule) : Rule :=
 r2
theorem rule_copiedP_calls (r2 : Rule) : ACalls Try.prog tab.S 19 [RuleP.av r2] [] (Rule.av (rule_copiedP r2)) [] := by
 generalize H : rule_copiedP r2 = r
 refine .of_AX rule_copiedP_F Try.func19 fun c0 hc0 => ?_
 rw [rule_copiedP] at H
 refine .sg 3 [1,2] (.rg (.sg 2 [1,2,4] (.cp [1,2,5] (slices_Clone__api_ActP_calls r2.Acts false) (.cp [1,2,6] (z33_calls r2.Acts false) (.sg 2 [1,2] (.dn (.sg 2 [2] ?_)))))))
 subst H
 exact .ret Try.func19 hc0 [] [(0, false)]
end Go.Proofs.Ytjicebidjfbkpaa
namespace Go.Proofs.Ytjicebidjfbkpaa
open Go.Sh
theorem z20_own (s : List Rule) : ACalls Try.prog tab.S 20 [.own 0 2000000] [.row 31 (List.map Rule.av s) 2000000 true] (.own 0 2000000) [.row 31 (List.map Rule.av s) 2000000 true] := by
 refine .of_AX z20_F Try.func20 fun c0 hc0 => ?_
 have hv : sliceO s none (some (((List.map Rule.av s).length : Nat) : Int)) (some (((List.map Rule.av s).length : Nat) : Int)) = some s := by simp [sliceO]
 exact .sg 3 [0] (.rg (.sg 5 [3,5,7] (.rst [8] Rule.av hv (.sg 1 [2] (.dn (.ret Try.func20 hc0 [0]))))))
noncomputable def rule_CopyP_F : Go.Sh.Fn := ⟨7, bodyOf Try.f7, 20⟩
def rule_CopyP_l0s : List Rule → List Rule → Option ((List Rule))
 | [], out =>
  some out
 | x :: rest, out =>
  fitO (out.length + [(rule_copiedP x)].length) 272 (
  rule_CopyP_l0s rest (out ++ [(rule_copiedP x)]))
theorem rule_CopyP_l0_walk (list : List Rule) (f_list : Bool) (r : (List Rule)) (c0 : Ctx) (hc0 : c0.m.length = 0) (res : (List Rule)) (J : AX Try.prog tab rule_CopyP_F c0 (Rp tab.S c0 (.own 0 2000000) [.row 31 (List.map Rule.av r) 2000000 true]) (some ⟨[.code [1, 1, 1]], [(3, .own 0 2000000)], [.row 31 (List.map Rule.av res) 2000000 true]⟩)) :
  ∀ (rest : List Rule) (t8 : Nat) (z : Int) (hI : z = ((t8 : Nat) : Int)) (hd : list.drop t8 = rest) (out : List Rule) (H : rule_CopyP_l0s rest out = some res), AX Try.prog tab rule_CopyP_F c0 (Rp tab.S c0 (.own 0 2000000) [.row 31 (List.map Rule.av r) 2000000 true]) (some ⟨[.code [1, 1, 0, 1, 0, 0], .loop [1, 1, 0, 1, 0], .blk 0, .code [1, 1, 1]], [(3, .own 0 2000000), (6, .sl 1000031 (List.map RuleP.av list) f_list), (7, .sc (.int .i64 (((List.map RuleP.av list).length : Nat) : Int))), (8, .sc (.int .i64 z))], [.row 31 (List.map Rule.av out) 2000000 true]⟩) := by
 intro rest
 induction rest with
 | nil =>
  intro t8 z hI hd out H
  subst hI
  rw [rule_CopyP_l0s] at H
  refine .facts 6 fun hf => ?_
  have hlen : list.length ≤ 9223372036854775807 := by have hq := len_ok hf.2.1; rw [List.length_map] at hq; exact hq
  have hge : list.length ≤ t8 := List.drop_eq_nil_iff.1 hd
  have hc : (decide (((t8 : Nat) : Int) < (((List.map RuleP.av list).length : Nat) : Int))) = false := by rw [List.length_map]; exact decide_eq_false (by omega)
  refine .sg 3 [3,6,7,8,9] (.cdF hc (.sg 1 [3] (.kp [3] ?_)))
  obtain rfl := Option.some.inj H
  exact .to J
 | cons x rest ih =>
  intro t8 z hI hd out H
  subst hI
  rw [rule_CopyP_l0s] at H
  refine .facts 6 fun hf => ?_
  have hlen : list.length ≤ 9223372036854775807 := by have hq := len_ok hf.2.1; rw [List.length_map] at hq; exact hq
  obtain ⟨hlt, hv_t8, hd2⟩ := drop_cons hd
  have hc : (decide (((t8 : Nat) : Int) < (((List.map RuleP.av list).length : Nat) : Int))) = true := by rw [List.length_map]; exact decide_eq_true (by omega)
  have hw : IntKind.i64.wrap (((t8 : Nat) : Int) + 1) = ((t8 + 1 : Nat) : Int) := wrapI_succ (by omega)
  exact .sg 3 [3,6,7,8,9] (.cdT hc (.sg 4 [3,6,7,8] (.rg (.xm [3,6,7,8,10] RuleP.av hv_t8 (.sg 3 [3,5,6,7,8] (.dn (.rg (.sg 2 [6,7,8,12,13] (.cp [6,7,8,12,14] (rule_copiedP_calls x) (.sg 1 [6,7,8,12,15] (fitH H fun hfit H => (.ap [6,7,8,16] Rule.av hfit (.sg 1 [3,6,7,8] (.dn (.sg 2 [3,6,7,8] (.tl hc0 [0] [3,6,7,8] (.into (.cl (ih (t8 + 1) _ hw hd2 (out ++ [(rule_copiedP x)]) H)))))))))))))))))))
def rule_CopyP_raw (list : List Rule) : Option ((List Rule)) :=
 (rule_CopyP_l0s list ([] : List Rule)).bind fun v =>
 some v
theorem rule_CopyP_walk (list : List Rule) (f_list : Bool) (r : (List Rule)) (H : rule_CopyP_raw list = some r) : ACalls Try.prog tab.S 7 [.sl 1000031 (List.map RuleP.av list) f_list] [] (.own 0 2000000) [.row 31 (List.map Rule.av r) 2000000 true] := by
 refine .of_AX rule_CopyP_F Try.func7 fun c0 hc0 => ?_
 rw [rule_CopyP_raw] at H
 refine .sg 8 [3,6,7,8] (.ad 3 31 true (.nm 0 2000000 hc0 (.kp [3,6,7,8] ?_)))
 refine bndO H fun v hv H => (.into (.to (rule_CopyP_l0_walk list f_list r c0 hc0 v ?_ list 0 _ rfl rfl ([] : List Rule) hv)))
 refine .sg 1 [3] (.rg (.sg 1 [18] (.cog [19] (o := 0) (k := 2000000) (z20_own v) (.sg 1 [2] (.dn ?_)))))
 obtain rfl := Option.some.inj H
 exact .ret Try.func7 hc0 [0]
end Go.Proofs.Ytjicebidjfbkpaa