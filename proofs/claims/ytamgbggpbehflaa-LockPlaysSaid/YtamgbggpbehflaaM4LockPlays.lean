import Derived.Test.YtamgbggpbehflaaProg
import Derived.Shelf.SlIterI.Nil
import Derived.Shelf.SortM.Plain
import Derived.Shelf.SortM.SortNone
import Derived.Test.YtamgbggpbehflaaM3LockPlays
set_option linter.unusedVariables false
set_option linter.unusedSimpArgs false
set_option maxRecDepth 100000
set_option maxHeartbeats 4000000
namespace Go.Proofs.Ytamgbggpbehflaa
open Go.Sh
def tab : Go.Sh.Tab := [
 (1, ⟨.other, 1, 8, [.sc .nilFunc]⟩),
 (2, ⟨.int .i64, 1, 8, [.sc (.int .i64 0)]⟩),
 (3, ⟨.int .i64, 1, 8, [.sc (.int .i64 0)]⟩),
 (4, ⟨.bool, 1, 1, [.sc (.bool false)]⟩),
 (5, ⟨.int .u8, 1, 1, [.sc (.int .u8 0)]⟩),
 (9, ⟨.str, 1, 16, [.sc (.string ⟨#[]⟩)]⟩),
 (12, ⟨.int .u64, 1, 8, [.sc (.int .u64 0)]⟩),
 (13, ⟨.struct [(0, 9), (1, 12)], 2, 24, [.sc (.string ⟨#[]⟩), .sc (.int .u64 0)]⟩),
 (21, ⟨.int .i32, 1, 4, [.sc (.int .i32 0)]⟩),
 (22, ⟨.slice 33, 1, 24, [.sl 0 [] true]⟩),
 (23, ⟨.int .u64, 1, 8, [.sc (.int .u64 0)]⟩),
 (24, ⟨.arr 12 23, 12, 96, [.arr .u64 12 [0, 0, 0, 0, 0, 0, 0, 0, 0, 0, 0, 0]]⟩),
 (25, ⟨.arr 12 23, 12, 96, [.arr .u64 12 [0, 0, 0, 0, 0, 0, 0, 0, 0, 0, 0, 0]]⟩),
 (26, ⟨.other, 1, 8, [.sc .nilFunc]⟩),
 (27, ⟨.ptr 53, 1, 8, [.sc (.pointer none)]⟩),
 (28, ⟨.other, 1, 8, [.sc .nilFunc]⟩),
 (29, ⟨.slice 3, 1, 24, [.sl 0 [] true]⟩),
 (30, ⟨.slice 31, 1, 24, [.sl 0 [] true]⟩),
 (31, ⟨.slice 42, 1, 24, [.sl 0 [] true]⟩),
 (32, ⟨.struct [(0, 3), (1, 4), (2, 31)], 3, 40, [.sc (.int .i64 0), .sc (.bool false), .sl 0 [] true]⟩),
 (33, ⟨.struct [(0, 3), (1, 4), (2, 31)], 3, 40, [.sc (.int .i64 0), .sc (.bool false), .sl 0 [] true]⟩),
 (34, ⟨.int .i64, 1, 8, [.sc (.int .i64 0)]⟩),
 (35, ⟨.other, 1, 8, [.sc .nilFunc]⟩),
 (36, ⟨.other, 1, 8, [.sc .nilFunc]⟩),
 (37, ⟨.other, 1, 8, [.sc .nilFunc]⟩),
 (38, ⟨.other, 1, 8, [.sc .nilFunc]⟩),
 (39, ⟨.struct [(0, 25), (12, 25)], 24, 192, [.arr .u64 12 [0, 0, 0, 0, 0, 0, 0, 0, 0, 0, 0, 0], .arr .u64 12 [0, 0, 0, 0, 0, 0, 0, 0, 0, 0, 0, 0]]⟩),
 (40, ⟨.struct [(0, 25), (12, 25)], 24, 192, [.arr .u64 12 [0, 0, 0, 0, 0, 0, 0, 0, 0, 0, 0, 0], .arr .u64 12 [0, 0, 0, 0, 0, 0, 0, 0, 0, 0, 0, 0]]⟩),
 (41, ⟨.struct [(0, 3), (1, 40)], 25, 200, [.sc (.int .i64 0), .arr .u64 12 [0, 0, 0, 0, 0, 0, 0, 0, 0, 0, 0, 0], .arr .u64 12 [0, 0, 0, 0, 0, 0, 0, 0, 0, 0, 0, 0]]⟩),
 (42, ⟨.struct [(0, 3), (1, 40)], 25, 200, [.sc (.int .i64 0), .arr .u64 12 [0, 0, 0, 0, 0, 0, 0, 0, 0, 0, 0, 0], .arr .u64 12 [0, 0, 0, 0, 0, 0, 0, 0, 0, 0, 0, 0]]⟩),
 (43, ⟨.other, 1, 8, [.sc .nilFunc]⟩),
 (45, ⟨.other, 1, 8, [.sc .nilFunc]⟩),
 (46, ⟨.other, 1, 8, [.sc .nilFunc]⟩),
 (47, ⟨.other, 1, 8, [.sc .nilFunc]⟩),
 (48, ⟨.other, 1, 8, [.sc .nilFunc]⟩),
 (49, ⟨.other, 1, 8, [.sc .nilFunc]⟩),
 (50, ⟨.other, 1, 8, [.sc .nilFunc]⟩),
 (51, ⟨.other, 1, 8, [.sc (.map none)]⟩),
 (52, ⟨.struct [(0, 51)], 1, 8, [.sc (.map none)]⟩),
 (53, ⟨.struct [(0, 51)], 1, 8, [.sc (.map none)]⟩),
 (55, ⟨.other, 1, 8, [.sc .nilFunc]⟩),
 (57, ⟨.other, 1, 8, [.sc .nilFunc]⟩),
 (58, ⟨.other, 1, 8, [.sc .nilFunc]⟩),
 (59, ⟨.other, 1, 8, [.sc .nilFunc]⟩),
 (60, ⟨.other, 1, 8, [.sc .nilFunc]⟩),
 (61, ⟨.other, 1, 8, [.sc .nilFunc]⟩),
 (63, ⟨.other, 1, 8, [.sc .nilFunc]⟩),
 (64, ⟨.other, 1, 8, [.sc .nilFunc]⟩),
 (65, ⟨.other, 1, 8, [.sc .nilFunc]⟩),
 (66, ⟨.other, 1, 8, [.sc .nilFunc]⟩),
 (67, ⟨.other, 1, 8, [.sc .nilFunc]⟩),
 (68, ⟨.slice 5, 1, 24, [.sl 0 [] true]⟩),
 (69, ⟨.other, 1, 8, [.sc .nilFunc]⟩),
 (70, ⟨.other, 1, 8, [.sc .nilFunc]⟩),
 (71, ⟨.slice 4, 1, 24, [.sl 0 [] true]⟩),
 (72, ⟨.other, 1, 8, [.sc .nilFunc]⟩),
 (73, ⟨.other, 1, 8, [.sc .nilFunc]⟩),
 (74, ⟨.other, 1, 8, [.sc .nilFunc]⟩),
 (75, ⟨.other, 1, 8, [.sc .nilFunc]⟩),
 (76, ⟨.other, 1, 8, [.sc .nilFunc]⟩),
 (77, ⟨.other, 1, 8, [.sc .nilFunc]⟩),
 (78, ⟨.other, 1, 8, [.sc .nilFunc]⟩),
 (79, ⟨.other, 1, 8, [.sc .nilFunc]⟩),
 (80, ⟨.other, 1, 8, [.sc .nilFunc]⟩),
 (81, ⟨.int .u64, 1, 8, [.sc (.int .u64 0)]⟩),
 (82, ⟨.other, 1, 8, [.sc .nilFunc]⟩),
 (83, ⟨.other, 1, 8, [.sc .nilFunc]⟩),
 (84, ⟨.int .i64, 1, 8, [.sc (.int .i64 0)]⟩),
 (86, ⟨.other, 1, 8, [.sc .nilFunc]⟩),
 (87, ⟨.other, 1, 8, [.sc .nilFunc]⟩),
 (88, ⟨.other, 1, 8, [.sc .nilFunc]⟩),
 (89, ⟨.other, 1, 8, [.sc .nilFunc]⟩),
 (90, ⟨.other, 1, 8, [.sc .nilFunc]⟩),
 (91, ⟨.other, 1, 8, [.sc .nilFunc]⟩),
 (92, ⟨.int .u32, 1, 4, [.sc (.int .u32 0)]⟩),
 (93, ⟨.other, 1, 8, [.sc .nilFunc]⟩),
 (94, ⟨.int .u64, 1, 8, [.sc (.int .u64 0)]⟩),
 (95, ⟨.other, 1, 8, [.sc .nilFunc]⟩),
 (96, ⟨.other, 1, 8, [.sc .nilFunc]⟩),
 (97, ⟨.other, 1, 8, [.sc .nilFunc]⟩),
 (98, ⟨.ptr 3, 1, 8, [.sc (.pointer none)]⟩),
 (99, ⟨.other, 1, 8, [.sc .nilFunc]⟩),
 (100, ⟨.struct [(0, 9), (1, 3)], 2, 24, [.sc (.string ⟨#[]⟩), .sc (.int .i64 0)]⟩),
 (101, ⟨.struct [(0, 9), (1, 3)], 2, 24, [.sc (.string ⟨#[]⟩), .sc (.int .i64 0)]⟩),
 (102, ⟨.arr 12 101, 24, 288, [.sc (.string ⟨#[]⟩), .sc (.int .i64 0), .sc (.string ⟨#[]⟩), .sc (.int .i64 0), .sc (.string ⟨#[]⟩), .sc (.int .i64 0), .sc (.string ⟨#[]⟩), .sc (.int .i64 0), .sc (.string ⟨#[]⟩), .sc (.int .i64 0), .sc (.string ⟨#[]⟩), .sc (.int .i64 0), .sc (.string ⟨#[]⟩), .sc (.int .i64 0), .sc (.string ⟨#[]⟩), .sc (.int .i64 0), .sc (.string ⟨#[]⟩), .sc (.int .i64 0), .sc (.string ⟨#[]⟩), .sc (.int .i64 0), .sc (.string ⟨#[]⟩), .sc (.int .i64 0), .sc (.string ⟨#[]⟩), .sc (.int .i64 0)]⟩),
 (103, ⟨.other, 1, 8, [.sc .nilFunc]⟩),
 (104, ⟨.ptr 94, 1, 8, [.sc (.pointer none)]⟩),
 (106, ⟨.other, 1, 8, [.sc .nilFunc]⟩),
 (107, ⟨.other, 1, 8, [.sc .nilFunc]⟩),
 (113, ⟨.other, 1, 8, [.sc .nilFunc]⟩),
 (116, ⟨.other, 1, 8, [.sc .nilFunc]⟩),
 (117, ⟨.ptr 5, 1, 8, [.sc (.pointer none)]⟩)]
theorem tab_ok : tab.ok Try.prog := Tab.ok_of (by kernel_rfl)
theorem mixed : Try.prog.follows .mixedOrders = true := by kernel_rfl
end Go.Proofs.Ytamgbggpbehflaa
namespace Go.Proofs.Ytamgbggpbehflaa
open Go.Sh
instance : Ok Try.prog tab := ⟨tab_ok, mixed⟩
theorem wrap_eq {n : Int} (h1 : -9223372036854775808 ≤ n) (h2 : n ≤ 9223372036854775807) : IntKind.i64.wrap n = n := by
 rw [IntKind.wrap_i64]; omega
theorem wrap_succ {i : Nat} (h : i < 9223372036854775807) : IntKind.i64.wrap ((i : Int) + 1) = ((i + 1 : Nat) : Int) := by
 rw [wrap_eq (by omega) (by omega)]; rfl
theorem ixO_lt {α : Type} {xs : List α} {i : Nat} (h : i < xs.length) : ixO xs (i : Int) = some xs[i] := by
 unfold ixO
 rw [if_pos (by omega), Int.toNat_natCast, List.getElem?_eq_getElem h]
theorem fitO_eq {α : Type} {n b : Nat} {r : Option α} (h : n * b ≤ 140737488355328) : fitO n b r = r := by
 unfold fitO; rw [if_pos h]
theorem reqO_eq {α : Type} {b : Bool} {r : Option α} (h : b = true) : reqO b r = r := by
 subst h; rfl
theorem zero_nat : (0 : Int) = ((0 : Nat) : Int) := rfl
def idxF {α : Type} (f : α → Bool) (l : List α) : Int := match l.findIdx? f with | some i => (i : Int) | none => -1
theorem idxF_any {α : Type} (f : α → Bool) (l : List α) : decide (idxF f l ≥ 0) = l.any f := by
 unfold idxF
 cases h : l.findIdx? f with
 | none =>
  have : l.any f = false := by
   rw [Bool.eq_false_iff]
   intro ha
   obtain ⟨x, hx, hf⟩ := List.any_eq_true.1 ha
   have := List.findIdx?_eq_none_iff.1 h x hx
   rw [hf] at this
   cases this
  rw [this]
  rfl
 | some i =>
  have : l.any f = true := by
   obtain ⟨hlt, hp, _⟩ := List.findIdx?_eq_some_iff_getElem.1 h
   exact List.any_eq_true.2 ⟨l[i], List.getElem_mem hlt, hp⟩
  rw [this]
  simp
def sizes : List Int := [16, 48, 48, 16, 12, 4, 32, 32, 8, 8, 12, 12]
def sizeT (n : Int) : Int := if 0 ≤ n ∧ n < 12 then sizes.getD n.toNat 0 else 0
theorem sizeT_cases (n : Int) : (¬ (0 ≤ n ∧ n < 12) ∧ sizeT n = 0) ∨ (0 ≤ n ∧ n < 12 ∧ ∃ k : Nat, n = k ∧ k < 12 ∧ sizeT n = sizes.getD k 0) := by
 by_cases h : 0 ≤ n ∧ n < 12
 ·refine .inr ⟨h.1, h.2, n.toNat, by omega, by omega, ?_⟩
  unfold sizeT; rw [if_pos h]
 ·refine .inl ⟨h, ?_⟩
  unfold sizeT; rw [if_neg h]
theorem sizes_in : ∀ k : Nat, 0 ≤ sizes.getD k 0 ∧ sizes.getD k 0 ≤ 48
 | 0 | 1 | 2 | 3 | 4 | 5 | 6 | 7 | 8 | 9 | 10 | 11 => by decide
 | n + 12 => by
  have : sizes.getD (n + 12) 0 = 0 := rfl
  rw [this]; decide
theorem sizeT_in (n : Int) : 0 ≤ sizeT n ∧ sizeT n ≤ 48 := by
 unfold sizeT
 split
 ·exact sizes_in _
 ·decide
def fitsT (n v : Int) : Bool := decide (v < 2 ^ (sizeT n).toNat)
theorem pow_le48 {k : Nat} (h : k ≤ 48) : (2 : Int) ^ k ≤ 281474976710656 := by
 have : (2 : Nat) ^ k ≤ 2 ^ 48 := Nat.pow_le_pow_right (by omega) h
 have e : ((2 ^ k : Nat) : Int) = (2 : Int) ^ k := by push_cast; rfl
 rw [← e]
 omega
theorem pow_pos2 (k : Nat) : (0 : Int) < (2 : Int) ^ k := Int.pow_pos (by decide)
theorem wrapU_eq {n : Int} (h1 : 0 ≤ n) (h2 : n < 18446744073709551616) : IntKind.u64.wrap n = n := by
 unfold IntKind.wrap
 simp only [IntKind.signed, IntKind.bits, Bool.false_and, Bool.false_eq_true, if_false]
 omega
structure Cube where
 Value : List Int
 Care : List Int
 deriving DecidableEq, Inhabited
def Cube.ch (r : Cube) : List AV := [.arr .u64 12 r.Value, .arr .u64 12 r.Care]
def Cube.av (r : Cube) : AV := .agg [.arr .u64 12 r.Value, .arr .u64 12 r.Care]
structure Region where
 Unit : Int
 Cube : Cube
 deriving DecidableEq, Inhabited
def Region.ch (r : Region) : List AV := [.sc (.int .i64 r.Unit), .arr .u64 12 r.Cube.Value, .arr .u64 12 r.Cube.Care]
def Region.av (r : Region) : AV := .agg [.sc (.int .i64 r.Unit), .arr .u64 12 r.Cube.Value, .arr .u64 12 r.Cube.Care]
structure Act where
 Txn : Int
 Drop : Bool
 R : List Region
 deriving DecidableEq, Inhabited
def Act.ch (r : Act) : List AV := [.sc (.int .i64 r.Txn), .sc (.bool r.Drop), .sl 42 (List.map Region.av r.R) false]
def Act.av (r : Act) : AV := .agg [.sc (.int .i64 r.Txn), .sc (.bool r.Drop), .sl 42 (List.map Region.av r.R) false]
structure Field where
 name : ByteArray
 size : Int
 deriving DecidableEq, Inhabited
def Field.ch (r : Field) : List AV := [.sc (.string r.name), .sc (.int .i64 r.size)]
def Field.av (r : Field) : AV := .agg [.sc (.string r.name), .sc (.int .i64 r.size)]
structure Locks where
 held : List (Int × (List Region))
 deriving DecidableEq, Inhabited
end Go.Proofs.Ytamgbggpbehflaa
namespace Go.Proofs.Ytamgbggpbehflaa
open Go.Sh
noncomputable def z63_F : Go.Sh.Fn := ⟨63, bodyOf Try.f63, 9⟩
def z63 (n : Int) : Bool :=
 ((decide (n ≥ 0)) && (decide (n < 12)))
theorem z63_calls (n : Int) : ACalls Try.prog tab.S 63 [.sc (.int .i64 n)] [] (.sc (.bool (z63 n))) [] := by
 generalize H : z63 n = r
 refine .of_AX z63_F Try.func63 fun c0 hc0 => ?_
 rw [z63] at H
 refine .sg 3 [0] (.rg (.sg 3 [0,5] (.mx 0 [8] (.sg 1 [2] (.dn ?_)))))
 subst H
 exact .ret Try.func63 hc0
noncomputable def z64_F : Go.Sh.Fn := ⟨64, bodyOf Try.f64, 14⟩
def z64 : (List Field) :=
 [({ name := (ByteArray.mk #[105, 110]), size := 16 } : Field), ({ name := (ByteArray.mk #[101, 115, 114, 99]), size := 48 } : Field), ({ name := (ByteArray.mk #[101, 100, 115, 116]), size := 48 } : Field), ({ name := (ByteArray.mk #[101, 116, 121, 112, 101]), size := 16 } : Field), ({ name := (ByteArray.mk #[118, 108, 97, 110]), size := 12 } : Field), ({ name := (ByteArray.mk #[112, 99, 112]), size := 4 } : Field), ({ name := (ByteArray.mk #[115, 114, 99]), size := 32 } : Field), ({ name := (ByteArray.mk #[100, 115, 116]), size := 32 } : Field), ({ name := (ByteArray.mk #[112, 114, 111, 116, 111]), size := 8 } : Field), ({ name := (ByteArray.mk #[116, 111, 115]), size := 8 } : Field), ({ name := (ByteArray.mk #[115, 112, 111, 114, 116]), size := 12 } : Field), ({ name := (ByteArray.mk #[100, 112, 111, 114, 116]), size := 12 } : Field)]
theorem z64_calls : ACalls Try.prog tab.S 64 [] [] (.agg (List.flatMap Field.ch (z64))) [] := by
 generalize H : z64 = r
 refine .of_AX z64_F Try.func64 fun c0 hc0 => ?_
 rw [z64] at H
 refine .sg 4 [0] ?_
 subst H
 exact .ret Try.func64 hc0
noncomputable def z56_F : Go.Sh.Fn := ⟨56, bodyOf Try.f56, 10⟩
def z56_raw (n : Int) : Option (Int) :=
 (bif (!(z63 n)) then
  some 0
 else
  (ixO z64 n).bind fun x =>
  some x.size)
theorem z56_walk (n : Int) (r : Int) (H : z56_raw n = some r) : ACalls Try.prog tab.S 56 [.sc (.int .i64 n)] [] (.sc (.int .i64 r)) [] := by
 refine .of_AX z56_F Try.func56 fun c0 hc0 => ?_
 rw [z56_raw] at H
 refine .sg 4 [0] (.rg (.sg 1 [0,3] (.cp [0,4] (z63_calls n) (.sg 1 [0,5] (.dn (.cd (!(z63 n)) H (fun hb H => ?_) (fun hb H => ?_)))))))
 ·
  refine .sg 2 [2] ?_
  obtain rfl := Option.some.inj H
  exact .ret Try.func56 hc0
 ·
  refine .sg 2 [0] (.rg (.cp [0,6] (z64_calls) (.sg 1 [6,7] (bndO H fun x hv H => (.xr [8] z64 Field.ch 2 hv (.fd [9] (.sg 1 [2] (.dn ?_))))))))
  obtain rfl := Option.some.inj H
  exact .ret Try.func56 hc0
theorem z56_ok (n : Int) : ACalls Try.prog tab.S 56 [.sc (.int .i64 n)] [] (.sc (.int .i64 (sizeT n))) [] := by
 refine z56_walk n (sizeT n) ?_
 rw [z56_raw, z63]
 rcases sizeT_cases n with ⟨h, e⟩ | ⟨h1, h2, k, rfl, hk, e⟩
 ·rw [e]
  have : (decide (n ≥ 0) && decide (n < 12)) = false := by
   rw [Bool.and_eq_false_iff, decide_eq_false_iff_not, decide_eq_false_iff_not]; omega
  rw [this]
  rfl
 ·rw [e, decide_eq_true h1, decide_eq_true h2]
  match k, hk with
  | 0, _ | 1, _ | 2, _ | 3, _ | 4, _ | 5, _ | 6, _ | 7, _ | 8, _ | 9, _ | 10, _ | 11, _ => rfl
noncomputable def z44_F : Go.Sh.Fn := ⟨44, bodyOf Try.f44, 10⟩
def z44_raw (n : Int) (v : Int) : Option (Bool) :=
 reqO (decide (0 ≤ (sizeT n))) (
 some ((Int.fdiv v (2 ^ (min ((sizeT n) : Int).toNat (IntKind.u64).bits))) == 0))
theorem z44_walk (n : Int) (v : Int) (r : Bool) (H : z44_raw n v = some r) : ACalls Try.prog tab.S 44 [.sc (.int .i64 n), .sc (.int .u64 v)] [] (.sc (.bool r)) [] := by
 refine .of_AX z44_F Try.func44 fun c0 hc0 => ?_
 rw [z44_raw] at H
 refine .sg 3 [0,1] (.rg (.sg 2 [5,6] (.cp [5,7] (z56_ok n) (reqH H fun hreq H => (.sr_ [8] (b := (sizeT n)) hreq (.sg 2 [4] (.dn ?_)))))))
 obtain rfl := Option.some.inj H
 exact .ret Try.func44 hc0
theorem fits_fdiv {n v : Int} : (Int.fdiv v (2 ^ (min (sizeT n).toNat (IntKind.u64).bits)) == 0) = (decide (0 ≤ v) && fitsT n v) := by
 have hs := sizeT_in n
 have hm : min (sizeT n).toNat (IntKind.u64).bits = (sizeT n).toNat := Nat.min_eq_left (by show _ ≤ 64; omega)
 rw [hm]
 have hp := pow_pos2 (sizeT n).toNat
 unfold fitsT
 rw [Bool.eq_iff_iff, Bool.and_eq_true, decide_eq_true_eq, decide_eq_true_eq, beq_iff_eq]
 rw [Int.fdiv_eq_ediv_of_nonneg _ (Int.le_of_lt hp)]
 constructor
 ·intro h
  have h1 := Int.mul_ediv_add_emod v ((2 : Int) ^ (sizeT n).toNat)
  have h2 := Int.emod_nonneg v (Int.ne_of_gt hp)
  have h3 := Int.emod_lt_of_pos v hp
  rw [h, Int.mul_zero, Int.zero_add] at h1
  rw [h1] at h2 h3
  exact ⟨h2, h3⟩
 ·intro h
  exact Int.ediv_eq_zero_of_lt h.1 h.2
def fitsH (n v : Int) : Bool := decide (0 ≤ v) && fitsT n v
theorem z44_ok (n v : Int) : ACalls Try.prog tab.S 44 [.sc (.int .i64 n), .sc (.int .u64 v)] [] (.sc (.bool (fitsH n v))) [] := by
 refine z44_walk n v _ ?_
 rw [z44_raw, reqO_eq (decide_eq_true (sizeT_in n).1), fits_fdiv]
 rfl
noncomputable def z38_F : Go.Sh.Fn := ⟨38, bodyOf Try.f38, 15⟩
def z38_l0s (h1 : List Int) : Nat → Nat → Sum (Unit) (Bool)
 | 0, t6 =>
  (.inl ())
 | rest + 1, t6 =>
  (bif (!(fitsH ((t6 : Nat) : Int) (h1.getD t6 0))) then
   (.inr false)
  else
   z38_l0s h1 rest (t6 + 1) )
theorem z38_l0_walk (h1 : List Int) (r : Bool) (c0 : Ctx) (hc0 : c0.m.length = 0) (res : Sum (Unit) (Bool)) (J : ∀ w : Unit, res = .inl w → AX Try.prog tab z38_F c0 (Rp tab.S c0 (.sc (.bool r)) []) (some ⟨[.code [1, 1]], [], [.box 25 [.arr .u64 12 h1]]⟩)) (Jr : ∀ w, res = .inr w → w = r) :
  ∀ (rest : Nat) (t6 : Nat) (z : Int) (hI : z = ((t6 : Nat) : Int)) (hd : t6 + rest = 12) (H : z38_l0s h1 rest t6 = res), AX Try.prog tab z38_F c0 (Rp tab.S c0 (.sc (.bool r)) []) (some ⟨[.code [1, 0, 1, 0, 0], .loop [1, 0, 1, 0], .blk 0, .code [1, 1]], [(5, .arr .u64 12 h1), (6, .sc (.int .i64 z))], [.box 25 [.arr .u64 12 h1]]⟩) := by
 intro rest
 induction rest with
 | zero =>
  intro t6 z hI hd  H
  subst hI
  rw [z38_l0s] at H
  have hc : (decide (((t6 : Nat) : Int) < 12)) = false := decide_eq_false (by omega)
  exact .sg 3 [5,6,7] (.cdF hc (.sg 1 [] (.kp [] (.to (J () H.symm)))))
 | succ rest ih =>
  intro t6 z hI hd  H
  subst hI
  rw [z38_l0s] at H
  have hlt_t6 : t6 < 12 := by omega
  have hc : (decide (((t6 : Nat) : Int) < 12)) = true := decide_eq_true (by omega)
  have hw : IntKind.i64.wrap (((t6 : Nat) : Int) + 1) = ((t6 + 1 : Nat) : Int) := wrapI_succ (by omega)
  refine .sg 3 [5,6,7] (.cdT hc (.sg 4 [5,6] (.rg (.sg 1 [5,6,8] ?_))))
  have hreq := idx_in 12 hlt_t6 (by decide)
  refine .xv [5,6,8,9] hreq (.sg 2 [3,4,5,6] (.dn (.sg 1 [3,4,5,6] (.rg (.sg 2 [5,6,10,11] (.cp [5,6,12] (z44_ok ((t6 : Nat) : Int) (h1.getD t6 0)) (.sg 1 [5,6,13] (.dn (.cd (!(fitsH ((t6 : Nat) : Int) (h1.getD t6 0))) H (fun hb H => ?_) (fun hb H => ?_))))))))))
  ·
   refine .sg 2 [2] ?_
   subst H
   obtain rfl := Jr _ rfl
   exact .ret Try.func38 hc0
  ·
   exact .sg 3 [5,6] (.kp [5,6] (.into (.cl (ih (t6 + 1) _ hw (by omega) H))))
def z38 (h1 : List Int) : Bool :=
 sumG (fun q => q) (z38_l0s h1 12 0) fun v =>
 true
theorem z38_calls (h1 : List Int) : ACalls Try.prog tab.S 38 [.arr .u64 12 h1] [] (.sc (.bool (z38 h1))) [] := by
 generalize H : z38 h1 = r
 refine .of_AX z38_F Try.func38 fun c0 hc0 => ?_
 rw [z38] at H
 refine .sg 6 [5,6] ?_
 rcases sumG_eq H with ⟨v, hv, H⟩ | ⟨r1, hv, hr1⟩
 case inr =>
  refine .into ?_
  replace hr1 : r1 = r := hr1
  subst hr1
  exact .to (z38_l0_walk h1 _ c0 hc0 (.inr _) (fun _ e => by cases e) (fun _ e => (Sum.inr.inj e).symm) 12 0 _ rfl rfl hv)
 refine .into (.to (z38_l0_walk h1 r c0 hc0 (.inl v) (fun w e => ?_) (fun _ e => by cases e) 12 0 _ rfl rfl hv))
 have e := Sum.inl.inj e
 subst e
 refine .sg 2 [2] ?_
 subst H
 exact .ret Try.func38 hc0
noncomputable def z37_F : Go.Sh.Fn := ⟨37, bodyOf Try.f37, 23⟩
def z37_l0s (c : Cube) : Nat → Nat → Sum (Unit) (Bool)
 | 0, t11 =>
  (.inl ())
 | rest + 1, t11 =>
  (bif ((IntKind.u64.wrap ((BitVec.ofInt 64 (c.Value.getD t11 0) &&& ~~~ (BitVec.ofInt 64 (c.Care.getD (t11) 0))).toNat)) != 0) then
   (.inr false)
  else
   z37_l0s c rest (t11 + 1) )
theorem z37_l0_walk (c : Cube) (r : Bool) (c0 : Ctx) (hc0 : c0.m.length = 0) (res : Sum (Unit) (Bool)) (J : ∀ w : Unit, res = .inl w → AX Try.prog tab z37_F c0 (Rp tab.S c0 (.sc (.bool r)) []) (some ⟨[.code [1, 1, 1]], [], [.box 40 (Cube.ch c)]⟩)) (Jr : ∀ w, res = .inr w → w = r) :
  ∀ (rest : Nat) (t11 : Nat) (z : Int) (hI : z = ((t11 : Nat) : Int)) (hd : t11 + rest = 12) (H : z37_l0s c rest t11 = res), AX Try.prog tab z37_F c0 (Rp tab.S c0 (.sc (.bool r)) []) (some ⟨[.code [1, 1, 0, 1, 0, 0], .loop [1, 1, 0, 1, 0], .blk 0, .code [1, 1, 1]], [(1, .ptr 0 0 none), (10, .arr .u64 12 c.Value), (11, .sc (.int .i64 z))], [.box 40 (Cube.ch c)]⟩) := by
 intro rest
 induction rest with
 | zero =>
  intro t11 z hI hd  H
  subst hI
  rw [z37_l0s] at H
  have hc : (decide (((t11 : Nat) : Int) < 12)) = false := decide_eq_false (by omega)
  exact .sg 3 [1,10,11,12] (.cdF hc (.sg 1 [] (.kp [] (.to (J () H.symm)))))
 | succ rest ih =>
  intro t11 z hI hd  H
  subst hI
  rw [z37_l0s] at H
  have hlt_t11 : t11 < 12 := by omega
  have hc : (decide (((t11 : Nat) : Int) < 12)) = true := decide_eq_true (by omega)
  have hw : IntKind.i64.wrap (((t11 : Nat) : Int) + 1) = ((t11 + 1 : Nat) : Int) := wrapI_succ (by omega)
  refine .sg 3 [1,10,11,12] (.cdT hc (.sg 4 [1,10,11] (.rg (.sg 1 [1,10,11,13] ?_))))
  have hreq := idx_in 12 hlt_t11 (by decide)
  refine .xv [1,10,11,13,14] hreq (.sg 2 [1,3,4,10,11] (.dn (.sg 1 [1,3,4,10,11] (.rg (.sg 3 [1,10,11,15,16,17] ?_)))))
  have hreq := idx_in 12 hlt_t11 (by decide)
  refine .xa [1,10,11,15,18] hreq (.sg 3 [1,10,11,21] (.dn (.cd ((IntKind.u64.wrap ((BitVec.ofInt 64 (c.Value.getD t11 0) &&& ~~~ (BitVec.ofInt 64 (c.Care.getD (t11) 0))).toNat)) != 0) H (fun hb H => ?_) (fun hb H => ?_))))
  ·
   refine .sg 2 [2] ?_
   subst H
   obtain rfl := Jr _ rfl
   exact .ret Try.func37 hc0
  ·
   exact .sg 3 [1,10,11] (.kp [1,10,11] (.into (.cl (ih (t11 + 1) _ hw (by omega) H))))
def z37 (c : Cube) : Bool :=
 (bif (!(z38 c.Care)) then
  false
 else
  sumG (fun q => q) (z37_l0s c 12 0) fun v =>
  true)
theorem z37_calls (c : Cube) : ACalls Try.prog tab.S 37 [Cube.av c] [] (.sc (.bool (z37 c))) [] := by
 generalize H : z37 c = r
 refine .of_AX z37_F Try.func37 fun c0 hc0 => ?_
 rw [z37] at H
 refine .sg 4 [1] (.rg (.sg 2 [1,6] (.cp [1,7] (z38_calls c.Care) (.sg 1 [1,8] (.dn (.cd (!(z38 c.Care)) H (fun hb H => ?_) (fun hb H => ?_)))))))
 ·
  refine .sg 2 [2] ?_
  subst H
  exact .ret Try.func37 hc0
 ·
  refine .sg 5 [1,10,11] ?_
  rcases sumG_eq H with ⟨v, hv, H⟩ | ⟨r1, hv, hr1⟩
  case inr =>
   refine .into ?_
   replace hr1 : r1 = r := hr1
   subst hr1
   exact .to (z37_l0_walk c _ c0 hc0 (.inr _) (fun _ e => by cases e) (fun _ e => (Sum.inr.inj e).symm) 12 0 _ rfl rfl hv)
  refine .into (.to (z37_l0_walk c r c0 hc0 (.inl v) (fun w e => ?_) (fun _ e => by cases e) 12 0 _ rfl rfl hv))
  have e := Sum.inl.inj e
  subst e
  refine .sg 2 [2] ?_
  subst H
  exact .ret Try.func37 hc0
noncomputable def z40_F : Go.Sh.Fn := ⟨40, bodyOf Try.f40, 11⟩
def z40 (a : Cube) (b : Cube) : Bool :=
 ((z37 a) && (z37 b))
theorem z40_calls (a : Cube) (b : Cube) : ACalls Try.prog tab.S 40 [Cube.av a, Cube.av b] [] (.sc (.bool (z40 a b))) [] := by
 generalize H : z40 a b = r
 refine .of_AX z40_F Try.func40 fun c0 hc0 => ?_
 rw [z40] at H
 refine .sg 3 [2,3] (.rg (.sg 1 [3,5] (.cp [3,6] (z37_calls a) (.sg 1 [3,7] (.mm 7 (z37 a) 3 [.pure, .pure, .read] [10] 10 (fun z => .sc (.bool (z && (z37 b)))) ?J1 (fun hb J => ?ht1) (fun hb J => ?hf1))))))
 case ht1 =>
  exact .sg 1 [7,8] (.cp [7,9] (z37_calls b) (.sg 1 [10] (.cl J)))
 case hf1 =>
  exact .sg 3 [10] (.cl J)
 refine .sg 1 [4] (.dn ?_)
 subst H
 exact .ret Try.func40 hc0
noncomputable def z30_F : Go.Sh.Fn := ⟨30, bodyOf Try.f30, 60⟩
def z30_l0s (b : Cube) : Nat → Nat → List Int → List Int → Sum ((List Int) × (List Int)) (Cube × Bool)
 | 0, t12, a_0, a_1 =>
  (.inl (a_0, a_1))
 | rest + 1, t12, a_0, a_1 =>
  (bif ((IntKind.u64.wrap ((BitVec.ofInt 64 (IntKind.u64.wrap ((BitVec.ofInt 64 (IntKind.u64.wrap ((BitVec.ofInt 64 (a_0.getD (t12) 0) ^^^ BitVec.ofInt 64 (b.Value.getD (t12) 0)).toNat)) &&& BitVec.ofInt 64 (a_1.getD (t12) 0)).toNat)) &&& BitVec.ofInt 64 (b.Care.getD (t12) 0)).toNat)) != 0) then
   (.inr (({ Value := [0, 0, 0, 0, 0, 0, 0, 0, 0, 0, 0, 0], Care := [0, 0, 0, 0, 0, 0, 0, 0, 0, 0, 0, 0] } : Cube), false))
  else
   z30_l0s b rest (t12 + 1) (a_0.set (t12) (IntKind.u64.wrap ((BitVec.ofInt 64 (a_0.getD (t12) 0) ||| BitVec.ofInt 64 (b.Value.getD (t12) 0)).toNat))) (a_1.set (t12) (IntKind.u64.wrap ((BitVec.ofInt 64 (a_1.getD (t12) 0) ||| BitVec.ofInt 64 (b.Care.getD (t12) 0)).toNat))))
theorem z30_l0_walk (a : Cube) (b : Cube) (r : Cube × Bool) (c0 : Ctx) (hc0 : c0.m.length = 0) (res : Sum ((List Int) × (List Int)) (Cube × Bool)) (J : ∀ w : (List Int) × (List Int), res = .inl w → AX Try.prog tab z30_F c0 (Rp tab.S c0 (.tup [Cube.av r.1, .sc (.bool r.2)]) []) (some ⟨[.code [1, 1, 1]], [(2, .ptr 0 0 none), (4, .ptr 2 0 none)], [.box 40 [.arr .u64 12 w.1, .arr .u64 12 w.2], .box 40 (Cube.ch b), .box 40 [.arr .u64 12 [0, 0, 0, 0, 0, 0, 0, 0, 0, 0, 0, 0], .arr .u64 12 [0, 0, 0, 0, 0, 0, 0, 0, 0, 0, 0, 0]]]⟩)) (Jr : ∀ w, res = .inr w → w = r) :
  ∀ (rest : Nat) (t12 : Nat) (z : Int) (hI : z = ((t12 : Nat) : Int)) (hd : t12 + rest = 12) (a_0 : List Int) (a_1 : List Int) (H : z30_l0s b rest t12 a_0 a_1 = res), AX Try.prog tab z30_F c0 (Rp tab.S c0 (.tup [Cube.av r.1, .sc (.bool r.2)]) []) (some ⟨[.code [1, 1, 0, 1, 0, 0], .loop [1, 1, 0, 1, 0], .blk 0, .code [1, 1, 1]], [(2, .ptr 0 0 none), (3, .ptr 1 0 none), (4, .ptr 2 0 none), (12, .sc (.int .i64 z))], [.box 40 [.arr .u64 12 a_0, .arr .u64 12 a_1], .box 40 (Cube.ch b), .box 40 [.arr .u64 12 [0, 0, 0, 0, 0, 0, 0, 0, 0, 0, 0, 0], .arr .u64 12 [0, 0, 0, 0, 0, 0, 0, 0, 0, 0, 0, 0]]]⟩) := by
 intro rest
 induction rest with
 | zero =>
  intro t12 z hI hd a_0 a_1 H
  subst hI
  rw [z30_l0s] at H
  have hc : (decide (((t12 : Nat) : Int) < 12)) = false := decide_eq_false (by omega)
  exact .sg 3 [2,3,4,12,13] (.cdF hc (.sg 1 [2,4] (.kp [2,4] (.to (J (a_0, a_1) H.symm)))))
 | succ rest ih =>
  intro t12 z hI hd a_0 a_1 H
  subst hI
  rw [z30_l0s] at H
  have hlt_t12 : t12 < 12 := by omega
  have hc : (decide (((t12 : Nat) : Int) < 12)) = true := decide_eq_true (by omega)
  have hw : IntKind.i64.wrap (((t12 : Nat) : Int) + 1) = ((t12 + 1 : Nat) : Int) := wrapI_succ (by omega)
  refine .sg 3 [2,3,4,12,13] (.cdT hc (.sg 7 [2,3,4,6,12] (.rg (.sg 2 [2,3,4,6,12,15,16] ?_))))
  have hreq := idx_in 12 hlt_t12 (by decide)
  refine .xa [2,3,4,6,12,17] hreq (.sg 3 [2,3,4,6,12,18,19,20] ?_)
  have hreq := idx_in 12 hlt_t12 (by decide)
  refine .xa [2,3,4,6,12,18,21] hreq (.sg 4 [2,3,4,6,12,23,24,25] ?_)
  have hreq := idx_in 12 hlt_t12 (by decide)
  refine .xa [2,3,4,6,12,23,26] hreq (.sg 4 [2,3,4,6,12,28,29,30] ?_)
  have hreq := idx_in 12 hlt_t12 (by decide)
  refine .xa [2,3,4,6,12,28,31] hreq (.sg 3 [2,3,4,6,12,34] (.dn (.cd ((IntKind.u64.wrap ((BitVec.ofInt 64 (IntKind.u64.wrap ((BitVec.ofInt 64 (IntKind.u64.wrap ((BitVec.ofInt 64 (a_0.getD (t12) 0) ^^^ BitVec.ofInt 64 (b.Value.getD (t12) 0)).toNat)) &&& BitVec.ofInt 64 (a_1.getD (t12) 0)).toNat)) &&& BitVec.ofInt 64 (b.Care.getD (t12) 0)).toNat)) != 0) H (fun hb H => ?_) (fun hb H => ?_))))
  ·
   refine .sg 2 [4,5] ?_
   subst H
   obtain rfl := Jr _ rfl
   exact .ret Try.func30 hc0
  ·
   refine .sg 2 [2,3,4,6,12] (.rg (.sg 2 [2,3,4,6,12,36,37] ?_))
   have hreq := idx_in 12 hlt_t12 (by decide)
   refine .xa [2,3,4,6,12,36,38] hreq (.sg 3 [2,3,4,6,12,36,39,40,41] ?_)
   have hreq := idx_in 12 hlt_t12 (by decide)
   refine .xa [2,3,4,6,12,36,39,42] hreq (.sg 3 [2,3,4,6,12,36,44,45] ?_)
   have hreq := idx_in 12 hlt_t12 (by decide)
   refine .xa [2,3,4,6,12,44,46] hreq (.sg 1 [2,3,4,6,12] (.dn (.rg (.sg 2 [2,3,4,6,12,47,48] ?_))))
   have hreq := idx_in 12 hlt_t12 (by decide)
   refine .xa [2,3,4,6,12,47,49] hreq (.sg 3 [2,3,4,12,47,50,51,52] ?_)
   have hreq := idx_in 12 hlt_t12 (by decide)
   refine .xa [2,3,4,12,47,50,53] hreq (.sg 3 [2,3,4,12,47,55,56] ?_)
   have hreq := idx_in 12 hlt_t12 (by decide)
   exact .xa [2,3,4,12,55,57] hreq (.sg 1 [2,3,4,12] (.dn (.sg 2 [2,3,4,12] (.kp [2,3,4,12] (.into (.cl (ih (t12 + 1) _ hw (by omega) (a_0.set (t12) (IntKind.u64.wrap ((BitVec.ofInt 64 (a_0.getD (t12) 0) ||| BitVec.ofInt 64 (b.Value.getD (t12) 0)).toNat))) (a_1.set (t12) (IntKind.u64.wrap ((BitVec.ofInt 64 (a_1.getD (t12) 0) ||| BitVec.ofInt 64 (b.Care.getD (t12) 0)).toNat))) H)))))))
def z30 (a : Cube) (b : Cube) : Cube × Bool :=
 (bif (!(z40 a b)) then
  (({ Value := [0, 0, 0, 0, 0, 0, 0, 0, 0, 0, 0, 0], Care := [0, 0, 0, 0, 0, 0, 0, 0, 0, 0, 0, 0] } : Cube), false)
 else
  sumG (fun q => q) (z30_l0s b 12 0 a.Value a.Care) fun v =>
  (({ Value := v.1, Care := v.2 } : Cube), true))
theorem z30_calls (a : Cube) (b : Cube) : ACalls Try.prog tab.S 30 [Cube.av a, Cube.av b] [] (.tup [Cube.av ((z30 a b).1), .sc (.bool ((z30 a b).2))]) [] := by
 generalize H : z30 a b = r
 refine .of_AX z30_F Try.func30 fun c0 hc0 => ?_
 rw [z30] at H
 refine .sg 4 [2,3,4] (.rg (.sg 2 [2,3,4,7,8] (.cp [2,3,4,9] (z40_calls a b) (.sg 1 [2,3,4,10] (.dn (.cd (!(z40 a b)) H (fun hb H => ?_) (fun hb H => ?_)))))))
 ·
  refine .sg 2 [4,5] ?_
  subst H
  exact .ret Try.func30 hc0
 ·
  refine .sg 5 [2,3,4,12] ?_
  rcases sumG_eq H with ⟨v, hv, H⟩ | ⟨r1, hv, hr1⟩
  case inr =>
   refine .into ?_
   replace hr1 : r1 = r := hr1
   subst hr1
   exact .to (z30_l0_walk a b _ c0 hc0 (.inr _) (fun _ e => by cases e) (fun _ e => (Sum.inr.inj e).symm) 12 0 _ rfl rfl a.Value a.Care hv)
  refine .into (.to (z30_l0_walk a b r c0 hc0 (.inl v) (fun w e => ?_) (fun _ e => by cases e) 12 0 _ rfl rfl a.Value a.Care hv))
  have e := Sum.inl.inj e
  subst e
  refine .sg 2 [4,5] ?_
  subst H
  exact .ret Try.func30 hc0
noncomputable def cube_Has_F : Go.Sh.Fn := ⟨25, bodyOf Try.f25, 30⟩
def cube_Has_l0s (c : Cube) (h1 : List Int) : Nat → Nat → Sum (Unit) (Bool)
 | 0, t8 =>
  (.inl ())
 | rest + 1, t8 =>
  (bif ((IntKind.u64.wrap ((BitVec.ofInt 64 (h1.getD t8 0) &&& BitVec.ofInt 64 (c.Care.getD (t8) 0)).toNat)) != (c.Value.getD (t8) 0)) then
   (.inr false)
  else
   cube_Has_l0s c h1 rest (t8 + 1) )
theorem cube_Has_l0_walk (c : Cube) (h1 : List Int) (r : Bool) (c0 : Ctx) (hc0 : c0.m.length = 0) (res : Sum (Unit) (Bool)) (J : ∀ w : Unit, res = .inl w → AX Try.prog tab cube_Has_F c0 (Rp tab.S c0 (.sc (.bool r)) []) (some ⟨[.code [1, 1]], [(2, .ptr 0 0 none), (3, .ptr 1 0 none)], [.box 40 (Cube.ch c), .box 25 [.arr .u64 12 h1]]⟩)) (Jr : ∀ w, res = .inr w → w = r) :
  ∀ (rest : Nat) (t8 : Nat) (z : Int) (hI : z = ((t8 : Nat) : Int)) (hd : t8 + rest = 12) (H : cube_Has_l0s c h1 rest t8 = res), AX Try.prog tab cube_Has_F c0 (Rp tab.S c0 (.sc (.bool r)) []) (some ⟨[.code [1, 0, 1, 0, 0], .loop [1, 0, 1, 0], .blk 0, .code [1, 1]], [(2, .ptr 0 0 none), (3, .ptr 1 0 none), (7, .arr .u64 12 h1), (8, .sc (.int .i64 z))], [.box 40 (Cube.ch c), .box 25 [.arr .u64 12 h1]]⟩) := by
 intro rest
 induction rest with
 | zero =>
  intro t8 z hI hd  H
  subst hI
  rw [cube_Has_l0s] at H
  have hc : (decide (((t8 : Nat) : Int) < 12)) = false := decide_eq_false (by omega)
  exact .sg 3 [2,3,7,8,9] (.cdF hc (.sg 1 [2,3] (.kp [2,3] (.to (J () H.symm)))))
 | succ rest ih =>
  intro t8 z hI hd  H
  subst hI
  rw [cube_Has_l0s] at H
  have hlt_t8 : t8 < 12 := by omega
  have hc : (decide (((t8 : Nat) : Int) < 12)) = true := decide_eq_true (by omega)
  have hw : IntKind.i64.wrap (((t8 : Nat) : Int) + 1) = ((t8 + 1 : Nat) : Int) := wrapI_succ (by omega)
  refine .sg 3 [2,3,7,8,9] (.cdT hc (.sg 4 [2,3,7,8] (.rg (.sg 1 [2,3,7,8,10] ?_))))
  have hreq := idx_in 12 hlt_t8 (by decide)
  refine .xv [2,3,7,8,10,11] hreq (.sg 2 [2,3,5,6,7,8] (.dn (.sg 1 [2,3,5,6,7,8] (.rg (.sg 3 [2,3,5,7,8,12,13,14] ?_)))))
  have hreq := idx_in 12 hlt_t8 (by decide)
  refine .xa [2,3,5,7,8,12,15] hreq (.sg 4 [2,3,7,8,17,18,19] ?_)
  have hreq := idx_in 12 hlt_t8 (by decide)
  refine .xa [2,3,7,8,17,20] hreq (.sg 2 [2,3,7,8,22] (.dn (.cd ((IntKind.u64.wrap ((BitVec.ofInt 64 (h1.getD t8 0) &&& BitVec.ofInt 64 (c.Care.getD (t8) 0)).toNat)) != (c.Value.getD (t8) 0)) H (fun hb H => ?_) (fun hb H => ?_))))
  ·
   refine .sg 2 [4] ?_
   subst H
   obtain rfl := Jr _ rfl
   exact .ret Try.func25 hc0
  ·
   exact .sg 3 [2,3,7,8] (.kp [2,3,7,8] (.into (.cl (ih (t8 + 1) _ hw (by omega) H))))
def cube_Has (c : Cube) (h1 : List Int) : Bool :=
 sumG (fun q => q) (cube_Has_l0s c h1 12 0) fun v =>
 ((z37 c) && (z38 h1))
theorem cube_Has_calls (c : Cube) (h1 : List Int) : ACalls Try.prog tab.S 25 [Cube.av c, .arr .u64 12 h1] [] (.sc (.bool (cube_Has c h1))) [] := by
 generalize H : cube_Has c h1 = r
 refine .of_AX cube_Has_F Try.func25 fun c0 hc0 => ?_
 rw [cube_Has] at H
 refine .sg 6 [2,3,7,8] ?_
 rcases sumG_eq H with ⟨v, hv, H⟩ | ⟨r1, hv, hr1⟩
 case inr =>
  refine .into ?_
  replace hr1 : r1 = r := hr1
  subst hr1
  exact .to (cube_Has_l0_walk c h1 _ c0 hc0 (.inr _) (fun _ e => by cases e) (fun _ e => (Sum.inr.inj e).symm) 12 0 _ rfl rfl hv)
 refine .into (.to (cube_Has_l0_walk c h1 r c0 hc0 (.inl v) (fun w e => ?_) (fun _ e => by cases e) 12 0 _ rfl rfl hv))
 have e := Sum.inl.inj e
 subst e
 refine .sg 1 [2,3] (.rg (.sg 1 [3,24] (.cp [3,25] (z37_calls c) (.sg 1 [3,26] (.mm 26 (z37 c) 3 [.pure, .pure, .read] [29] 29 (fun z => .sc (.bool (z && (z38 h1)))) ?J1 (fun hb J => ?ht1) (fun hb J => ?hf1))))))
 case ht1 =>
  exact .sg 1 [26,27] (.cp [26,28] (z38_calls h1) (.sg 1 [29] (.cl J)))
 case hf1 =>
  exact .sg 3 [29] (.cl J)
 refine .sg 1 [4] (.dn ?_)
 subst H
 exact .ret Try.func25 hc0
end Go.Proofs.Ytamgbggpbehflaa
namespace Go.Proofs.Ytamgbggpbehflaa
open Go.Sh
noncomputable def z39_F : Go.Sh.Fn := ⟨39, bodyOf Try.f39, 19⟩
def z39_l0s (f : Region → Bool) : List Region → Nat → Sum (Unit) (Int)
 | [], t8 =>
  (.inl ())
 | x :: rest, t8 =>
  (bif (f x) then
   (.inr ((t8 : Nat) : Int))
  else
   z39_l0s f rest (t8 + 1) )
theorem z39_l0_walk (s : List Region) (F_f : FuncId) (C_f : List AV) (f : Region → Bool) (P_f : plainL C_f = true) (O_f : C_f.all oneA = true) (H_f : ∀ (y0 : Region), ACalls Try.prog tab.S F_f ([Region.av y0] ++ C_f) [] (.sc (.bool (f y0))) []) (f_s : Bool) (r : Int) (c0 : Ctx) (hc0 : c0.m.length = 0) (res : Sum (Unit) (Int)) (J : ∀ w : Unit, res = .inl w → AX Try.prog tab z39_F c0 (Rp tab.S c0 (.sc (.int .i64 r)) []) (some ⟨[.code [1, 1]], [], []⟩)) (Jr : ∀ w, res = .inr w → w = r) :
  ∀ (rest : List Region) (t8 : Nat) (z : Int) (hI : z = ((t8 : Nat) : Int)) (hd : s.drop t8 = rest) (H : z39_l0s f rest t8 = res), AX Try.prog tab z39_F c0 (Rp tab.S c0 (.sc (.int .i64 r)) []) (some ⟨[.code [1, 0, 1, 0, 0], .loop [1, 0, 1, 0], .blk 0, .code [1, 1]], [(0, .sl 42 (List.map Region.av s) f_s), (1, .fn F_f C_f), (7, .sc (.int .i64 (((List.map Region.av s).length : Nat) : Int))), (8, .sc (.int .i64 z))], []⟩) := by
 intro rest
 induction rest with
 | nil =>
  intro t8 z hI hd  H
  subst hI
  rw [z39_l0s] at H
  refine .facts 0 fun hf => ?_
  have hlen : s.length ≤ 9223372036854775807 := by have hq := len_ok hf.2.1; rw [List.length_map] at hq; exact hq
  have hge : s.length ≤ t8 := List.drop_eq_nil_iff.1 hd
  have hc : (decide (((t8 : Nat) : Int) < (((List.map Region.av s).length : Nat) : Int))) = false := by rw [List.length_map]; exact decide_eq_false (by omega)
  exact .sg 3 [0,1,7,8,9] (.cdF hc (.sg 1 [] (.kp [] (.to (J () H.symm)))))
 | cons x rest ih =>
  intro t8 z hI hd  H
  subst hI
  rw [z39_l0s] at H
  refine .facts 0 fun hf => ?_
  have hlen : s.length ≤ 9223372036854775807 := by have hq := len_ok hf.2.1; rw [List.length_map] at hq; exact hq
  obtain ⟨hlt, hv_t8, hd2⟩ := drop_cons hd
  have hc : (decide (((t8 : Nat) : Int) < (((List.map Region.av s).length : Nat) : Int))) = true := by rw [List.length_map]; exact decide_eq_true (by omega)
  have hw : IntKind.i64.wrap (((t8 : Nat) : Int) + 1) = ((t8 + 1 : Nat) : Int) := wrapI_succ (by omega)
  refine .sg 3 [0,1,7,8,9] (.cdT hc (.sg 6 [0,1,5,7,8] (.rg (.sg 3 [0,1,5,7,8,11,12,13] (.xi [0,1,5,7,8,11,14] Region.av hv_t8 (.sg 1 [0,1,5,7,8,11,15] (.cf [0,1,5,7,8,16] (H_f x) P_f O_f (.dn (.cd (f x) H (fun hb H => ?_) (fun hb H => ?_))))))))))
  ·
   refine .sg 2 [4] ?_
   subst H
   obtain rfl := Jr _ rfl
   exact .ret Try.func39 hc0
  ·
   exact .sg 3 [0,1,7,8] (.kp [0,1,7,8] (.into (.cl (ih (t8 + 1) _ hw hd2 H))))
def z39 (s : List Region) (f : Region → Bool) : Int :=
 sumG (fun q => q) (z39_l0s f s 0) fun v =>
 (-1)
theorem z39_calls (s : List Region) (F_f : FuncId) (C_f : List AV) (f : Region → Bool) (P_f : plainL C_f = true) (O_f : C_f.all oneA = true) (H_f : ∀ (y0 : Region), ACalls Try.prog tab.S F_f ([Region.av y0] ++ C_f) [] (.sc (.bool (f y0))) []) (f_s : Bool) : ACalls Try.prog tab.S 39 [.sl 42 (List.map Region.av s) f_s, .fn F_f C_f] [] (.sc (.int .i64 (z39 s f))) [] := by
 generalize H : z39 s f = r
 refine .of_AX z39_F Try.func39 fun c0 hc0 => ?_
 rw [z39] at H
 refine .sg 6 [0,1,7,8] ?_
 rcases sumG_eq H with ⟨v, hv, H⟩ | ⟨r1, hv, hr1⟩
 case inr =>
  refine .into ?_
  replace hr1 : r1 = r := hr1
  subst hr1
  exact .to (z39_l0_walk s F_f C_f f P_f O_f H_f f_s _ c0 hc0 (.inr _) (fun _ e => by cases e) (fun _ e => (Sum.inr.inj e).symm) s 0 _ rfl rfl hv)
 refine .into (.to (z39_l0_walk s F_f C_f f P_f O_f H_f f_s r c0 hc0 (.inl v) (fun w e => ?_) (fun _ e => by cases e) s 0 _ rfl rfl hv))
 have e := Sum.inl.inj e
 subst e
 refine .sg 2 [4] ?_
 subst H
 exact .ret Try.func39 hc0
theorem z39_l0s_eq (f : Region → Bool) : ∀ (l : List Region) (i : Nat), z39_l0s f l i = match l.findIdx? f with | some k => .inr ((i + k : Nat) : Int) | none => .inl ()
 | [], i => rfl
 | x :: l, i => by
   rw [z39_l0s, List.findIdx?_cons, z39_l0s_eq f l (i + 1)]
   cases f x
   ·simp only [cond_false, Bool.false_eq_true, if_false]
    cases l.findIdx? f with
    | none => rfl
    | some k => simp only [Option.map_some]; rw [show i + 1 + k = i + (k + 1) by omega]
   ·rfl
theorem z39_idx (s : List Region) (f : Region → Bool) : z39 s f = idxF f s := by
 rw [z39, z39_l0s_eq]
 unfold idxF sumG
 cases s.findIdx? f with
 | none => rfl
 | some k => simp only [Nat.zero_add]
noncomputable def z26_F : Go.Sh.Fn := ⟨26, bodyOf Try.f26, 9⟩
def z26 (s : List Region) (f : Region → Bool) : Bool :=
 (decide ((z39 s f) ≥ 0))
theorem z26_calls (s : List Region) (F_f : FuncId) (C_f : List AV) (f : Region → Bool) (P_f : plainL C_f = true) (O_f : C_f.all oneA = true) (H_f : ∀ (y0 : Region), ACalls Try.prog tab.S F_f ([Region.av y0] ++ C_f) [] (.sc (.bool (f y0))) []) (f_s : Bool) : ACalls Try.prog tab.S 26 [.sl 42 (List.map Region.av s) f_s, .fn F_f C_f] [] (.sc (.bool (z26 s f))) [] := by
 generalize H : z26 s f = r
 refine .of_AX z26_F Try.func26 fun c0 hc0 => ?_
 rw [z26] at H
 refine .sg 3 [0,1] (.rg (.sg 2 [5,6] (.cl_ [7] (caps := []) (z39_calls s F_f C_f f P_f O_f H_f f_s) (.same rfl (.fn (caps := C_f) (lendC_plain C_f P_f) .nil)) (by kernel_rfl) rfl rfl (.sg 2 [4] (.dn ?_)))))
 subst H
 exact .ret Try.func26 hc0
theorem z26_any (s : List Region) (f : Region → Bool) : z26 s f = s.any f := by
 rw [z26, z39_idx, idxF_any]
noncomputable def z29_F : Go.Sh.Fn := ⟨29, bodyOf Try.f29, 22⟩
def z29 (y : Region) (c : Region) : Bool :=
 ((z30 c.Cube y.Cube).2 && (c.Unit == y.Unit))
theorem z29_calls (y : Region) (c : Region) : ACalls Try.prog tab.S 29 [Region.av y, .ep [.sc (.int .i64 c.Unit), .arr .u64 12 c.Cube.Value, .arr .u64 12 c.Cube.Care] 0 none] [] (.sc (.bool (z29 y c))) [] := by
 generalize H : z29 y c = r
 refine .of_AX z29_F Try.func29 fun c0 hc0 => ?_
 rw [z29] at H
 refine .sg 3 [1,2] (.rg (.sg 4 [1,2,8,10] (.cp [1,2,11] (z30_calls c.Cube y.Cube) (.sg 6 [1,2,5] (.dn (.sg 1 [1,2,5] (.rg (.sg 2 [1,2,15] (.mx 0 [21] (.sg 1 [3] (.dn ?_)))))))))))
 subst H
 exact .ret Try.func29 hc0
noncomputable def z28_F : Go.Sh.Fn := ⟨28, bodyOf Try.f28, 7⟩
def z28 (x : Region) (c : List Region) : Bool :=
 (z26 c (fun y0 => z29 y0 x))
theorem z28_calls (x : Region) (c : List Region) (f_c : Bool) : ACalls Try.prog tab.S 28 [Region.av x, .ep [.sl 42 (List.map Region.av c) f_c] 0 none] [] (.sc (.bool (z28 x c))) [] := by
 generalize H : z28 x c = r
 refine .of_AX z28_F Try.func28 fun c0 hc0 => ?_
 rw [z28] at H
 refine .sg 3 [1,2] (.rg (.sg 2 [4,5] (.cl_ [6] (caps := []) (z26_calls c 29 [.ep [.sc (.int .i64 x.Unit), .arr .u64 12 x.Cube.Value, .arr .u64 12 x.Cube.Care] 0 none] (fun y0 => z29 y0 x) rfl rfl (fun y0 => z29_calls y0 x) f_c) (.same rfl (.fn (caps := [.ptr 0 0 none]) (by kernel_rfl) .nil)) (by kernel_rfl) rfl rfl (.sg 1 [3] (.dn ?_)))))
 subst H
 exact .ret Try.func28 hc0
noncomputable def z17_F : Go.Sh.Fn := ⟨17, bodyOf Try.f17, 8⟩
def z17 (a : List Region) (b : List Region) : Bool :=
 (z26 a (fun y0 => z28 y0 b))
theorem z17_calls (a : List Region) (b : List Region) (f_a : Bool) (f_b : Bool) : ACalls Try.prog tab.S 17 [.sl 42 (List.map Region.av a) f_a, .sl 42 (List.map Region.av b) f_b] [] (.sc (.bool (z17 a b))) [] := by
 generalize H : z17 a b = r
 refine .of_AX z17_F Try.func17 fun c0 hc0 => ?_
 rw [z17] at H
 refine .sg 3 [0,3] (.rg (.sg 2 [5,6] (.cl_ [7] (caps := []) (z26_calls a 28 [.ep [.sl 42 (List.map Region.av b) f_b] 0 none] (fun y0 => z28 y0 b) rfl rfl (fun y0 => z28_calls y0 b f_b) f_a) (.same rfl (.fn (caps := [.ptr 0 0 none]) (by kernel_rfl) .nil)) (by kernel_rfl) rfl rfl (.sg 1 [4] (.dn ?_)))))
 subst H
 exact .ret Try.func17 hc0
noncomputable def z18_F : Go.Sh.Fn := ⟨18, bodyOf Try.f18, 8⟩
theorem z18_calls (s : List Region) (f_s : Bool) : ACalls Try.prog tab.S 18 [.sl 42 (List.map Region.av s) f_s] [] (.sl 42 (List.map Region.av s) false) [] := by
 have hG := tab_ok
 have hm := mixed
 have hE : Ent Try.prog 18 := ent_of Try.func18 (by kernel_rfl) (by kernel_rfl)
 cases s with
 | nil =>
  refine ACalls.empty hE fun p c => ?_
  refine ACalls.of_AR (G := tab) z18_F (fn := Try.f18) Try.func18 (by kernel_rfl) (by kernel_rfl) (by kernel_rfl) (Nat.le_of_ble_eq_true (by kernel_rfl)) ?_
  intro c0 hc0
  replace hc0 : c0.m.length = 0 := hc0
  refine AR.seg hG hm 4 [0] (k' := [.code [1, 0, 0], .code [1, 0, 1], .code [1, 1]]) (t' := [(0, .sc (.slice p 0 c))]) (h' := []) (by kernel_rfl) ?_
  refine AR.reg hm [.pure, .pure] (by kernel_rfl) ?_
  refine DK.seg hG 1 [0, 3] (t' := [(0, .sc (.slice p 0 c)), (3, .sc (.slice p 0 c))]) (h' := []) (by kernel_rfl) rfl ?_
  refine DK.op' [0, 4] (t' := [(0, .sc (.slice p 0 c)), (4, .sc (.bool p.isNone))]) (h' := []) (LSpec.nilEq hG (p := p) (l := 0) (c := c) (by kernel_rfl)) (by kernel_rfl) rfl (by kernel_rfl) rfl ?_
  refine DK.done (by kernel_rfl) (by kernel_rfl) ?_
  refine AR.cond (.tmp 4) p.isNone (by kernel_rfl) (by kernel_rfl) (fun hb => ?ht) (fun hb => ?hf)
  case ht =>
   refine AR.seg hG hm 2 [2] (k' := [.code [1, 0, 1, 0, 1], .code [1, 1]]) (t' := [(2, .sl 0 [] true)]) (h' := []) (by kernel_rfl) ?_
   exact AR.ret0 (fn := Try.f18) hG Try.func18 (by kernel_rfl) hc0 (r0 := .sl 0 [] true) (by kernel_rfl) (WkV.sl (Wk1.nil 42 false))
  case hf =>
   refine AR.seg hG hm 2 [0] (k' := [.code [1, 1, 0], .code [1, 1, 1]]) (t' := [(0, .sc (.slice p 0 c))]) (h' := []) (by kernel_rfl) ?_
   refine AR.reg hm [.pure, .pure, .pure, .pure] (by kernel_rfl) ?_
   refine DK.seg hG 2 [5, 6] (t' := [(5, .sl 42 [] true), (6, .sc (.slice p 0 c))]) (h' := []) (by kernel_rfl) rfl ?_
   refine DK.op' [7] (t' := [(7, .sl 42 [] true)]) (h' := []) (LSpec.app0 hG (e0 := 42) (rows := []) (f := true) (by kernel_rfl)) (by kernel_rfl) rfl (by kernel_rfl) rfl ?_
   refine DK.seg hG 1 [2] (t' := [(2, .sl 42 [] true)]) (h' := []) (by kernel_rfl) rfl ?_
   refine DK.done (by kernel_rfl) (by kernel_rfl) ?_
   exact AR.ret0 (fn := Try.f18) hG Try.func18 (by kernel_rfl) hc0 (r0 := .sl 42 [] true) (by kernel_rfl) (WkV.sl (Wk1.nil 42 false))
 | cons x xs =>
  refine ACalls.facts hE fun hf => ?_
  have hfit : (([] : List Region).length + (x :: xs).length) * 200 ≤ reach := by
   have h1 : (List.map Region.av (x :: xs)).length * 200 ≤ reach := hf.1.1
   simpa using h1
  refine ACalls.of_AR (G := tab) z18_F (fn := Try.f18) Try.func18 (by kernel_rfl) (by kernel_rfl) (by kernel_rfl) (Nat.le_of_ble_eq_true (by kernel_rfl)) ?_
  intro c0 hc0
  replace hc0 : c0.m.length = 0 := hc0
  refine AR.seg hG hm 4 [0] (k' := [.code [1, 0, 0], .code [1, 0, 1], .code [1, 1]]) (t' := [(0, .sl 42 (List.map Region.av (x :: xs)) f_s)]) (h' := []) (by kernel_rfl) ?_
  refine AR.reg hm [.pure, .pure] (by kernel_rfl) ?_
  refine DK.seg hG 1 [0, 3] (t' := [(0, .sl 42 (List.map Region.av (x :: xs)) f_s), (3, .sl 42 (List.map Region.av (x :: xs)) f_s)]) (h' := []) (by kernel_rfl) rfl ?_
  refine DK.op' [0, 4] (t' := [(0, .sl 42 (List.map Region.av (x :: xs)) f_s), (4, .sc (.bool false))]) (h' := []) (LSpec.neNil hG (by kernel_rfl)) (by kernel_rfl) rfl (by kernel_rfl) rfl ?_
  refine DK.done (by kernel_rfl) (by kernel_rfl) ?_
  refine AR.seg hG hm 3 [0] (k' := [.code [1, 1, 0], .code [1, 1, 1]]) (t' := [(0, .sl 42 (List.map Region.av (x :: xs)) f_s)]) (h' := []) (by kernel_rfl) ?_
  refine AR.reg hm [.pure, .pure, .loud, .pure] (by kernel_rfl) ?_
  refine DK.seg hG 2 [5, 6] (t' := [(5, .sl 42 [] true), (6, .sl 42 (List.map Region.av (x :: xs)) f_s)]) (h' := []) (by kernel_rfl) rfl ?_
  refine DK.op' [7] (t' := [(7, .own 0 1)]) (h' := [.row 42 (List.map Region.av ([] ++ (x :: xs))) 1 true]) (LSpec.appendN hG Region.av [] (x :: xs) 42 200 hfit (by kernel_rfl)) (by kernel_rfl) (by kernel_rfl) (by kernel_rfl) rfl ?_
  refine DK.seg hG 1 [2] (t' := [(2, .own 0 1)]) (h' := [.row 42 (List.map Region.av ([] ++ (x :: xs))) 1 true]) (by kernel_rfl) rfl ?_
  refine DK.done (by kernel_rfl) (by kernel_rfl) ?_
  exact AR.ret0 (fn := Try.f18) hG Try.func18 (by kernel_rfl) hc0 (r0 := .sl 42 (List.map Region.av (x :: xs)) false) (by kernel_rfl) (WkV.refl _)
end Go.Proofs.Ytamgbggpbehflaa
namespace Go.Proofs.Ytamgbggpbehflaa
open Go.Sh
noncomputable def lock_New_F : Go.Sh.Fn := ⟨8, bodyOf Try.f8, 4⟩
def lock_New : Locks :=
 ({ held := ([] : List (Int × (List Region))) } : Locks)
theorem lock_New_walk (r : Locks) (H : lock_New = r) : ACalls Try.prog tab.S 8 [] [] (.ptr 0 0 none) [.box 53 [.ref mapK 1], .vals .map (mapAV (intA .i64) (slA 42 Region.av) r.held)] := by
 refine .of_AX lock_New_F Try.func8 fun c0 hc0 => ?_
 rw [lock_New] at H
 refine .sg 3 [] (.rg (.mkM [1] (.sg 3 [0] (.dn ?_))))
 subst H
 exact .ret Try.func8 hc0 [1,0]
noncomputable def z10_F : Go.Sh.Fn := ⟨10, bodyOf Try.f10, 24⟩
def z10 (l : Locks) (txn : Int) : Bool × Locks :=
 ((hasM txn l.held), ({ held := (delM txn l.held) } : Locks))
theorem z10_walk (l : Locks) (txn : Int) (r : Bool × Locks) (H : z10 l txn = r) : ACalls Try.prog tab.S 10 [.ptr 0 0 none, .sc (.int .i64 txn)] [.box 53 [.ref mapK 1], .vals .map (mapAV (intA .i64) (slA 42 Region.av) l.held)] (.sc (.bool r.1)) [.box 53 [.ref mapK 1], .vals .map (mapAV (intA .i64) (slA 42 Region.av) r.2.held)] := by
 refine .of_AX z10_F Try.func10 fun c0 hc0 => ?_
 rw [z10] at H
 refine .sg 8 [0,1] (.rg (.sg 5 [0,1,13,14] (.ml [0,1,15] (ds := [(42, false)]) (slA 42 Region.av) (kl_int (k := .i64) (kt := 3) (by kernel_rfl)) (fun _ => rfl) l.held txn [] true (.sg 5 [0,1,6] (.dn (.sg 1 [0,1,6] (.rg (.sg 5 [6,21,22] (.del [6] (slA 42 Region.av) (kl_int (k := .i64) (kt := 3) (by kernel_rfl)) l.held txn (.dn (.sg 2 [4] ?_)))))))))))
 subst H
 exact .ret Try.func10 hc0 [0,1]
end Go.Proofs.Ytamgbggpbehflaa
namespace Go.Proofs.Ytamgbggpbehflaa
open Go.Sh
section
open Go.RowKit Go.Maps Go.Sort Go.Shelf
def keysL_ren : Go.Shelf.Ren := ⟨fun | 7 => 20 | 10 => 33 | n => n, fun | 23 => 51 | 26 => 3 | 3 => 31 | 28 => 60 | 0 => 0 | 27 => 59 | 33 => 36 | 4 => 4 | n => n, fun | n => n⟩
theorem keysL : Go.Proofs.SlLaysZI.n7 Try.prog keysL_ren where
  mixed := by kernel_rfl
  f7 := ⟨ "maps.Keys[map[int][]podesta/api.Region,int,[]podesta/api.Region]", by decide, Try.func20.trans (congrArg some (by kernel_rfl))⟩
  f10 := ⟨ "maps.Keys[map[int][]podesta/api.Region,int,[]podesta/api.Region]$1", by decide, Try.func33.trans (congrArg some (by kernel_rfl))⟩
  t0 := Try.underlying0
  a0 := Try.isAgg0
  z0 := Try.sizeOf0
  v0 := Try.zeroValue0
  t4 := Try.underlying4
  a4 := Try.isAgg4
  z4 := Try.sizeOf4
  v4 := Try.zeroValue4
  t23 := Try.underlying51
  a23 := Try.isAgg51
  z23 := Try.sizeOf51
  v23 := Try.zeroValue51
  t26 := Try.underlying3
  a26 := Try.isAgg3
  z26 := Try.sizeOf3
  v26 := Try.zeroValue3
  t27 := Try.underlying59
  a27 := Try.isAgg59
  z27 := Try.sizeOf59
  v27 := Try.zeroValue59
  t28 := Try.underlying60
  a28 := Try.isAgg60
  z28 := Try.sizeOf60
  v28 := Try.zeroValue60
  t33 := Try.underlying36
  a33 := Try.isAgg36
  z33 := Try.sizeOf36
  v33 := Try.zeroValue36
def sortedL_ren : Go.Shelf.Ren := ⟨fun | 6 => 19 | 8 => 31 | 9 => 32 | 11 => 41 | 13 => 43 | 12 => 42 | 23 => 54 | 24 => 55 | 14 => 45 | 15 => 46 | 16 => 47 | 17 => 48 | 18 => 49 | 19 => 50 | 20 => 51 | 21 => 52 | 22 => 53 | 25 => 57 | 26 => 58 | 27 => 59 | 28 => 60 | 29 => 61 | 30 => 62 | 31 => 65 | n => n, fun | 26 => 3 | 28 => 60 | 24 => 29 | 0 => 0 | 3 => 3 | 37 => 81 | 48 => 92 | 50 => 23 | 4 => 4 | 40 => 85 | 39 => 84 | 45 => 44 | 5 => 5 | 9 => 9 | 51 => 94 | 55 => 98 | 57 => 104 | 58 => 105 | 33 => 36 | n => n, fun | n => n⟩
theorem sortedL : Go.Proofs.SlLaysZI.n6 Try.prog sortedL_ren where
  mixed := by kernel_rfl
  f6 := ⟨ "slices.Sorted[int]", by decide, Try.func19.trans (congrArg some (by kernel_rfl))⟩
  f8 := ⟨ "slices.Collect[int]", by decide, Try.func31.trans (congrArg some (by kernel_rfl))⟩
  f11 := ⟨ "slices.AppendSeq[[]int,int]", by decide, Try.func41.trans (congrArg some (by kernel_rfl))⟩
  t0 := Try.underlying0
  a0 := Try.isAgg0
  z0 := Try.sizeOf0
  v0 := Try.zeroValue0
  t24 := Try.underlying29
  a24 := Try.isAgg29
  z24 := Try.sizeOf29
  v24 := Try.zeroValue29
  t26 := Try.underlying3
  a26 := Try.isAgg3
  z26 := Try.sizeOf3
  v26 := Try.zeroValue3
  t28 := Try.underlying60
  a28 := Try.isAgg60
  z28 := Try.sizeOf60
  v28 := Try.zeroValue60
  i26 := by kernel_rfl
def sortL_ren : Go.Shelf.Ren := ⟨fun | 5 => 32 | 8 => 43 | 7 => 42 | 19 => 54 | 20 => 55 | 10 => 45 | 11 => 46 | 12 => 47 | 13 => 48 | 14 => 49 | 15 => 50 | 16 => 51 | 17 => 52 | 18 => 53 | 30 => 57 | 31 => 58 | 32 => 59 | 33 => 60 | 34 => 61 | 35 => 62 | 40 => 65 | n => n, fun | 23 => 29 | 25 => 3 | 3 => 3 | 32 => 81 | 22 => 29 | 0 => 0 | 44 => 92 | 46 => 23 | 4 => 4 | 36 => 85 | 35 => 84 | 41 => 44 | 5 => 5 | 9 => 9 | 53 => 94 | 57 => 98 | 63 => 104 | 64 => 105 | n => n, fun | n => n⟩
theorem sortL : Go.Proofs.SlLaysM.n5 Try.prog sortL_ren where
  mixed := by kernel_rfl
  f5 := ⟨ "slices.Sort[[]int,int]", by decide, Try.func32.trans (congrArg some (by kernel_rfl))⟩
  f7 := ⟨ "slices.pdqsortOrdered[int]", by decide, Try.func42.trans (congrArg some (by kernel_rfl))⟩
  f8 := Try.func43.trans (congrArg some (by kernel_rfl))
  f10 := ⟨ "slices.insertionSortOrdered[int]", by decide, Try.func45.trans (congrArg some (by kernel_rfl))⟩
  f11 := ⟨ "slices.heapSortOrdered[int]", by decide, Try.func46.trans (congrArg some (by kernel_rfl))⟩
  f12 := ⟨ "slices.breakPatternsOrdered[int]", by decide, Try.func47.trans (congrArg some (by kernel_rfl))⟩
  f13 := ⟨ "slices.choosePivotOrdered[int]", by decide, Try.func48.trans (congrArg some (by kernel_rfl))⟩
  f14 := ⟨ "slices.reverseRangeOrdered[int]", by decide, Try.func49.trans (congrArg some (by kernel_rfl))⟩
  f15 := ⟨ "slices.partialInsertionSortOrdered[int]", by decide, Try.func50.trans (congrArg some (by kernel_rfl))⟩
  f16 := ⟨ "cmp.Less[int]", by decide, Try.func51.trans (congrArg some (by kernel_rfl))⟩
  f17 := ⟨ "slices.partitionEqualOrdered[int]", by decide, Try.func52.trans (congrArg some (by kernel_rfl))⟩
  f18 := ⟨ "slices.partitionOrdered[int]", by decide, Try.func53.trans (congrArg some (by kernel_rfl))⟩
  f19 := Try.func54.trans (congrArg some (by kernel_rfl))
  f20 := Try.func55.trans (congrArg some (by kernel_rfl))
  f30 := ⟨ "slices.siftDownOrdered[int]", by decide, Try.func57.trans (congrArg some (by kernel_rfl))⟩
  f31 := Try.func58.trans (congrArg some (by kernel_rfl))
  f32 := Try.func59.trans (congrArg some (by kernel_rfl))
  f33 := ⟨ "slices.medianAdjacentOrdered[int]", by decide, Try.func60.trans (congrArg some (by kernel_rfl))⟩
  f34 := ⟨ "slices.medianOrdered[int]", by decide, Try.func61.trans (congrArg some (by kernel_rfl))⟩
  f35 := ⟨ "cmp.isNaN[int]", by decide, Try.func62.trans (congrArg some (by kernel_rfl))⟩
  f40 := ⟨ "slices.order2Ordered[int]", by decide, Try.func65.trans (congrArg some (by kernel_rfl))⟩
  t0 := Try.underlying0
  a0 := Try.isAgg0
  z0 := Try.sizeOf0
  v0 := Try.zeroValue0
  t3 := Try.underlying3
  a3 := Try.isAgg3
  z3 := Try.sizeOf3
  v3 := Try.zeroValue3
  t4 := Try.underlying4
  a4 := Try.isAgg4
  z4 := Try.sizeOf4
  v4 := Try.zeroValue4
  t5 := Try.underlying5
  a5 := Try.isAgg5
  z5 := Try.sizeOf5
  v5 := Try.zeroValue5
  t9 := Try.underlying9
  a9 := Try.isAgg9
  z9 := Try.sizeOf9
  v9 := Try.zeroValue9
  t22 := Try.underlying29
  a22 := Try.isAgg29
  z22 := Try.sizeOf29
  v22 := Try.zeroValue29
  t23 := Try.underlying29
  a23 := Try.isAgg29
  z23 := Try.sizeOf29
  v23 := Try.zeroValue29
  t25 := Try.underlying3
  a25 := Try.isAgg3
  z25 := Try.sizeOf3
  v25 := Try.zeroValue3
  t32 := Try.underlying81
  a32 := Try.isAgg81
  z32 := Try.sizeOf81
  v32 := Try.zeroValue81
  t35 := Try.underlying84
  a35 := Try.isAgg84
  z35 := Try.sizeOf84
  v35 := Try.zeroValue84
  t36 := Try.underlying85
  a36 := Try.isAgg85
  z36 := Try.sizeOf85
  v36 := Try.zeroValue85
  t41 := Try.underlying44
  a41 := Try.isAgg44
  z41 := Try.sizeOf44
  v41 := Try.zeroValue44
  t44 := Try.underlying92
  a44 := Try.isAgg92
  z44 := Try.sizeOf92
  v44 := Try.zeroValue92
  t46 := Try.underlying23
  a46 := Try.isAgg23
  z46 := Try.sizeOf23
  v46 := Try.zeroValue23
  t53 := Try.underlying94
  a53 := Try.isAgg94
  z53 := Try.sizeOf94
  v53 := Try.zeroValue94
  t57 := Try.underlying98
  a57 := Try.isAgg98
  z57 := Try.sizeOf98
  v57 := Try.zeroValue98
  t63 := Try.underlying104
  a63 := Try.isAgg104
  z63 := Try.sizeOf104
  v63 := Try.zeroValue104
  t64 := Try.underlying105
  a64 := Try.isAgg105
  z64 := Try.sizeOf105
  v64 := Try.zeroValue105
theorem sortsL (m : Nat) : AnyZI.SortsIn Try.prog sortedL_ren Fence.wide m :=
  ⟨fun blk off cap ss W hH hblk hsz => callsIn_wide.2 (AnyM.slices_Sort_int sortL blk off cap ss W hH hblk hsz),
   fun p cap W => callsIn_wide.2 (AnyM.slices_Sort_int_none sortL p cap W)⟩
end
section
open Go.RowKit Go.Maps Go.Sort Go.Shelf
set_option maxHeartbeats 1000000 in
theorem all_run {H : Type} (b bm nn : Nat) (D0 : DataW H) (R : Value → Option (DataW H × List MemPlace)) (w : World) (hown : w.ownsMap Try.prog 3 R bm nn D0) (hmax : Maps.size D0 ≤ maxLen) (hbytes : Maps.size D0 * 8 ≤ 140737488355328) (hc : w.cell? ⟨b, 0, none⟩ = some (.map (some bm))) :
    Calls Try.prog 12 #[.pointer (some ⟨b, 0, none⟩)] w fun e w' => ∃ (v : Value) (ss : List Int), e = .returned v ∧ ss.Perm (intKeys D0) ∧
      w'.ownsRow w.heap.size 3 1 v ss.length ((ss.mergeSort (fun x y => decide (x ≤ y))).map encZ) ∧ (v = .slice none 0 0 ↔ ss = []) ∧ Below w.heap.size w w' := by
  refine (callsIn_wide (n := 6)).1 ?_
  have hbl := hown.lt
  have hseq : SeqGives Fence.wide 2 Try.prog 33 #[.pointer (some ⟨w.heap.size, 0, none⟩)] encZ (fun ss => ss.Perm (intKeys D0)) (Maps.size D0) (w.alloc (.cells #[.map (some bm)] 51)) :=
    AnyZI.keys_gives (ρ := keysL_ren) { keysL with } Fence.wide _ trivial rfl (by omega) w.heap.size bm nn D0 _ (by simp) (by simp) (by
      obtain ⟨es, clock, hb, Ft, hs, hD⟩ := hown
      exact ⟨es, clock, (Below.heap_alloc _ _ bm hbl).trans hb, Ft, hs, hD⟩)
  have cK : ∀ mb W, CallsIn Fence.wide 5 Try.prog 20 #[.map mb] W fun e w' => e = .returned (.func (.func 33) #[] #[.pointer (some ⟨W.heap.size, 0, none⟩)]) ∧ w' = W.alloc (.cells #[.map mb] 51) := fun mb W => AnyZI.keys_in keysL Fence.wide 5 trivial rfl mb W
  have cS := AnyZI.sorted_in sortedL Fence.wide 5 trivial trivial trivial trivial rfl (by omega) (sortsL _) (enters_of Try.func32 (by kernel_rfl) rfl) 33 #[.pointer (some ⟨w.heap.size, 0, none⟩)] trivial (enters_of Try.func33 (by kernel_rfl) rfl) _ _ hmax hbytes _ hseq
  change CallsIn _ _ Try.prog 19 _ _ _ at cS
  have hfK : Fence.wide.fn 20 := trivial
  have hfS : Fence.wide.fn 19 := trivial
  refine callsIn_of_wp Try.func12 rfl trivial ?_ rfl
  simp only [Try.ntmps12, List.size_toArray, List.length_cons, List.length_nil, Nat.reduceAdd, Nat.reduceSub, Array.replicate_succ, Array.replicate_zero, List.push_toArray, List.append_toArray, List.nil_append, List.cons_append]
  gi_wp2_with (first
    | (gi_at_call 20; refine (cK _ _).mono ?_; rintro e w' ⟨rfl, rfl⟩)
    | (gi_at_call 19; refine cS.mono ?_; rintro e w' ⟨v, ss, rfl, hS, hrow, hnil, hb⟩))
  go_ret
  exact ⟨v, ss, rfl, hS, ownsRow_base_a hrow (by simp), hnil, ((Below.refl _ w).alloc (Nat.le_refl _) _).trans (hb.mono (by simp))⟩
end
def sortK (l : List Int) : List Int := l.mergeSort fun x y => decide (x ≤ y)
theorem sortK_perm {l l' : List Int} (h : l.Perm l') : sortK l = sortK l' := by
  have tr : ∀ a b c : Int, decide (a ≤ b) = true → decide (b ≤ c) = true → decide (a ≤ c) = true := fun a b c h1 h2 => by
    rw [decide_eq_true_eq] at *; omega
  have to : ∀ a b : Int, (decide (a ≤ b) || decide (b ≤ a)) = true := fun a b => by
    rw [Bool.or_eq_true, decide_eq_true_eq, decide_eq_true_eq]; omega
  unfold sortK
  refine List.Perm.eq_of_pairwise (le := fun a b => decide (a ≤ b) = true) (fun a b _ _ h1 h2 => ?_) (List.pairwise_mergeSort tr to l) (List.pairwise_mergeSort tr to l') (((List.mergeSort_perm l _).trans h).trans (List.mergeSort_perm l' _).symm)
  rw [decide_eq_true_eq] at h1 h2
  omega
def keysOk {V : Type} (m : List (Int × V)) : Bool := decide (m.length * 8 ≤ 140737488355328) && (m.all fun p => decide (-9223372036854775808 ≤ p.1) && decide (p.1 ≤ 9223372036854775807)) && decide (m.map (·.1)).Nodup
section
open Go.RowKit Go.Maps Go.Sort Go.Shelf
theorem mrel_keys {S : Sizes} {C : Ctx} {V : Type} {ev_ : V → AV} : ∀ {m : List (Int × V)} {es : List MapEntry}, MRel S C (intA .i64) ev_ m es → es.map (·.key) = m.map fun p => Value.int .i64 p.1
  | [], [], _ => rfl
  | [], e :: es, h => h.elim
  | p :: m, [], h => h.elim
  | p :: m, e :: es, h => by
    have h1 := (kl_int (P := Try.prog) (S := S) (k := .i64) (kt := 3) (by kernel_rfl)).det h.1
    rw [List.map_cons, List.map_cons, mrel_keys h.2.2, h1]
def anyR : Value → Option (DataW Unit × List MemPlace) := fun _ => some (.nil, [])
theorem fit_of {es : Array MapEntry} {clock : Nat} {S : Sizes} {C : Ctx} {V : Type} {ev_ : V → AV} {m : List (Int × V)} (h : MRel S C (intA .i64) ev_ m es.toList) (hk : keysOk m = true) (h1 : ∀ e ∈ es.toList, e.born < clock) (h2 : (es.toList.map (·.born)).Nodup) :
    Go.WideElems.Fit Try.prog 3 anyR es clock ∧ ∀ e ∈ es.toList, ∃ n : Int, e.key = .int .i64 n ∧ Go.WideElems.rg Try.prog 3 anyR e = (.int .i64 n, .nil) := by
  unfold keysOk at hk
  rw [Bool.and_eq_true, Bool.and_eq_true, decide_eq_true_eq, decide_eq_true_eq] at hk
  obtain ⟨⟨k1, k2⟩, k3⟩ := hk
  have hkeys := mrel_keys h
  have hlen := h.len
  rw [Array.length_toList] at hlen
  have rd1 : ∀ e ∈ es.toList, ∃ n : Int, e.key = .int .i64 n ∧ Go.WideElems.rd Try.prog 3 anyR e = some (.int .i64 n, .nil) := by
    intro e he
    have : e.key ∈ es.toList.map (·.key) := List.mem_map_of_mem he
    rw [hkeys] at this
    obtain ⟨p, hp, hpe⟩ := List.mem_map.1 this
    have hb := List.all_eq_true.1 k2 p hp
    rw [Bool.and_eq_true, decide_eq_true_eq, decide_eq_true_eq] at hb
    refine ⟨p.1, hpe.symm, ?_⟩
    have hkey : keyOf Try.prog 3 (Value.int .i64 p.1) = some (.int .i64 p.1) := by
      have hu : Try.prog.underlying 3 = some (.int .i64) := by kernel_rfl
      have hw : (Lit.int .i64 p.1).wf = true := by
        show (decide (IntKind.i64.min ≤ p.1) && decide (p.1 ≤ IntKind.i64.max)) = true
        rw [decide_eq_true (show IntKind.i64.min ≤ p.1 from hb.1), decide_eq_true (show p.1 ≤ IntKind.i64.max from hb.2)]
        rfl
      simp [keyOf, hu, mapKey, hw]
    unfold Go.WideElems.rd
    rw [← hpe, hkey]
    rfl
  refine ⟨⟨?_, ⟨h1, h2, ?_⟩, fun x hx => ?_⟩, fun e he => ?_⟩
  · unfold maxLen
    omega
  · rw [hkeys, show (m.map fun p => Value.int .i64 p.1) = (m.map (·.1)).map (Value.int .i64) by rw [List.map_map]; rfl]
    refine List.Pairwise.map _ (fun a b hab e => hab ?_) k3
    injection e
  · obtain ⟨n, _, hn⟩ := rd1 x hx
    exact ⟨_, hn⟩
  · obtain ⟨n, hn, hr⟩ := rd1 e he
    refine ⟨n, hn, ?_⟩
    unfold Go.WideElems.rg
    rw [hr]
    rfl
theorem int_box {C : Ctx} {b : Nat} {K : Nat → Value} {o : Nat} {e : TypeId} {h : List AO} (H : HRel tab.S C h) (ho : h[0]? = some (.box e [.ref K o])) (hb : C.m[0]? = some (.blk b)) : ∃ bm, C.m[o]? = some (.blk bm) ∧ C.w.cell? ⟨b, 0, none⟩ = some (K bm) := by
  obtain ⟨cs, h1, h2⟩ := H.rel 0 _ _ ho hb
  obtain ⟨c1, c2, h3, ⟨bm, h4, h5, _⟩, h6⟩ := h2
  refine ⟨bm, h4, ?_⟩
  have h6 : c2 = [] := h6
  rw [h5, h6, List.append_nil] at h3
  unfold World.cell?
  rw [h1]
  show cs[0]? = some (K bm)
  rw [← Array.getElem?_toList, h3]
  rfl
def z12_raw (l : Locks) : Option (List Int × Locks) := bif keysOk l.held then some (sortK (l.held.map (·.1)), l) else none
theorem z12_walk (l : Locks) (r : List Int × Locks) (H : z12_raw l = some r) : ACalls Try.prog tab.S 12 [.ptr 0 0 none] [.box 53 [.ref mapK 1], .vals .map (mapAV (intA .i64) (slA 42 Region.av) l.held)] (.sl 3 (List.map (intA .i64) r.1) false) [.box 53 [.ref mapK 1], .vals .map (mapAV (intA .i64) (slA 42 Region.av) r.2.held)] := by
  unfold z12_raw at H
  cases hk : keysOk l.held with
  | false => rw [hk] at H; cases H
  | true =>
    rw [hk] at H
    injection H with H
    subst H
    refine ⟨ent_of Try.func12 (by kernel_rfl) (by kernel_rfl), fun C vals Hh V => ?_⟩
    obtain ⟨v, hvals, ⟨b, hb, _, hv⟩⟩ : ∃ v, vals = #[v] ∧ RelV tab.S C (.ptr 0 0 none) [v] := by
      generalize hvl : vals.toList = vl at V
      cases V with
      | cons h1 h2 =>
        cases h2
        exact ⟨_, by rw [← Array.toArray_toList (xs := vals), hvl], h1⟩
    injection hv with hv
    subst hvals
    subst hv
    obtain ⟨bm, hbm, hc⟩ := int_box Hh rfl hb
    obtain ⟨ob, vs, g1, g2, es, clock, rfl, rfl, g3, g4⟩ := Hh.rel 1 _ _ rfl hbm
    have hM := mrel_of g2
    obtain ⟨hF, hrg⟩ := fit_of hM hk g3 g4
    have hlen := hM.len
    have hkl : l.held.length * 8 ≤ 140737488355328 := by
      unfold keysOk at hk
      rw [Bool.and_eq_true, Bool.and_eq_true, decide_eq_true_eq] at hk
      exact hk.1.1
    have hsz : ∀ L : List (Lit × DataW Unit), Maps.size (DataW.map L) = L.length := fun L => rfl
    have hperm := Go.WideShapes.sorted_perm (H := Unit) (es.toList.map (Go.WideElems.rg Try.prog 3 anyR))
    have hsize : Maps.size (DataW.map ((es.toList.map (Go.WideElems.rg Try.prog 3 anyR)).foldr DataW.insert [])) = l.held.length := by
      rw [hsz, hperm.length_eq, List.length_map, hlen]
    have hkeys : (intKeys (DataW.map ((es.toList.map (Go.WideElems.rg Try.prog 3 anyR)).foldr DataW.insert []))).Perm (l.held.map (·.1)) := by
      show (((es.toList.map (Go.WideElems.rg Try.prog 3 anyR)).foldr DataW.insert []).map fun p => Go.intOf p.1).Perm _
      refine (hperm.map _).trans ?_
      have hmk := mrel_keys hM
      have : (es.toList.map (Go.WideElems.rg Try.prog 3 anyR)).map (fun p => Go.intOf p.1) = l.held.map (·.1) := by
        have e1 : (es.toList.map (Go.WideElems.rg Try.prog 3 anyR)).map (fun p => Go.intOf p.1) = (es.toList.map (·.key)).map (fun v => match v with | .int _ n => n | _ => 0) := by
          rw [List.map_map, List.map_map]
          refine List.map_congr_left fun e he => ?_
          obtain ⟨n, h1, h2⟩ := hrg e he
          show Go.intOf (Go.WideElems.rg Try.prog 3 anyR e).1 = (match e.key with | .int _ n => n | _ => 0)
          rw [h2, h1]
          rfl
        rw [e1, hmk, List.map_map]
        rfl
      rw [this]
    have run := all_run b bm es.size _ anyR C.w ⟨es, clock, g1, hF, Nat.le_refl _, rfl⟩ (by rw [hsize]; unfold maxLen; omega) (by rw [hsize]; exact hkl) hc
    refine run.mono fun e w' ⟨v, ss, he, hs, hrow, hnil, hbel⟩ => ?_
    have K : Kept C ⟨w', C.m, C.X⟩ := ⟨hbel.os, hbel.tape, hbel.output, hbel.size, hbel.block, rfl, rfl⟩
    refine ⟨v, ⟨w', C.m, C.X⟩, he, rfl, K.toStep.w, Hh.kept K, ?_⟩
    have hsk : ss.mergeSort (fun x y => decide (x ≤ y)) = sortK (l.held.map (·.1)) := sortK_perm (hs.trans hkeys)
    have hl2 : (sortK (l.held.map (·.1))).length = ss.length := by
      rw [← hsk]
      exact List.length_mergeSort ss
    show RelV tab.S ⟨w', C.m, C.X⟩ (.sl 3 (List.map (intA .i64) (sortK (l.held.map (·.1)))) false) [v]
    have hS : tab.S 3 = (1, 8) := by kernel_rfl
    have hrl : (List.map (intA .i64) (sortK (l.held.map (·.1)))).length = ss.length := by rw [List.length_map, hl2]
    rw [hsk] at hrow
    refine ownsG_settled (C := ⟨w', C.m, C.X⟩) (cells := (sortK (l.held.map (·.1))).map encZ) rfl ⟨Nat.le_refl _, fun _ _ _ => rfl, fun _ _ h => h, fun o s hs => by simp [Ctx.flat] at hs⟩ (by rw [hS]; decide) ?_ ?_ ?_ ?_
    · rw [hS, hrl]
      exact ownsG_of hrow
    · rw [hS]
      generalize sortK (l.held.map (·.1)) = L
      induction L with
      | nil => rfl
      | cons x r ih => exact ⟨[encZ x], _, rfl, ⟨rfl, rfl⟩, rfl, ih⟩
    · rw [hS, hrl, ← hl2]
      have : (sortK (l.held.map (·.1))).length = l.held.length := by
        unfold sortK
        rw [List.length_mergeSort, List.length_map]
      rw [this]
      show l.held.length * 8 ≤ reach
      exact hkl
    · intro g hg
      rcases hrow.2 with ⟨rfl, _⟩ | ⟨g', cap, cur, rfl, hge, _⟩
      · cases hg
      · have hg : g' = g := by injection hg
        subst hg
        exact ⟨fun hx => by have := Hh.Xlt g' hx; omega, fun s hsm hsb => by
          obtain ⟨o, ho⟩ := List.mem_iff_getElem?.1 hsm
          have hlt : o < 2 := by
            have h1 : o < C.m.length := (List.getElem?_eq_some_iff.1 ho).1
            have h2 := Hh.len
            simp only [List.length_cons, List.length_nil] at h2
            omega
          have h3 : ∃ ao, ([AO.box 53 [AV.ref mapK 1], AO.vals VK.map (mapAV (intA .i64) (slA 42 Region.av) l.held)] : List AO)[o]? = some ao := ⟨_, List.getElem?_eq_getElem hlt⟩
          obtain ⟨ao, hao⟩ := h3
          have := (Hh.rel o ao s hao ho).lt hsb
          omega⟩
end
end Go.Proofs.Ytamgbggpbehflaa
namespace Go.Proofs.Ytamgbggpbehflaa
open Go.Sh
noncomputable def z11_F : Go.Sh.Fn := ⟨11, bodyOf Try.f11, 42⟩
def z11 (l : Locks) (txn : Int) (rs : List Region) : Int × Locks :=
 bif hasM txn l.held then (5, l) else bif l.held.any (fun p => z17 rs p.2) then (9, l) else (0, { held := putM txn rs l.held })
theorem take_loop (l : Locks) (txn : Int) (rs : List Region) (f_r : Bool) (r : Int × Locks) (c1 : Ctx) (hc1 : c1.m.length = 2) (bm : Nat) (es : Array MapEntry) (clock : Nat) (M : MapAt tab.S c1 (intA .i64) (slA 42 Region.av) l.held 1 bm es clock)
  (H : (bif l.held.any (fun p => z17 rs p.2) then (9, l) else (0, { held := putM txn rs l.held })) = r) :
  ∀ (n : Nat) (seen : Array Nat), (leftOf es seen).size < n → (∀ (i : Nat) (e : MapEntry) (p : Int × List Region), es.toList[i]? = some e → l.held[i]? = some p → seen.contains e.born = true → z17 rs p.2 = false) →
   AX Try.prog tab z11_F c1 (Rp tab.S c1 (.sc (.int .i64 r.1)) [.box 53 [.ref mapK 1], .vals .map (mapAV (intA .i64) (slA 42 Region.av) r.2.held)]) (some ⟨[.code [1, 1, 1, 0, 1, 0, 0], .loop [1, 1, 1, 0, 1, 0], .blk 0, .code [1, 1, 1, 1]], [(0, .ptr 0 0 none), (1, .sc (.int .i64 txn)), (2, .sl 42 (List.map Region.av rs) f_r), (27, .ref iterK 2)], [.box 53 [.ref mapK 1], .any (mapFix bm es clock), .any (iterFix bm clock seen)]⟩) := by
 intro n
 induction n with
 | zero => intro seen hn; omega
 | succ n ih =>
  intro seen hn hseen
  refine .sg 1 [0,1,2,27] (.nx 1 (bm := bm) (seen := seen) M.old (fun hall => ?_) (fun e he hs => ?_))
  ·refine .sg 1 [0,1,2,29] (.dn ?_)
   refine .sg 3 [0,1,2] (.unfix (intA .i64) (slA 42 Region.av) l.held 1 M ?_)
   refine .sg 1 [0,1,2] ?_
   refine .rg (.sg 6 [38,39,40] (.cp [38,39,41] (z18_calls rs f_r) ?_))
   refine .mu [] (slA 42 Region.av) (kl_int (k := .i64) (kt := 3) (by kernel_rfl)) l.held txn rs ?_
   refine .dn ?_
   refine .sg 2 [6] ?_
   have hany : (l.held.any fun p => z17 rs p.2) = false := by
    rw [List.any_eq_false]
    intro p hp
    obtain ⟨i, hi⟩ := List.mem_iff_getElem?.1 hp
    have hlen := M.rel.len
    have hlt : i < es.toList.length := by rw [hlen]; exact (List.getElem?_eq_some_iff.1 hi).1
    rw [hseen i es.toList[i] p (List.getElem?_eq_getElem hlt) hi (hall _ (List.getElem_mem hlt))]
    decide
   rw [hany] at H
   subst H
   exact .ret Try.func11 hc1 [0,1]
  ·refine .sg 1 [0,1,2,27,29] (.dn ?_)
   refine .sg 5 [0,1,2,27] ?_
   refine .en (intA .i64) (slA 42 Region.av) l.held 1 (seen := seen) M he (fun k vs h => by cases h) (fun v vs h => by cases h) (fun p hp hi => ?_)
   refine .sg 2 [0,1,2,10,27] (.dn ?_)
   refine .sg 1 [0,1,2,10,27] ?_
   refine .rg (.sg 2 [0,1,2,27,32,33] (.cp [0,1,2,27,34] (z17_calls rs p.2 f_r false) (.dn ?_)))
   refine AX.cond (z17 rs p.2) (by kernel_rfl) (fun hb => ?_) (fun hb => ?_)
   ·have hany : (l.held.any fun p => z17 rs p.2) = true := List.any_eq_true.2 ⟨p, hp, hb⟩
    rw [hany, cond_true] at H
    subst H
    refine .sg 2 [6] (.unfix (intA .i64) (slA 42 Region.av) l.held 1 M ?_)
    exact .ret Try.func11 hc1 [0,1]
   ·refine .sg 2 [0,1,2,27] (.into (.to (ih (seen.push e.born) ?_ ?_)))
    ·have := left_shrinks es seen e (Array.mem_toList_iff.2 (Array.mem_filter.2 ⟨Array.mem_toList_iff.1 he, by rw [hs]; rfl⟩))
     omega
    ·intro j e' p' hj hp' hc
     rw [contains_push, Bool.or_eq_true] at hc
     rcases hc with hc | hc
     ·exact hseen j e' p' hj hp' hc
     ·obtain ⟨i, hi1, hi2⟩ := hi
      have hee : e' = e := born_inj M.nd (List.mem_iff_getElem?.2 ⟨j, hj⟩) he (by simpa using hc)
      subst hee
      have hij : i = j := by
       obtain ⟨a1, a2⟩ := List.getElem?_eq_some_iff.1 hi1
       obtain ⟨b1, b2⟩ := List.getElem?_eq_some_iff.1 hj
       have hb := M.nd
       have h1 : (es.toList.map (·.born))[i]'(by rw [List.length_map]; exact a1) = (es.toList.map (·.born))[j]'(by rw [List.length_map]; exact b1) := by rw [List.getElem_map, List.getElem_map, a2, b2]
       exact (List.getElem_inj hb).1 h1
      subst hij
      rw [hi2] at hp'
      injection hp' with hp'
      subst hp'
      exact hb
theorem z11_walk (l : Locks) (txn : Int) (rs : List Region) (f_r : Bool) (r : Int × Locks) (H : z11 l txn rs = r) : ACalls Try.prog tab.S 11 [.ptr 0 0 none, .sc (.int .i64 txn), .sl 42 (List.map Region.av rs) f_r] [.box 53 [.ref mapK 1], .vals .map (mapAV (intA .i64) (slA 42 Region.av) l.held)] (.sc (.int .i64 r.1)) [.box 53 [.ref mapK 1], .vals .map (mapAV (intA .i64) (slA 42 Region.av) r.2.held)] := by
 refine .of_AX z11_F Try.func11 fun c0 hc0 => ?_
 rw [z11] at H
 refine .sg 9 [0,1,2] (.rg (.sg 5 [0,1,2,17,18] (.ml [0,1,2,19] (ds := [(42, false)]) (slA 42 Region.av) (kl_int (k := .i64) (kt := 3) (by kernel_rfl)) (fun _ => rfl) l.held txn [] true (.sg 5 [0,1,2,8] (.dn (.sg 2 [0,1,2,22] (.cd (hasM txn l.held) H (fun hb H => ?_) (fun hb H => ?_))))))))
 ·refine .sg 2 [6] ?_
  subst H
  exact .ret Try.func11 hc0 [0,1]
 ·refine .fix (intA .i64) (slA 42 Region.av) l.held 1 2 hc0 fun c1 bm es clock hc1 M => ?_
  refine .sg 3 [0,1,2] (.rg (.sg 4 [0,1,2,26] (.rg [0,1,2,27] bm es clock (.dn (.sg 1 [0,1,2,27] (.into (.to (take_loop l txn rs f_r r c1 hc1 bm es clock M H ((leftOf es #[]).size + 1) #[] (Nat.lt_succ_self _) (fun i e p _ _ hc => ?_)))))))))
  simp at hc
end Go.Proofs.Ytamgbggpbehflaa
namespace Go.Proofs.Ytamgbggpbehflaa
open Go.Sh
noncomputable def z24_F : Go.Sh.Fn := ⟨24, bodyOf Try.f24, 15⟩
def z24 (r2 : Region) (c : Int) (c1 : List Int) : Bool :=
 ((r2.Unit == c) && (cube_Has r2.Cube c1))
theorem z24_calls (r2 : Region) (c : Int) (c1 : List Int) : ACalls Try.prog tab.S 24 [Region.av r2, .ep [.sc (.int .i64 c)] 0 none, .ep [.arr .u64 12 c1] 0 none] [] (.sc (.bool (z24 r2 c c1))) [] := by
 generalize H : z24 r2 c c1 = r
 refine .of_AX z24_F Try.func24 fun c0 hc0 => ?_
 rw [z24] at H
 refine .sg 3 [1,2,3] (.rg (.sg 5 [2,3,9] (.mm 9 (r2.Unit == c) 5 [.pure, .pure, .pure, .read, .pure] [14] 14 (fun z => .sc (.bool (z && (cube_Has r2.Cube c1)))) ?J1 (fun hb J => ?ht1) (fun hb J => ?hf1))))
 case ht1 =>
  exact .sg 3 [9,11,12] (.cp [9,13] (cube_Has_calls r2.Cube c1) (.sg 1 [14] (.cl J)))
 case hf1 =>
  exact .sg 5 [14] (.cl J)
 refine .sg 1 [4] (.dn ?_)
 subst H
 exact .ret Try.func24 hc0
noncomputable def z14_F : Go.Sh.Fn := ⟨14, bodyOf Try.f14, 29⟩
def z14_l0s (unit : Int) (h1 : List Int) (v : (List Int) × Locks) : List Int → Sum (Unit) (Int × Bool × Locks)
 | [] =>
  (.inl ())
 | x :: rest =>
  (bif (z26 (getM x [] v.2.held) (fun y0 => z24 y0 unit h1)) then
   (.inr (x, true, v.2))
  else
   z14_l0s unit h1 v rest )
theorem z14_l0_walk (l : Locks) (unit : Int) (h1 : List Int) (v : (List Int) × Locks) (r : Int × Bool × Locks) (c0 : Ctx) (hc0 : c0.m.length = 2) (res : Sum (Unit) (Int × Bool × Locks)) (J : ∀ w : Unit, res = .inl w → AX Try.prog tab z14_F c0 (Rp tab.S c0 (.tup [.sc (.int .i64 r.1), .sc (.bool r.2.1)]) [.box 53 [.ref mapK 1], .vals .map (mapAV (intA .i64) (slA 42 Region.av) r.2.2.held)]) (some ⟨[.code [1, 1]], [], [.box 53 [.ref mapK 1], .vals .map (mapAV (intA .i64) (slA 42 Region.av) v.2.held), .box 3 [.sc (.int .i64 unit)], .box 25 [.arr .u64 12 h1]]⟩)) (Jr : ∀ w, res = .inr w → w = r) :
  ∀ (rest : List Int) (t14 : Nat) (z : Int) (hI : z = ((t14 : Nat) : Int)) (hd : v.1.drop t14 = rest) (H : z14_l0s unit h1 v rest = res), AX Try.prog tab z14_F c0 (Rp tab.S c0 (.tup [.sc (.int .i64 r.1), .sc (.bool r.2.1)]) [.box 53 [.ref mapK 1], .vals .map (mapAV (intA .i64) (slA 42 Region.av) r.2.2.held)]) (some ⟨[.code [1, 0, 1, 0, 0], .loop [1, 0, 1, 0], .blk 0, .code [1, 1]], [(0, .ptr 0 0 none), (4, .ptr 2 0 none), (5, .ptr 3 0 none), (12, .sl 3 (List.map (intA .i64) v.1) false), (13, .sc (.int .i64 (((List.map (intA .i64) v.1).length : Nat) : Int))), (14, .sc (.int .i64 z))], [.box 53 [.ref mapK 1], .vals .map (mapAV (intA .i64) (slA 42 Region.av) v.2.held), .box 3 [.sc (.int .i64 unit)], .box 25 [.arr .u64 12 h1]]⟩) := by
 intro rest
 induction rest with
 | nil =>
  intro t14 z hI hd  H
  subst hI
  rw [z14_l0s] at H
  refine .facts 12 fun hf => ?_
  have hlen : v.1.length ≤ 9223372036854775807 := by have hq := len_ok hf.2.1; rw [List.length_map] at hq; exact hq
  have hge : v.1.length ≤ t14 := List.drop_eq_nil_iff.1 hd
  have hc : (decide (((t14 : Nat) : Int) < (((List.map (intA .i64) v.1).length : Nat) : Int))) = false := by rw [List.length_map]; exact decide_eq_false (by omega)
  exact .sg 3 [0,4,5,12,13,14,15] (.cdF hc (.sg 1 [] (.kp [] (.to (J () H.symm)))))
 | cons x rest ih =>
  intro t14 z hI hd  H
  subst hI
  rw [z14_l0s] at H
  refine .facts 12 fun hf => ?_
  have hlen : v.1.length ≤ 9223372036854775807 := by have hq := len_ok hf.2.1; rw [List.length_map] at hq; exact hq
  obtain ⟨hlt, hv_t14, hd2⟩ := drop_cons hd
  have hc : (decide (((t14 : Nat) : Int) < (((List.map (intA .i64) v.1).length : Nat) : Int))) = true := by rw [List.length_map]; exact decide_eq_true (by omega)
  have hw : IntKind.i64.wrap (((t14 : Nat) : Int) + 1) = ((t14 + 1 : Nat) : Int) := wrapI_succ (by omega)
  refine .sg 3 [0,4,5,12,13,14,15] (.cdT hc (.sg 4 [0,4,5,12,13,14] (.rg (.xi [0,4,5,12,13,14,16] (intA .i64) hv_t14 (.sg 2 [0,4,5,9,12,13,14] (.dn (.sg 3 [0,4,5,9,10,12,13,14] (.rg (.sg 5 [0,4,5,9,10,12,13,14,22,23] (.ml [0,4,5,9,10,12,13,14,24] (ds := [(42, false)]) (slA 42 Region.av) (kl_int (k := .i64) (kt := 3) (by kernel_rfl)) (fun _ => rfl) v.2.held x [] false (.sg 1 [0,4,5,9,12,13,14,24,25] (.cl_ [0,4,5,9,12,13,14,26] (caps := []) (z26_calls (getM x [] v.2.held) 24 [.ep [.sc (.int .i64 unit)] 0 none, .ep [.arr .u64 12 h1] 0 none] (fun y0 => z24 y0 unit h1) rfl rfl (fun y0 => z24_calls y0 unit h1) false) (.same rfl (.fn (caps := [.ptr 2 0 none, .ptr 3 0 none]) (by kernel_rfl) .nil)) (by kernel_rfl) rfl rfl (.dn (.cd (z26 (getM x [] v.2.held) (fun y0 => z24 y0 unit h1)) H (fun hb H => ?_) (fun hb H => ?_)))))))))))))))
  ·
   refine .sg 2 [6,7] ?_
   subst H
   obtain rfl := Jr _ rfl
   exact .ret Try.func14 hc0 [0,1]
  ·
   exact .sg 3 [0,4,5,12,13,14] (.kp [0,4,5,12,13,14] (.into (.cl (ih (t14 + 1) _ hw hd2 H))))
def z14_raw (l : Locks) (unit : Int) (h1 : List Int) : Option (Int × Bool × Locks) :=
 (z12_raw l).bind fun v =>
 sumG (fun q => some q) (z14_l0s unit h1 v v.1) fun v1 =>
 some (0, false, v.2)
theorem z14_walk (l : Locks) (unit : Int) (h1 : List Int) (r : Int × Bool × Locks) (H : z14_raw l unit h1 = some r) : ACalls Try.prog tab.S 14 [.ptr 0 0 none, .sc (.int .i64 unit), .arr .u64 12 h1] [.box 53 [.ref mapK 1], .vals .map (mapAV (intA .i64) (slA 42 Region.av) l.held)] (.tup [.sc (.int .i64 r.1), .sc (.bool r.2.1)]) [.box 53 [.ref mapK 1], .vals .map (mapAV (intA .i64) (slA 42 Region.av) r.2.2.held)] := by
 refine .of_AX z14_F Try.func14 fun c0 hc0 => ?_
 rw [z14_raw] at H
 refine .sg 4 [0,4,5] (.rg (.sg 1 [0,4,5,11] (bndO H fun v hv H => (.ch [0,4,5,12] [0,1] (z12_walk _ v hv) (.sg 2 [0,4,5,12,13,14] (.dn (.sg 1 [0,4,5,12,13,14] ?_)))))))
 rcases sumG_eq H with ⟨v1, hv, H⟩ | ⟨r1, hv, hr1⟩
 case inr =>
  refine .into ?_
  obtain rfl := Option.some.inj hr1
  exact .to (z14_l0_walk l unit h1 v _ c0 hc0 (.inr _) (fun _ e => by cases e) (fun _ e => (Sum.inr.inj e).symm) v.1 0 _ rfl rfl hv)
 refine .into (.to (z14_l0_walk l unit h1 v r c0 hc0 (.inl v1) (fun w e => ?_) (fun _ e => by cases e) v.1 0 _ rfl rfl hv))
 have e := Sum.inl.inj e
 subst e
 refine .sg 2 [6,7] ?_
 obtain rfl := Option.some.inj H
 exact .ret Try.func14 hc0 [0,1]
end Go.Proofs.Ytamgbggpbehflaa
namespace Go.Proofs.Ytamgbggpbehflaa
open Go.Sh
noncomputable def z7_F : Go.Sh.Fn := ⟨7, bodyOf Try.f7, 43⟩
def z7_raw : Option (Bool) :=
 letT (lock_New) fun v =>
 letT (z11 v 1 [({ Unit := 0, Cube := ({ Value := [0, 0, 0, 0, 0, 0, 0, 0, 0, 0, 0, 0], Care := [0, 0, 0, 0, 0, 0, 0, 0, 0, 0, 0, 0] } : Cube) } : Region)]) fun v1 =>
 letT (z11 v1.2 2 [({ Unit := 0, Cube := ({ Value := [0, 0, 0, 0, 0, 0, 0, 0, 0, 0, 0, 0], Care := [0, 0, 0, 0, 0, 0, 0, 0, 0, 0, 0, 0] } : Cube) } : Region)]) fun v2 =>
 (z14_raw v2.2 0 [0, 0, 0, 0, 0, 0, 0, 0, 0, 0, 0, 0]).bind fun v3 =>
 (bif ((((v1.1 == 0) && (v2.1 == 9)) && (v3.1 == 1)) && v3.2.1) then
  letT (z10 v3.2.2 1) fun v4 =>
  (bif v4.1 then
   letT (z10 v4.2 1) fun v5 =>
   some (!v5.1)
  else
   some false)
 else
  some false)
theorem z7_walk (r : Bool) (H : z7_raw = some r) : ACalls Try.prog tab.S 7 [] [] (.sc (.bool r)) [] := by
 refine .of_AX z7_F Try.func7 fun c0 hc0 => ?_
 rw [z7_raw] at H
 refine .sg 3 [] (.rg (letH H fun v hv H => (.ch [6] [] (lock_New_walk v hv) (.sg 1 [1] (.dn (.sg 1 [1] (.rg (.sg 3 [1,7,9] (letH H fun v1 hv H => (.ch [1,10] [0,1] (z11_walk _ _ _ true v1 hv) (.sg 1 [1,2] (.dn (.sg 1 [1,2] (.rg (.sg 3 [1,2,11,13] (letH H fun v2 hv H => (.ch [1,2,14] [0,1] (z11_walk _ _ _ true v2 hv) (.sg 1 [1,2,3] (.dn (.sg 1 [1,2,3] (.rg (.sg 2 [1,2,3,16,17] (bndO H fun v3 hv H => (.ch [1,2,3,18] [0,1] (z14_walk _ _ _ v3 hv) (.sg 5 [1,2,3,4,5] (.dn (.sg 1 [1,2,3,4,5] (.rg (.sg 3 [1,3,4,5,23] (.mx 0 [1,4,5,26] (.sg 1 [1,4,5,27] (.mx 0 [1,5,30] (.sg 1 [1,5,31] (.mx 0 [1,33] (.sg 1 [1,34] (.sp 34 ((((v1.1 == 0) && (v2.1 == 9)) && (v3.1 == 1)) && v3.2.1) H (fun hb H => ?_) (fun hb H => ?_)))))))))))))))))))))))))))))))))))))
 ·
  refine .sg 1 [1,34,35] (letH H fun v4 hv H => (.ch [1,34,36] [0,1] (z10_walk _ _ v4 hv) (.sg 2 [1,38] (.sp 38 v4.1 H (fun hb H => ?_) (fun hb H => ?_)))))
  ·
   refine .sg 1 [38,39] (letH H fun v5 hv H => (.ch [38,40] [0,1] (z10_walk _ _ v5 hv) (.sg 3 [0] (.dn ?_))))
   obtain rfl := Option.some.inj H
   exact .ret Try.func7 hc0
  ·
   refine .sg 5 [0] (.dn ?_)
   obtain rfl := Option.some.inj H
   exact .ret Try.func7 hc0
 ·
  refine .sg 9 [0] (.dn ?_)
  obtain rfl := Option.some.inj H
  exact .ret Try.func7 hc0
theorem z7_ok : ACalls Try.prog tab.S 7 [] [] (.sc (.bool true)) [] := z7_walk true (by kernel_rfl)
end Go.Proofs.Ytamgbggpbehflaa
namespace Go.Proofs.Ytamgbggpbehflaa
open Go.Sh
open Go.ChangeShapes Go.WideShapes Go.ChangeAt Go.RowKit
def Cube.wf (x : Cube) : Prop := arrW .u64 12 x.Value ∧ arrW .u64 12 x.Care
theorem Cube.shaped {gs : List AV} (h : Shaped tab 40 gs) : ∃ x : Cube, gs = [.arr .u64 12 x.Value, .arr .u64 12 x.Care] ∧ x.wf := by
 obtain ⟨gss, rfl, hl, hf⟩ := Shaped.struct_inv (fl := [(0, 25), (12, 25)]) (by kernel_rfl) h
 match gss, hl, hf with
 | [g0, g1], _, hf =>
  obtain ⟨x0, rfl, w0⟩ := Shaped.arr_inv (n := 12) (e := 23) (k := .u64) (by kernel_rfl) (by kernel_rfl) (hf 0 _ _ rfl rfl)
  obtain ⟨x1, rfl, w1⟩ := Shaped.arr_inv (n := 12) (e := 23) (k := .u64) (by kernel_rfl) (by kernel_rfl) (hf 1 _ _ rfl rfl)
  exact ⟨⟨x0, x1⟩, rfl, ⟨w0, w1⟩⟩
def Region.wf (x : Region) : Prop := intW .i64 x.Unit ∧ Cube.wf x.Cube
theorem Region.shaped {gs : List AV} (h : Shaped tab 42 gs) : ∃ x : Region, gs = [.sc (.int .i64 x.Unit), .arr .u64 12 x.Cube.Value, .arr .u64 12 x.Cube.Care] ∧ x.wf := by
 obtain ⟨gss, rfl, hl, hf⟩ := Shaped.struct_inv (fl := [(0, 3), (1, 40)]) (by kernel_rfl) h
 match gss, hl, hf with
 | [g0, g1], _, hf =>
  obtain ⟨x0, rfl, w0⟩ := Shaped.int_inv (k := .i64) (by kernel_rfl) (hf 0 _ _ rfl rfl)
  obtain ⟨x1, rfl, w1⟩ := Cube.shaped (hf 1 _ _ rfl rfl)
  exact ⟨⟨x0, x1⟩, rfl, ⟨w0, w1⟩⟩
end Go.Proofs.Ytamgbggpbehflaa
namespace Go.Proofs.Ytamgbggpbehflaa
open Go.Sh
noncomputable def z35_F : Go.Sh.Fn := ⟨35, bodyOf Try.f35, 13⟩
def z35_raw (field : Int) : Option (Int) :=
 (bif ((decide (field < 0)) || (decide (field > 11))) then
  some 0
 else
  (ixO [16, 48, 48, 16, 12, 4, 32, 32, 8, 8, 12, 12] field).bind fun x =>
  some x)
theorem z35_walk (field : Int) (r : Int) (H : z35_raw field = some r) : ACalls Try.prog tab.S 35 [.sc (.int .i64 field)] [] (.sc (.int .i64 r)) [] := by
 refine .of_AX z35_F Try.func35 fun c0 hc0 => ?_
 rw [z35_raw] at H
 refine .sg 4 [0] (.rg (.sg 3 [0,5] (.mx 1 [0,8] (.dn (.cd ((decide (field < 0)) || (decide (field > 11))) H (fun hb H => ?_) (fun hb H => ?_))))))
 ·
  refine .sg 2 [2] ?_
  obtain rfl := Option.some.inj H
  exact .ret Try.func35 hc0
 ·
  refine .sg 2 [0] (.rg (.sg 2 [9,10] (bndO H fun x hv H => (.xi [11] (intA .i64) hv (.sg 2 [2] (.dn ?_))))))
  obtain rfl := Option.some.inj H
  exact .ret Try.func35 hc0
theorem z35_ok (n : Int) : ACalls Try.prog tab.S 35 [.sc (.int .i64 n)] [] (.sc (.int .i64 (sizeT n))) [] := by
 refine z35_walk n (sizeT n) ?_
 rw [z35_raw]
 rcases sizeT_cases n with ⟨h, e⟩ | ⟨h1, h2, k, rfl, hk, e⟩
 ·rw [e]
  have : ((decide (n < 0)) || (decide (n > 11))) = true := by
   rw [Bool.or_eq_true, decide_eq_true_eq, decide_eq_true_eq]; omega
  rw [this]
  rfl
 ·rw [e, decide_eq_false (by omega), decide_eq_false (by omega)]
  match k, hk with
  | 0, _ | 1, _ | 2, _ | 3, _ | 4, _ | 5, _ | 6, _ | 7, _ | 8, _ | 9, _ | 10, _ | 11, _ => rfl
noncomputable def z36_F : Go.Sh.Fn := ⟨36, bodyOf Try.f36, 10⟩
def z36 (v : Int) (size : Int) : Bool :=
 (decide (v < (IntKind.u64.wrap (1 * 2 ^ (min ((IntKind.u64.wrap size) : Int).toNat (IntKind.u64).bits)))))
theorem z36_calls (v : Int) (size : Int) : ACalls Try.prog tab.S 36 [.sc (.int .u64 v), .sc (.int .i64 size)] [] (.sc (.bool (z36 v size))) [] := by
 generalize H : z36 v size = r
 refine .of_AX z36_F Try.func36 fun c0 hc0 => ?_
 rw [z36] at H
 refine .sg 3 [0,1] (.rg (.sg 3 [5,7] (.sl_ [5,8] (b := (IntKind.u64.wrap size)) (wrapU_nonneg _) (.sg 2 [4] (.dn ?_)))))
 subst H
 exact .ret Try.func36 hc0
theorem refFits_eq (n v : Int) : z36 v (sizeT n) = fitsT n v := by
 have hs := sizeT_in n
 unfold z36 fitsT
 have h1 : IntKind.u64.wrap (sizeT n) = sizeT n := wrapU_eq hs.1 (by omega)
 have hm : min (sizeT n).toNat (IntKind.u64).bits = (sizeT n).toNat := Nat.min_eq_left (by show _ ≤ 64; omega)
 have hp := pow_le48 (k := (sizeT n).toNat) (by omega)
 have hq := pow_pos2 (sizeT n).toNat
 rw [h1, hm, Int.one_mul, wrapU_eq (by omega) (by omega)]
noncomputable def z34_F : Go.Sh.Fn := ⟨34, bodyOf Try.f34, 23⟩
def z34_l0 (v : Int) : Nat → Int → List Bool → Option ((List Bool))
 | 0, _, _ => none
 | m + 1, k1, out =>
  (bif (decide (k1 ≥ 0)) then
  fitO (out.length + [((IntKind.u64.wrap ((BitVec.ofInt 64 (Int.fdiv v (2 ^ (min ((IntKind.u64.wrap k1) : Int).toNat (IntKind.u64).bits))) &&& BitVec.ofInt 64 1).toNat)) == 1)].length) 1 (
  z34_l0 v m (IntKind.i64.wrap (k1 - 1)) (out ++ [((IntKind.u64.wrap ((BitVec.ofInt 64 (Int.fdiv v (2 ^ (min ((IntKind.u64.wrap k1) : Int).toNat (IntKind.u64).bits))) &&& BitVec.ofInt 64 1).toNat)) == 1)]))
 else
  some out)
theorem z34_l0_walk (q0 : Nat) (v : Int) (size : Int)  (r : (List Bool)) (c0 : Ctx) (hc0 : c0.m.length = 0) (res : (List Bool)) (J : AX Try.prog tab z34_F c0 (Rp tab.S c0 (.sl 4 (List.map boolA r) false) []) (some ⟨[.code [1, 1, 1]], [(5, .own 0 1000000)], [.row 4 (List.map boolA res) 1000000 true]⟩)) :
  ∀ (m : Nat) (k1 : Int) (out : List Bool) (H : z34_l0 v m k1 out = some res), AX Try.prog tab z34_F c0 (Rp tab.S c0 (.sl 4 (List.map boolA r) false) []) (some ⟨[.code [1, 1, 0, 1, 0, 0], .loop [1, 1, 0, 1, 0], .blk 0, .code [1, 1, 1]], [(0, .sc (.int .u64 v)), (5, .own 0 1000000), (6, .sc (.int .i64 k1))], [.row 4 (List.map boolA out) 1000000 true]⟩) := by
 intro m
 induction m with
 | zero => intro k1 out H; cases H
 | succ m ih =>
  intro k1 out H
  rw [z34_l0] at H
  refine .sg 3 [0,5,6,10] (.cd (decide (k1 ≥ 0)) H (fun hb H => ?_) (fun hb H => ?_))
  ·
   exact .sg 3 [0,5,6] (.rg (.sg 4 [0,6,13,14,16] (.sr_ [0,6,13,17] (b := (IntKind.u64.wrap k1)) (wrapU_nonneg _) (.sg 3 [0,6,13,20] (fitH H fun hfit H => (.ap [0,6,21] boolA hfit (.sg 1 [0,5,6] (.dn (.sg 2 [0,5,6] (.tl hc0 [0] [0,5,6] (.into (.to (ih (IntKind.i64.wrap (k1 - 1)) (out ++ [((IntKind.u64.wrap ((BitVec.ofInt 64 (Int.fdiv v (2 ^ (min ((IntKind.u64.wrap k1) : Int).toNat (IntKind.u64).bits))) &&& BitVec.ofInt 64 1).toNat)) == 1)]) H)))))))))))))
  ·
   refine .sg 1 [5] (.kp [5] ?_)
   obtain rfl := Option.some.inj H
   exact .to J
def z34_raw (q0 : Nat) (v : Int) (size : Int) : Option ((List Bool)) :=
 (z34_l0 v q0 (IntKind.i64.wrap (size - 1)) ([] : List Bool)).bind fun v1 =>
 some v1
theorem z34_walk (q0 : Nat) (v : Int) (size : Int) (r : (List Bool)) (H : z34_raw q0 v size = some r) : ACalls Try.prog tab.S 34 [.sc (.int .u64 v), .sc (.int .i64 size)] [] (.sl 4 (List.map boolA r) false) [] := by
 refine .of_AX z34_F Try.func34 fun c0 hc0 => ?_
 rw [z34_raw] at H
 refine .sg 8 [0,5,6] (.ad 5 4 true (.kp [0,5,6] ?_))
 refine bndO H fun v1 hv H => (.into (.to (z34_l0_walk q0 v size r c0 hc0 v1 ?_ q0 (IntKind.i64.wrap (size - 1)) ([] : List Bool) hv)))
 refine .sg 2 [4] ?_
 obtain rfl := Option.some.inj H
 exact .ret Try.func34 hc0
def bitE (v k1 : Int) : Bool := ((IntKind.u64.wrap ((BitVec.ofInt 64 (Int.fdiv v (2 ^ (min ((IntKind.u64.wrap k1) : Int).toNat (IntKind.u64).bits))) &&& BitVec.ofInt 64 1).toNat)) == 1)
def bitsL (v : Int) : Nat → List Bool
 | 0 => []
 | n + 1 => bitE v (n : Int) :: bitsL v n
theorem bitsL_len (v : Int) : ∀ n, (bitsL v n).length = n
 | 0 => rfl
 | n + 1 => by rw [bitsL, List.length_cons, bitsL_len v n]
def bitsO (v size : Int) : Option (List Bool) := if 0 ≤ size ∧ size ≤ 64 then some (bitsL v size.toNat) else none
theorem refBits_l0_eq (v : Int) : ∀ (n m : Nat) (out : List Bool), n < m → n ≤ 64 → out.length + n ≤ 1000 → z34_l0 v m ((n : Int) - 1) out = some (out ++ bitsL v n)
 | 0, m + 1, out, _, _, _ => by
   rw [z34_l0, decide_eq_false (by omega), bitsL, List.append_nil]; rfl
 | n + 1, m + 1, out, h1, h2, h3 => by
   have e : (((n + 1 : Nat) : Int) - 1) = (n : Int) := by omega
   rw [z34_l0, e, decide_eq_true (show ((n : Int)) ≥ 0 by omega), cond_true, fitO_eq (by rw [List.length_cons, List.length_nil]; omega), wrap_eq (by omega) (by omega)]
   rw [refBits_l0_eq v n m _ (by omega) (by omega) (by rw [List.length_append, List.length_cons, List.length_nil]; omega), List.append_assoc]
   rfl
theorem z34_ok (v size : Int) (x : List Bool) (h : bitsO v size = some x) : ACalls Try.prog tab.S 34 [.sc (.int .u64 v), .sc (.int .i64 size)] [] (.sl 4 (List.map boolA x) false) [] := by
 unfold bitsO at h
 split at h
 ·rename_i hc
  injection h with h
  subst h
  refine z34_walk (size.toNat + 1) v size _ ?_
  rw [z34_raw, wrap_eq (by omega) (by omega)]
  have := refBits_l0_eq v size.toNat (size.toNat + 1) [] (by omega) (by omega) (by rw [List.length_nil]; omega)
  rw [show ((size.toNat : Nat) : Int) = size by omega] at this
  rw [this]
  rfl
 ·cases h
end Go.Proofs.Ytamgbggpbehflaa
namespace Go.Proofs.Ytamgbggpbehflaa
open Go.Sh
noncomputable def z23_F : Go.Sh.Fn := ⟨23, bodyOf Try.f23, 15⟩
def z23_l0s (h1 : List Int) : Nat → Nat → Sum (Unit) (Bool)
 | 0, i =>
  (.inl ())
 | rest + 1, i =>
  (bif (!(z36 (h1.getD (i) 0) (sizeT ((i : Nat) : Int)))) then
   (.inr false)
  else
   z23_l0s h1 rest (i + 1) )
theorem z23_l0_walk (h1 : List Int) (r : Bool) (c0 : Ctx) (hc0 : c0.m.length = 0) (res : Sum (Unit) (Bool)) (J : ∀ w : Unit, res = .inl w → AX Try.prog tab z23_F c0 (Rp tab.S c0 (.sc (.bool r)) []) (some ⟨[.code [1, 1]], [], [.box 25 [.arr .u64 12 h1]]⟩)) (Jr : ∀ w, res = .inr w → w = r) :
  ∀ (rest : Nat) (i : Nat) (z : Int) (hI : z = ((i : Nat) : Int)) (hd : i + rest = 12) (H : z23_l0s h1 rest i = res), AX Try.prog tab z23_F c0 (Rp tab.S c0 (.sc (.bool r)) []) (some ⟨[.code [1, 0, 1, 0, 0], .loop [1, 0, 1, 0], .blk 0, .code [1, 1]], [(1, .ptr 0 0 none), (3, .sc (.int .i64 z))], [.box 25 [.arr .u64 12 h1]]⟩) := by
 intro rest
 induction rest with
 | zero =>
  intro i z hI hd  H
  subst hI
  rw [z23_l0s] at H
  have hc : (decide (((i : Nat) : Int) < 12)) = false := decide_eq_false (by omega)
  exact .sg 3 [1,3,5] (.cdF hc (.sg 1 [] (.kp [] (.to (J () H.symm)))))
 | succ rest ih =>
  intro i z hI hd  H
  subst hI
  rw [z23_l0s] at H
  have hlt_i : i < 12 := by omega
  have hc : (decide (((i : Nat) : Int) < 12)) = true := decide_eq_true (by omega)
  have hw : IntKind.i64.wrap (((i : Nat) : Int) + 1) = ((i + 1 : Nat) : Int) := wrapI_succ (by omega)
  refine .sg 3 [1,3,5] (.cdT hc (.sg 4 [1,3] (.rg (.sg 1 [1,3,8] ?_))))
  have hreq := idx_in 12 hlt_i (by decide)
  refine .xa [1,3,9] hreq (.sg 2 [1,3,10,11] (.cp [1,3,10,12] (z35_ok ((i : Nat) : Int)) (.cp [1,3,13] (z36_calls (h1.getD (i) 0) (sizeT ((i : Nat) : Int))) (.sg 1 [1,3,14] (.dn (.cd (!(z36 (h1.getD (i) 0) (sizeT ((i : Nat) : Int)))) H (fun hb H => ?_) (fun hb H => ?_)))))))
  ·
   refine .sg 2 [2] ?_
   subst H
   obtain rfl := Jr _ rfl
   exact .ret Try.func23 hc0
  ·
   exact .sg 3 [1,3] (.kp [1,3] (.into (.cl (ih (i + 1) _ hw (by omega) H))))
def z23 (h1 : List Int) : Bool :=
 sumG (fun q => q) (z23_l0s h1 12 0) fun v =>
 true
theorem z23_calls (h1 : List Int) : ACalls Try.prog tab.S 23 [.arr .u64 12 h1] [] (.sc (.bool (z23 h1))) [] := by
 generalize H : z23 h1 = r
 refine .of_AX z23_F Try.func23 fun c0 hc0 => ?_
 rw [z23] at H
 refine .sg 6 [1,3] ?_
 rcases sumG_eq H with ⟨v, hv, H⟩ | ⟨r1, hv, hr1⟩
 case inr =>
  refine .into ?_
  replace hr1 : r1 = r := hr1
  subst hr1
  exact .to (z23_l0_walk h1 _ c0 hc0 (.inr _) (fun _ e => by cases e) (fun _ e => (Sum.inr.inj e).symm) 12 0 _ rfl rfl hv)
 refine .into (.to (z23_l0_walk h1 r c0 hc0 (.inl v) (fun w e => ?_) (fun _ e => by cases e) 12 0 _ rfl rfl hv))
 have e := Sum.inl.inj e
 subst e
 refine .sg 2 [2] ?_
 subst H
 exact .ret Try.func23 hc0
noncomputable def z21_F : Go.Sh.Fn := ⟨21, bodyOf Try.f21, 70⟩
def z21_l1s (x2 : (List Bool)) (ok1 : Bool) : List Bool → Nat → List Int → Option (Bool × (List Int))
 | [], k1, out1 =>
  some (ok1, out1)
 | x3 :: rest1, k1, out1 =>
  (ixO x2 ((k1 : Nat) : Int)).bind fun x4 =>
  (bif (!x4) then
   fitO (out1.length + ([120] : List Int).length) 1 (
   z21_l1s x2 ok1 rest1 (k1 + 1) (out1 ++ ([120] : List Int)))
  else
   (bif x3 then
    fitO (out1.length + ([49] : List Int).length) 1 (
    z21_l1s x2 ok1 rest1 (k1 + 1) (out1 ++ ([49] : List Int)))
   else
    fitO (out1.length + ([48] : List Int).length) 1 (
    z21_l1s x2 ok1 rest1 (k1 + 1) (out1 ++ ([48] : List Int)))))
theorem z21_l1_walk (c : Cube) (i : Nat) (ok : Bool) (out : List Int) (hlt_i : i < 12) (x1 : (List Bool)) (x2 : (List Bool)) (ok1 : Bool) (r : ByteArray × Bool) (c0 : Ctx) (hc0 : c0.m.length = 0) (res : Bool × (List Int)) (J : AX Try.prog tab z21_F c0 (Rp tab.S c0 (.tup [.sc (.string r.1), .sc (.bool r.2)]) []) (some ⟨[.blk 1, .code [1, 1, 1, 0, 1, 0, 0, 1, 1], .loop [1, 1, 1, 0, 1, 0], .blk 0, .code [1, 1, 1, 1]], [(1, .ptr 0 0 none), (4, .own 1 1000000), (5, .sc (.bool res.1)), (6, .sc (.int .i64 ((i : Nat) : Int)))], [.box 40 (Cube.ch c), .row 5 (List.map (intA .u8) res.2) 1000000 true]⟩)) :
  ∀ (rest1 : List Bool) (k1 : Nat) (z : Int) (hI : z = ((k1 : Nat) : Int)) (hd : x1.drop k1 = rest1) (out1 : List Int) (H : z21_l1s x2 ok1 rest1 k1 out1 = some res), AX Try.prog tab z21_F c0 (Rp tab.S c0 (.tup [.sc (.string r.1), .sc (.bool r.2)]) []) (some ⟨[.code [1, 1, 1, 0, 1, 0, 0, 1, 0, 0, 1, 1, 1, 0, 0], .loop [1, 1, 1, 0, 1, 0, 0, 1, 0, 0, 1, 1, 1, 0], .blk 2, .blk 1, .code [1, 1, 1, 0, 1, 0, 0, 1, 1], .loop [1, 1, 1, 0, 1, 0], .blk 0, .code [1, 1, 1, 1]], [(1, .ptr 0 0 none), (4, .own 1 1000000), (5, .sc (.bool ok1)), (6, .sc (.int .i64 ((i : Nat) : Int))), (7, .sl 4 (List.map boolA x1) false), (8, .sl 4 (List.map boolA x2) false), (9, .sc (.int .i64 z))], [.box 40 (Cube.ch c), .row 5 (List.map (intA .u8) out1) 1000000 true]⟩) := by
 intro rest1
 induction rest1 with
 | nil =>
  intro k1 z hI hd out1 H
  subst hI
  rw [z21_l1s] at H
  refine .facts 7 fun hf => ?_
  have hlen : x1.length ≤ 9223372036854775807 := by have hq := len_ok hf.2.1; rw [List.length_map] at hq; exact hq
  have hge : x1.length ≤ k1 := List.drop_eq_nil_iff.1 hd
  have hc : (decide (((k1 : Nat) : Int) < (((List.map boolA x1).length : Nat) : Int))) = false := by rw [List.length_map]; exact decide_eq_false (by omega)
  refine .sg 3 [1,4,5,6,7,8,9,44] (.cdF hc (.sg 1 [1,4,5,6] (.kp [1,4,5,6] ?_)))
  obtain rfl := Option.some.inj H
  exact .to J
 | cons x3 rest1 ih =>
  intro k1 z hI hd out1 H
  subst hI
  rw [z21_l1s] at H
  refine .facts 7 fun hf => ?_
  have hlen : x1.length ≤ 9223372036854775807 := by have hq := len_ok hf.2.1; rw [List.length_map] at hq; exact hq
  obtain ⟨hlt, hv_k1, hd2⟩ := drop_cons hd
  have hc : (decide (((k1 : Nat) : Int) < (((List.map boolA x1).length : Nat) : Int))) = true := by rw [List.length_map]; exact decide_eq_true (by omega)
  have hw : IntKind.i64.wrap (((k1 : Nat) : Int) + 1) = ((k1 + 1 : Nat) : Int) := wrapI_succ (by omega)
  refine .sg 3 [1,4,5,6,7,8,9,44] (.cdT hc (.sg 5 [1,4,5,6,7,8,9] (.rg (.sg 2 [1,4,5,6,7,8,9,51,52] (bndO H fun x4 hv H => (.xi [1,4,5,6,7,8,9,53] boolA hv (.sg 3 [1,4,5,6,7,8,9,50] (.dn (.cd (!x4) H (fun hb H => ?_) (fun hb H => ?_))))))))))
  ·
   exact .rg (.sg 2 [1,5,6,7,8,9,56,57] (fitH H fun hfit H => (.ap [1,5,6,7,8,9,58] (intA .u8) hfit (.sg 1 [1,4,5,6,7,8,9] (.dn (.sg 3 [1,4,5,6,7,8,9] (.tl hc0 [0,1] [1,4,5,6,7,8,9] (.into (.cl (ih (k1 + 1) _ hw hd2 (out1 ++ ([120] : List Int)) H))))))))))
  ·
   refine .sg 1 [1,4,5,6,7,8,9] (.rg (.sg 2 [1,4,5,6,7,8,9,60,61] (.xi [1,4,5,6,7,8,9,62] boolA hv_k1 (.sg 2 [1,4,5,6,7,8,9,59] (.dn (.cd x3 H (fun hb H => ?_) (fun hb H => ?_)))))))
   ·
    exact .rg (.sg 2 [1,5,6,7,8,9,64,65] (fitH H fun hfit H => (.ap [1,5,6,7,8,9,66] (intA .u8) hfit (.sg 1 [1,4,5,6,7,8,9] (.dn (.sg 3 [1,4,5,6,7,8,9] (.tl hc0 [0,1] [1,4,5,6,7,8,9] (.into (.cl (ih (k1 + 1) _ hw hd2 (out1 ++ ([49] : List Int)) H))))))))))
   ·
    exact .rg (.sg 2 [1,5,6,7,8,9,47,48] (fitH H fun hfit H => (.ap [1,5,6,7,8,9,49] (intA .u8) hfit (.sg 1 [1,4,5,6,7,8,9] (.dn (.sg 3 [1,4,5,6,7,8,9] (.tl hc0 [0,1] [1,4,5,6,7,8,9] (.into (.cl (ih (k1 + 1) _ hw hd2 (out1 ++ ([48] : List Int)) H))))))))))
def z21_l0s (c : Cube) : Nat → Nat → Bool → List Int → Option (Bool × (List Int))
 | 0, i, ok, out =>
  some (ok, out)
 | rest + 1, i, ok, out =>
  (bitsO (c.Value.getD (i) 0) (sizeT ((i : Nat) : Int))).bind fun x1 =>
  (bitsO (c.Care.getD (i) 0) (sizeT ((i : Nat) : Int))).bind fun x2 =>
  (z21_l1s x2 (bif ((IntKind.u64.wrap ((BitVec.ofInt 64 (c.Value.getD (i) 0) &&& ~~~ (BitVec.ofInt 64 (c.Care.getD (i) 0))).toNat)) != 0) then false else ok) x1 0 out).bind fun v =>
  z21_l0s c rest (i + 1) v.1 v.2
theorem z21_l0_walk (c : Cube) (r : ByteArray × Bool) (c0 : Ctx) (hc0 : c0.m.length = 0) (res : Bool × (List Int)) (J : AX Try.prog tab z21_F c0 (Rp tab.S c0 (.tup [.sc (.string r.1), .sc (.bool r.2)]) []) (some ⟨[.code [1, 1, 1, 1]], [(4, .own 1 1000000), (5, .sc (.bool res.1))], [.box 40 (Cube.ch c), .row 5 (List.map (intA .u8) res.2) 1000000 true]⟩)) :
  ∀ (rest : Nat) (i : Nat) (z : Int) (hI : z = ((i : Nat) : Int)) (hd : i + rest = 12) (ok : Bool) (out : List Int) (H : z21_l0s c rest i ok out = some res), AX Try.prog tab z21_F c0 (Rp tab.S c0 (.tup [.sc (.string r.1), .sc (.bool r.2)]) []) (some ⟨[.code [1, 1, 1, 0, 1, 0, 0], .loop [1, 1, 1, 0, 1, 0], .blk 0, .code [1, 1, 1, 1]], [(1, .ptr 0 0 none), (4, .own 1 1000000), (5, .sc (.bool ok)), (6, .sc (.int .i64 z))], [.box 40 (Cube.ch c), .row 5 (List.map (intA .u8) out) 1000000 true]⟩) := by
 intro rest
 induction rest with
 | zero =>
  intro i z hI hd ok out H
  subst hI
  rw [z21_l0s] at H
  have hc : (decide (((i : Nat) : Int) < 12)) = false := decide_eq_false (by omega)
  refine .sg 3 [1,4,5,6,14] (.cdF hc (.sg 1 [4,5] (.kp [4,5] ?_)))
  obtain rfl := Option.some.inj H
  exact .to J
 | succ rest ih =>
  intro i z hI hd ok out H
  subst hI
  rw [z21_l0s] at H
  have hlt_i : i < 12 := by omega
  have hc : (decide (((i : Nat) : Int) < 12)) = true := decide_eq_true (by omega)
  have hw : IntKind.i64.wrap (((i : Nat) : Int) + 1) = ((i + 1 : Nat) : Int) := wrapI_succ (by omega)
  refine .sg 3 [1,4,5,6,14] (.cdT hc (.sg 5 [1,4,5,6] (.rg (.sg 2 [1,4,5,6,17,18] ?_))))
  have hreq := idx_in 12 hlt_i (by decide)
  refine .xa [1,4,5,6,19] hreq (.sg 3 [1,4,5,6,20,21,22] ?_)
  have hreq := idx_in 12 hlt_i (by decide)
  refine .xa [1,4,5,6,20,23] hreq (.sg 3 [1,4,5,6,26] (.dn (.jn ((IntKind.u64.wrap ((BitVec.ofInt 64 (c.Value.getD (i) 0) &&& ~~~ (BitVec.ofInt 64 (c.Care.getD (i) 0))).toNat)) != 0) [1, 4, 5, 6] (fun z => [(5, .sc (.bool (bif z then false else ok)))]) ?J5 (fun hb J => ?ht5) (fun hb J => ?hf5))))
  case ht5 =>
   exact .sg 1 [1,4,5,6] (.cl J)
  case hf5 =>
   exact .sg 1 [1,4,5,6] (.cl J)
  refine .sg 1 [1,4,5,6] (.rg (.sg 2 [1,4,5,6,27,28] ?_))
  have hreq := idx_in 12 hlt_i (by decide)
  refine .xa [1,4,5,6,29] hreq (.sg 2 [1,4,5,6,30,31] (.cp [1,4,5,6,30,32] (z35_ok ((i : Nat) : Int)) (bndO H fun x1 hv H => (.cp [1,4,5,6,33] (z34_ok _ _ x1 hv) (.sg 2 [1,4,5,6,33,34,35] ?_)))))
  have hreq := idx_in 12 hlt_i (by decide)
  refine .xa [1,4,5,6,33,36] hreq (.sg 2 [1,4,5,6,33,37,38] (.cp [1,4,5,6,33,37,39] (z35_ok ((i : Nat) : Int)) (bndO H fun x2 hv H => (.cp [1,4,5,6,33,40] (z34_ok _ _ x2 hv) (.sg 2 [1,4,5,6,7,8] (.dn (.sg 3 [1,4,5,6,7,8,9] ?_)))))))
  refine bndO H fun v hv H => (.into (.to (z21_l1_walk c i ok out hlt_i x1 x2 (bif ((IntKind.u64.wrap ((BitVec.ofInt 64 (c.Value.getD (i) 0) &&& ~~~ (BitVec.ofInt 64 (c.Care.getD (i) 0))).toNat)) != 0) then false else ok) r c0 hc0 v ?_ x1 0 _ rfl rfl out hv)))
  exact .sg 2 [1,4,5,6] (.kp [1,4,5,6] (.into (.cl (ih (i + 1) _ hw (by omega) v.1 v.2 H))))
def z21_raw (c : Cube) : Option (ByteArray × Bool) :=
 (z21_l0s c 12 0 (z23 c.Care) ([] : List Int)).bind fun v =>
 some ((strOfNums v.2), v.1)
theorem z21_walk (c : Cube) (r : ByteArray × Bool) (H : z21_raw c = some r) : ACalls Try.prog tab.S 21 [Cube.av c] [] (.tup [.sc (.string r.1), .sc (.bool r.2)]) [] := by
 refine .of_AX z21_F Try.func21 fun c0 hc0 => ?_
 rw [z21_raw] at H
 refine .sg 5 [1,4] (.rg (.sg 2 [1,4,11] (.cp [1,4,12] (z23_calls c.Care) (.sg 1 [1,4,5] (.dn (.sg 4 [1,4,5,6] (.ad 4 5 true (.kp [1,4,5,6] ?_))))))))
 refine bndO H fun v hv H => (.into (.to (z21_l0_walk c r c0 hc0 v ?_ 12 0 _ rfl rfl (z23 c.Care) ([] : List Int) hv)))
 refine .sg 1 [4,5] (.rg (.sg 1 [5,67] (.by_ [5,68] v.2 (.sg 3 [2,3] (.dn ?_)))))
 obtain rfl := Option.some.inj H
 exact .ret Try.func21 hc0
def chrB (v c : Bool) : Int := if c then (if v then 49 else 48) else 120
theorem Text_l1s_eq (x2 : List Bool) (ok : Bool) : ∀ (vs : List Bool) (k : Nat) (out : List Int), k + vs.length = x2.length → out.length + vs.length ≤ 10000 → z21_l1s x2 ok vs k out = some (ok, out ++ List.zipWith chrB vs (x2.drop k))
 | [], k, out, _, _ => by rw [z21_l1s]; simp
 | x :: vs, k, out, h1, h2 => by
   rw [List.length_cons] at h1 h2
   have hk : k < x2.length := by omega
   have step : ∀ q : Int, z21_l1s x2 ok vs (k + 1) (out ++ [q]) = some (ok, out ++ q :: List.zipWith chrB vs (x2.drop (k + 1))) := fun q => by
    rw [Text_l1s_eq x2 ok vs (k + 1) (out ++ [q]) (by omega) (by rw [List.length_append, List.length_cons, List.length_nil]; omega), List.append_assoc]; rfl
   rw [z21_l1s, ixO_lt hk, Option.bind_some, List.drop_eq_getElem_cons hk, List.zipWith_cons_cons, fitO_eq (by rw [List.length_cons, List.length_nil]; omega), fitO_eq (by rw [List.length_cons, List.length_nil]; omega), fitO_eq (by rw [List.length_cons, List.length_nil]; omega)]
   cases x2[k]
   ·exact step 120
   ·cases x
    ·exact step 48
    ·exact step 49
def badAt (c : Cube) (i : Nat) : Bool := ((IntKind.u64.wrap ((BitVec.ofInt 64 (c.Value.getD i 0) &&& ~~~ (BitVec.ofInt 64 (c.Care.getD i 0))).toNat)) != 0)
def textOk (c : Cube) : Nat → Nat → Bool → Bool
 | 0, _, ok => ok
 | r + 1, i, ok => textOk c r (i + 1) (bif badAt c i then false else ok)
def sizeN (i : Nat) : Nat := (sizeT ((i : Nat) : Int)).toNat
def textS (c : Cube) : Nat → Nat → List Int
 | 0, _ => []
 | r + 1, i => List.zipWith chrB (bitsL (c.Value.getD i 0) (sizeN i)) (bitsL (c.Care.getD i 0) (sizeN i)) ++ textS c r (i + 1)
theorem bitsO_size (v : Int) (i : Nat) : bitsO v (sizeT ((i : Nat) : Int)) = some (bitsL v (sizeN i)) := by
 have h := sizeT_in ((i : Nat) : Int)
 unfold bitsO sizeN
 rw [if_pos (by omega)]
theorem Text_l0s_eq (c : Cube) : ∀ (r i : Nat) (ok : Bool) (out : List Int), out.length + r * 64 ≤ 10000 → z21_l0s c r i ok out = some (textOk c r i ok, out ++ textS c r i)
 | 0, i, ok, out, _ => by rw [z21_l0s, textOk, textS, List.append_nil]
 | r + 1, i, ok, out, h => by
   have hs := sizeT_in ((i : Nat) : Int)
   have hn : sizeN i ≤ 64 := by unfold sizeN; omega
   rw [z21_l0s, bitsO_size, bitsO_size, Option.bind_some, Option.bind_some, Text_l1s_eq _ _ _ 0 out (by rw [bitsL_len, bitsL_len, Nat.zero_add]) (by rw [bitsL_len]; omega), Option.bind_some, List.drop_zero]
   show z21_l0s c r (i + 1) _ (out ++ _) = _
   rw [Text_l0s_eq c r (i + 1) _ _ (by rw [List.length_append, List.length_zipWith, bitsL_len, bitsL_len]; omega), textOk, textS, List.append_assoc]
   rfl
def textT (c : Cube) : ByteArray × Bool := (strOfNums (textS c 12 0), textOk c 12 0 (z23 c.Care))
theorem z21_ok (c : Cube) : ACalls Try.prog tab.S 21 [Cube.av c] [] (.tup [.sc (.string (textT c).1), .sc (.bool (textT c).2)]) [] := by
 refine z21_walk c _ ?_
 rw [z21_raw, Text_l0s_eq c 12 0 _ [] (by decide)]
 rfl
end Go.Proofs.Ytamgbggpbehflaa
namespace Go.Proofs.Ytamgbggpbehflaa
open Go.Sh
def podestaref01_Cube (c : Cube) : Bool := (textT c).2
theorem u64_nonneg {v : Int} (h : intW .u64 v) : 0 ≤ v := by
 unfold intW Go.Lit.wf at h
 rw [Bool.and_eq_true, decide_eq_true_eq, decide_eq_true_eq] at h
 exact h.1
theorem arr_nonneg {xs : List Int} {n : Nat} (h : arrW .u64 n xs) (i : Nat) : 0 ≤ xs.getD i 0 := by
 rw [List.getD_eq_getElem?_getD]
 by_cases hi : i < xs.length
 ·rw [List.getElem?_eq_getElem hi]
  exact u64_nonneg (h.2 _ (List.getElem_mem hi))
 ·rw [List.getElem?_eq_none (by omega)]; exact Int.le_refl 0
theorem z38_l0s_eq {h : List Int} (w : arrW .u64 12 h) : ∀ (n i : Nat), z38_l0s h n i = z23_l0s h n i
 | 0, i => rfl
 | n + 1, i => by
   rw [z38_l0s, z23_l0s, z38_l0s_eq w n (i + 1), refFits_eq]
   unfold fitsH
   rw [decide_eq_true (arr_nonneg w i), Bool.true_and]
theorem z38_eq {h : List Int} (w : arrW .u64 12 h) : z38 h = z23 h := by
 rw [z38, z23, z38_l0s_eq w]
theorem textOk_false (c : Cube) : ∀ (r i : Nat), textOk c r i false = false
 | 0, _ => rfl
 | r + 1, i => by
   rw [textOk]
   cases badAt c i <;> exact textOk_false c r (i + 1)
theorem z37_l0s_eq (c : Cube) : ∀ (r i : Nat), z37_l0s c r i = if textOk c r i true then .inl () else .inr false
 | 0, _ => rfl
 | r + 1, i => by
   rw [z37_l0s, z37_l0s_eq c r (i + 1), textOk]
   show (bif badAt c i then _ else _) = _
   cases badAt c i
   ·rfl
   ·rw [cond_true, cond_true, textOk_false]; rfl
theorem z37_eq {c : Cube} (w : Cube.wf c) : z37 c = podestaref01_Cube c := by
 rw [z37, podestaref01_Cube, z37_l0s_eq]
 unfold textT
 rw [z38_eq w.2]
 cases z23 c.Care
 ·rw [textOk_false]; rfl
 ·cases textOk c 12 0 true <;> rfl
end Go.Proofs.Ytamgbggpbehflaa
namespace Go.Proofs.Ytamgbggpbehflaa
open Go.Sh
noncomputable def z22_F : Go.Sh.Fn := ⟨22, bodyOf Try.f22, 35⟩
def z22_l1s : List Bool → List Int → Option ((List Int))
 | [], out1 =>
  some out1
 | x2 :: rest1, out1 =>
  (bif x2 then
   fitO (out1.length + ([49] : List Int).length) 1 (
   z22_l1s rest1 (out1 ++ ([49] : List Int)))
  else
   fitO (out1.length + ([48] : List Int).length) 1 (
   z22_l1s rest1 (out1 ++ ([48] : List Int))))
theorem z22_l1_walk (h1 : List Int) (i : Nat) (out : List Int) (hlt_i : i < 12) (x1 : (List Bool)) (r : ByteArray) (c0 : Ctx) (hc0 : c0.m.length = 0) (res : (List Int)) (J : AX Try.prog tab z22_F c0 (Rp tab.S c0 (.sc (.string r)) []) (some ⟨[.blk 1, .code [1, 1, 0, 1, 0, 0, 1, 1], .loop [1, 1, 0, 1, 0], .blk 0, .code [1, 1, 1]], [(1, .ptr 0 0 none), (3, .own 1 1000000), (4, .sc (.int .i64 ((i : Nat) : Int)))], [.box 25 [.arr .u64 12 h1], .row 5 (List.map (intA .u8) res) 1000000 true]⟩)) :
  ∀ (rest1 : List Bool) (k1 : Nat) (z : Int) (hI : z = ((k1 : Nat) : Int)) (hd : x1.drop k1 = rest1) (out1 : List Int) (H : z22_l1s rest1 out1 = some res), AX Try.prog tab z22_F c0 (Rp tab.S c0 (.sc (.string r)) []) (some ⟨[.code [1, 1, 0, 1, 0, 0, 1, 0, 0, 1, 1, 0, 0], .loop [1, 1, 0, 1, 0, 0, 1, 0, 0, 1, 1, 0], .blk 2, .blk 1, .code [1, 1, 0, 1, 0, 0, 1, 1], .loop [1, 1, 0, 1, 0], .blk 0, .code [1, 1, 1]], [(1, .ptr 0 0 none), (3, .own 1 1000000), (4, .sc (.int .i64 ((i : Nat) : Int))), (5, .sl 4 (List.map boolA x1) false), (6, .sc (.int .i64 z))], [.box 25 [.arr .u64 12 h1], .row 5 (List.map (intA .u8) out1) 1000000 true]⟩) := by
 intro rest1
 induction rest1 with
 | nil =>
  intro k1 z hI hd out1 H
  subst hI
  rw [z22_l1s] at H
  refine .facts 5 fun hf => ?_
  have hlen : x1.length ≤ 9223372036854775807 := by have hq := len_ok hf.2.1; rw [List.length_map] at hq; exact hq
  have hge : x1.length ≤ k1 := List.drop_eq_nil_iff.1 hd
  have hc : (decide (((k1 : Nat) : Int) < (((List.map boolA x1).length : Nat) : Int))) = false := by rw [List.length_map]; exact decide_eq_false (by omega)
  refine .sg 3 [1,3,4,5,6,20] (.cdF hc (.sg 1 [1,3,4] (.kp [1,3,4] ?_)))
  obtain rfl := Option.some.inj H
  exact .to J
 | cons x2 rest1 ih =>
  intro k1 z hI hd out1 H
  subst hI
  rw [z22_l1s] at H
  refine .facts 5 fun hf => ?_
  have hlen : x1.length ≤ 9223372036854775807 := by have hq := len_ok hf.2.1; rw [List.length_map] at hq; exact hq
  obtain ⟨hlt, hv_k1, hd2⟩ := drop_cons hd
  have hc : (decide (((k1 : Nat) : Int) < (((List.map boolA x1).length : Nat) : Int))) = true := by rw [List.length_map]; exact decide_eq_true (by omega)
  have hw : IntKind.i64.wrap (((k1 : Nat) : Int) + 1) = ((k1 + 1 : Nat) : Int) := wrapI_succ (by omega)
  refine .sg 3 [1,3,4,5,6,20] (.cdT hc (.sg 4 [1,3,4,5,6] (.rg (.sg 2 [1,3,4,5,6,23,24] (.xi [1,3,4,5,6,25] boolA hv_k1 (.sg 1 [1,3,4,5,6,26] (.dn (.cd x2 H (fun hb H => ?_) (fun hb H => ?_)))))))))
  ·
   exact .rg (.sg 2 [1,4,5,6,27,28] (fitH H fun hfit H => (.ap [1,4,5,6,29] (intA .u8) hfit (.sg 1 [1,3,4,5,6] (.dn (.sg 2 [1,3,4,5,6] (.tl hc0 [0,1] [1,3,4,5,6] (.into (.cl (ih (k1 + 1) _ hw hd2 (out1 ++ ([49] : List Int)) H))))))))))
  ·
   exact .rg (.sg 2 [1,4,5,6,30,31] (fitH H fun hfit H => (.ap [1,4,5,6,32] (intA .u8) hfit (.sg 1 [1,3,4,5,6] (.dn (.sg 2 [1,3,4,5,6] (.tl hc0 [0,1] [1,3,4,5,6] (.into (.cl (ih (k1 + 1) _ hw hd2 (out1 ++ ([48] : List Int)) H))))))))))
def z22_l0s (h1 : List Int) : Nat → Nat → List Int → Option ((List Int))
 | 0, i, out =>
  some out
 | rest + 1, i, out =>
  (bitsO (h1.getD (i) 0) (sizeT ((i : Nat) : Int))).bind fun x1 =>
  (z22_l1s x1 out).bind fun v =>
  z22_l0s h1 rest (i + 1) v
theorem z22_l0_walk (h1 : List Int) (r : ByteArray) (c0 : Ctx) (hc0 : c0.m.length = 0) (res : (List Int)) (J : AX Try.prog tab z22_F c0 (Rp tab.S c0 (.sc (.string r)) []) (some ⟨[.code [1, 1, 1]], [(3, .own 1 1000000)], [.box 25 [.arr .u64 12 h1], .row 5 (List.map (intA .u8) res) 1000000 true]⟩)) :
  ∀ (rest : Nat) (i : Nat) (z : Int) (hI : z = ((i : Nat) : Int)) (hd : i + rest = 12) (out : List Int) (H : z22_l0s h1 rest i out = some res), AX Try.prog tab z22_F c0 (Rp tab.S c0 (.sc (.string r)) []) (some ⟨[.code [1, 1, 0, 1, 0, 0], .loop [1, 1, 0, 1, 0], .blk 0, .code [1, 1, 1]], [(1, .ptr 0 0 none), (3, .own 1 1000000), (4, .sc (.int .i64 z))], [.box 25 [.arr .u64 12 h1], .row 5 (List.map (intA .u8) out) 1000000 true]⟩) := by
 intro rest
 induction rest with
 | zero =>
  intro i z hI hd out H
  subst hI
  rw [z22_l0s] at H
  have hc : (decide (((i : Nat) : Int) < 12)) = false := decide_eq_false (by omega)
  refine .sg 3 [1,3,4,8] (.cdF hc (.sg 1 [3] (.kp [3] ?_)))
  obtain rfl := Option.some.inj H
  exact .to J
 | succ rest ih =>
  intro i z hI hd out H
  subst hI
  rw [z22_l0s] at H
  have hlt_i : i < 12 := by omega
  have hc : (decide (((i : Nat) : Int) < 12)) = true := decide_eq_true (by omega)
  have hw : IntKind.i64.wrap (((i : Nat) : Int) + 1) = ((i + 1 : Nat) : Int) := wrapI_succ (by omega)
  refine .sg 3 [1,3,4,8] (.cdT hc (.sg 4 [1,3,4] (.rg (.sg 1 [1,3,4,11] ?_))))
  have hreq := idx_in 12 hlt_i (by decide)
  refine .xa [1,3,4,12] hreq (.sg 2 [1,3,4,13,14] (.cp [1,3,4,13,15] (z35_ok ((i : Nat) : Int)) (bndO H fun x1 hv H => (.cp [1,3,4,16] (z34_ok _ _ x1 hv) (.sg 1 [1,3,4,5] (.dn (.sg 3 [1,3,4,5,6] ?_)))))))
  refine bndO H fun v hv H => (.into (.to (z22_l1_walk h1 i out hlt_i x1 r c0 hc0 v ?_ x1 0 _ rfl rfl out hv)))
  exact .sg 2 [1,3,4] (.kp [1,3,4] (.into (.cl (ih (i + 1) _ hw (by omega) v H))))
def z22_raw (h1 : List Int) : Option (ByteArray) :=
 (z22_l0s h1 12 0 ([] : List Int)).bind fun v =>
 some (strOfNums v)
theorem z22_walk (h1 : List Int) (r : ByteArray) (H : z22_raw h1 = some r) : ACalls Try.prog tab.S 22 [.arr .u64 12 h1] [] (.sc (.string r)) [] := by
 refine .of_AX z22_F Try.func22 fun c0 hc0 => ?_
 rw [z22_raw] at H
 refine .sg 8 [1,3,4] (.ad 3 5 true (.kp [1,3,4] ?_))
 refine bndO H fun v hv H => (.into (.to (z22_l0_walk h1 r c0 hc0 v ?_ 12 0 _ rfl rfl ([] : List Int) hv)))
 refine .sg 1 [3] (.rg (.sg 1 [33] (.by_ [34] v (.sg 1 [2] (.dn ?_)))))
 obtain rfl := Option.some.inj H
 exact .ret Try.func22 hc0
def bit01 (b : Bool) : Int := if b then 49 else 48
theorem Whole_l1s_eq : ∀ (l : List Bool) (out : List Int), out.length + l.length ≤ 10000 → z22_l1s l out = some (out ++ l.map bit01)
 | [], out, _ => by rw [z22_l1s]; simp
 | x :: l, out, h => by
   rw [List.length_cons] at h
   have step : ∀ q : Int, z22_l1s l (out ++ [q]) = some (out ++ q :: l.map bit01) := fun q => by
    rw [Whole_l1s_eq l (out ++ [q]) (by rw [List.length_append, List.length_cons, List.length_nil]; omega), List.append_assoc]; rfl
   rw [z22_l1s, fitO_eq (by rw [List.length_cons, List.length_nil]; omega), fitO_eq (by rw [List.length_cons, List.length_nil]; omega)]
   cases x
   ·exact step 48
   ·exact step 49
def wholeS (h : List Int) : Nat → Nat → List Int
 | 0, _ => []
 | r + 1, i => (bitsL (h.getD i 0) (sizeN i)).map bit01 ++ wholeS h r (i + 1)
theorem Whole_l0s_eq (h : List Int) : ∀ (r i : Nat) (out : List Int), out.length + r * 64 ≤ 10000 → z22_l0s h r i out = some (out ++ wholeS h r i)
 | 0, i, out, _ => by rw [z22_l0s, wholeS, List.append_nil]
 | r + 1, i, out, hh => by
   have hs := sizeT_in ((i : Nat) : Int)
   have hn : sizeN i ≤ 64 := by unfold sizeN; omega
   rw [z22_l0s, bitsO_size, Option.bind_some, Whole_l1s_eq _ out (by rw [bitsL_len]; omega), Option.bind_some, Whole_l0s_eq h r (i + 1) _ (by rw [List.length_append, List.length_map, bitsL_len]; omega), wholeS, List.append_assoc]
def wholeT (h : List Int) : ByteArray := strOfNums (wholeS h 12 0)
theorem z22_ok (h : List Int) : ACalls Try.prog tab.S 22 [.arr .u64 12 h] [] (.sc (.string (wholeT h))) [] := by
 refine z22_walk h _ ?_
 rw [z22_raw, Whole_l0s_eq h 12 0 [] (by decide)]
 rfl
theorem text_whole_len (c : Cube) (h : List Int) : ∀ (r i : Nat), (textS c r i).length = (wholeS h r i).length
 | 0, _ => rfl
 | r + 1, i => by
   rw [textS, wholeS, List.length_append, List.length_append, List.length_zipWith, bitsL_len, bitsL_len, List.length_map, bitsL_len, Nat.min_self, text_whole_len c h r (i + 1)]
end Go.Proofs.Ytamgbggpbehflaa
namespace Go.Proofs.Ytamgbggpbehflaa
open Go.Sh
def hasL : List Int → List Int → Bool
 | a :: s, b :: w => ((a == 120) || (a == b)) && hasL s w
 | _, _ => true
theorem bit01_ok (b : Bool) : 0 ≤ bit01 b ∧ bit01 b ≤ 255 := by cases b <;> decide
theorem hasL_append : ∀ (a b c d : List Int), a.length = b.length → hasL (a ++ c) (b ++ d) = (hasL a b && hasL c d)
 | [], [], c, d, _ => by rw [List.nil_append, List.nil_append]; show hasL c d = (true && hasL c d); rw [Bool.true_and]
 | [], _ :: _, _, _, h => by cases h
 | _ :: _, [], _, _, h => by cases h
 | x :: a, y :: b, c, d, h => by
   rw [List.cons_append, List.cons_append, hasL, hasL, hasL_append a b c d (by simpa using h), Bool.and_assoc]
def bitsHas : List Bool → List Bool → List Bool → Bool
 | v :: vs, c :: cs, h :: hs => ((!c) || (v == h)) && bitsHas vs cs hs
 | _, _, _ => true
theorem hasL_bits : ∀ (vs cs hs : List Bool), vs.length = cs.length → cs.length = hs.length → hasL (List.zipWith chrB vs cs) (hs.map bit01) = bitsHas vs cs hs
 | [], [], [], _, _ => rfl
 | v :: vs, c :: cs, h :: hs, h1, h2 => by
   rw [List.zipWith_cons_cons, List.map_cons, hasL, bitsHas, hasL_bits vs cs hs (by simpa using h1) (by simpa using h2)]
   cases v <;> cases c <;> cases h <;> rfl
 | [], _ :: _, _, h1, _ => by cases h1
 | _ :: _, [], _, h1, _ => by cases h1
 | _, [], _ :: _, _, h2 => by cases h2
 | _, _ :: _, [], _, h2 => by cases h2
theorem chr_ok (v c : Bool) : 0 ≤ chrB v c ∧ chrB v c ≤ 255 := by cases v <;> cases c <;> decide
theorem byteAt_nums (L : List Int) (hL : ∀ x ∈ L, 0 ≤ x ∧ x ≤ 255) {j : Nat} (hj : j < L.length) : byteAt (strOfNums L) (j : Int) = L[j] := by
 have h := hL L[j] (List.getElem_mem hj)
 unfold byteAt strOfNums
 rw [Int.toNat_natCast, List.getD_eq_getElem?_getD]
 simp [hj]
 omega
theorem text_bytes (c : Cube) : ∀ (r i : Nat), ∀ x ∈ textS c r i, 0 ≤ x ∧ x ≤ 255
 | 0, _, x, h => by cases h
 | r + 1, i, x, h => by
   rw [textS] at h
   rcases List.mem_append.1 h with q | q
   ·obtain ⟨k, hk, rfl⟩ := List.getElem_of_mem q
    rw [List.getElem_zipWith]
    exact chr_ok _ _
   ·exact text_bytes c r (i + 1) x q
theorem textOk_parts (c : Cube) : ∀ (r i : Nat) (ok : Bool), textOk c r i ok = true → ok = true ∧ ∀ j, i ≤ j → j < i + r → badAt c j = false
 | 0, i, ok, h => ⟨h, fun j h1 h2 => absurd h2 (by omega)⟩
 | r + 1, i, ok, h => by
   rw [textOk] at h
   obtain ⟨h1, h2⟩ := textOk_parts c r (i + 1) _ h
   cases hb : badAt c i
   ·rw [hb] at h1
    refine ⟨h1, fun j h3 h4 => ?_⟩
    rcases Nat.eq_or_lt_of_le h3 with q | q
    ·subst q; exact hb
    ·exact h2 j (by omega) (by omega)
   ·rw [hb] at h1; cases h1
theorem bitE_nat {n k : Nat} (hn : n < 18446744073709551616) (hk : k < 64) : bitE ((n : Nat) : Int) ((k : Nat) : Int) = n.testBit k := by
 have hw : ∀ z : Int, IntKind.u64.wrap z = z % 18446744073709551616 := fun z => by simp [IntKind.wrap, IntKind.bits, IntKind.signed]
 unfold bitE
 have e1 : IntKind.u64.wrap ((k : Nat) : Int) = ((k : Nat) : Int) := by rw [hw]; omega
 have e2 : min k (IntKind.u64).bits = k := Nat.min_eq_left (by show k ≤ 64; omega)
 have e3 : Int.fdiv ((n : Nat) : Int) (2 ^ k) = ((n / 2 ^ k : Nat) : Int) := by
  rw [Int.fdiv_eq_ediv_of_nonneg _ (Int.le_of_lt (pow_pos2 k))]
  norm_cast
 rw [e1, Int.toNat_natCast, e2, e3]
 have hlt : n / 2 ^ k < 18446744073709551616 := Nat.lt_of_le_of_lt (Nat.div_le_self _ _) hn
 have e4 : (BitVec.ofInt 64 ((n / 2 ^ k : Nat) : Int) &&& BitVec.ofInt 64 1).toNat = (n / 2 ^ k) % 2 := by
  rw [BitVec.toNat_and, BitVec.toNat_ofInt, BitVec.toNat_ofInt]
  have a1 : (((n / 2 ^ k : Nat) : Int) % ((2 ^ 64 : Nat) : Int)).toNat = n / 2 ^ k := by
   generalize n / 2 ^ k = q at hlt ⊢
   have p : ((2 ^ 64 : Nat) : Int) = 18446744073709551616 := by decide
   rw [p]; omega
  have a2 : ((1 : Int) % ((2 ^ 64 : Nat) : Int)).toNat = 1 := by decide
  rw [a1, a2, Nat.and_one_is_mod]
 rw [e4, hw, Nat.testBit_eq_decide_div_mod_eq]
 rcases Nat.mod_two_eq_zero_or_one (n / 2 ^ k) with q | q <;> rw [q] <;> rfl
theorem u64_range {xs : List Int} {n : Nat} (h : arrW .u64 n xs) (i : Nat) : ∃ k : Nat, xs.getD i 0 = (k : Int) ∧ k < 18446744073709551616 := by
 rw [List.getD_eq_getElem?_getD]
 by_cases hi : i < xs.length
 ·rw [List.getElem?_eq_getElem hi]
  have := h.2 _ (List.getElem_mem hi)
  unfold Go.Lit.wf at this
  rw [Bool.and_eq_true, decide_eq_true_eq, decide_eq_true_eq] at this
  have h0 : 0 ≤ xs[i] := this.1
  have h2 : xs[i] ≤ 18446744073709551615 := this.2
  refine ⟨xs[i].toNat, ?_, ?_⟩
  ·simp only [Option.getD_some]; omega
  ·omega
 ·rw [List.getElem?_eq_none (by omega)]
  exact ⟨0, rfl, by decide⟩
theorem ofInt_nat {n : Nat} (hn : n < 18446744073709551616) : (BitVec.ofInt 64 ((n : Nat) : Int)).toNat = n := by
 rw [BitVec.toNat_ofInt]
 have p : ((2 ^ 64 : Nat) : Int) = 18446744073709551616 := by decide
 rw [p]; omega
theorem wrapU_nat {n : Nat} (hn : n < 18446744073709551616) : IntKind.u64.wrap ((n : Nat) : Int) = (n : Int) := by
 have hw : ∀ z : Int, IntKind.u64.wrap z = z % 18446744073709551616 := fun z => by simp [IntKind.wrap, IntKind.bits, IntKind.signed]
 rw [hw]; omega
theorem care_lt {c : Cube} {i k : Nat} (ek : c.Care.getD i 0 = (k : Int)) (hf : fitsT ((i : Nat) : Int) (c.Care.getD i 0) = true) : k < 2 ^ sizeN i := by
 rw [ek] at hf
 unfold fitsT at hf
 rw [decide_eq_true_eq] at hf
 have : ((k : Nat) : Int) < ((2 ^ sizeN i : Nat) : Int) := by
  unfold sizeN
  push_cast
  exact hf
 omega
theorem sizeN_le (i : Nat) : sizeN i ≤ 64 := by
 have hs := sizeT_in ((i : Nat) : Int)
 unfold sizeN
 omega
end Go.Proofs.Ytamgbggpbehflaa
namespace Go.Proofs.Ytamgbggpbehflaa
open Go.Sh
theorem bitsHas_iff (v c h : Int) : ∀ n : Nat, bitsHas (bitsL v n) (bitsL c n) (bitsL h n) = true ↔ ∀ k, k < n → bitE c (k : Int) = true → bitE v (k : Int) = bitE h (k : Int)
 | 0 => by simp [bitsL, bitsHas]
 | n + 1 => by
   rw [bitsL, bitsL, bitsL, bitsHas, Bool.and_eq_true, bitsHas_iff v c h n]
   constructor
   ·rintro ⟨h1, h2⟩ k hk hc
    rcases Nat.lt_or_ge k n with q | q
    ·exact h2 k q hc
    ·have : k = n := by omega
     subst this
     rw [hc] at h1
     simpa using h1
   ·intro hh
    refine ⟨?_, fun k hk => hh k (by omega)⟩
    cases hc : bitE c (n : Int)
    ·rfl
    ·rw [hh n (by omega) hc]; simp
theorem field_has {v c h n : Nat} (hv : v < 18446744073709551616) (hc : c < 18446744073709551616) (hh : h < 18446744073709551616) (hn : n ≤ 64) (hcn : c < 2 ^ n) (hvc : ∀ k, v.testBit k = true → c.testBit k = true) :
  bitsHas (bitsL (v : Int) n) (bitsL (c : Int) n) (bitsL (h : Int) n) = decide (h &&& c = v) := by
 rw [Bool.eq_iff_iff, bitsHas_iff, decide_eq_true_eq]
 have hcb : ∀ k, n ≤ k → c.testBit k = false := fun k hk => Nat.testBit_lt_two_pow (Nat.lt_of_lt_of_le hcn (Nat.pow_le_pow_right (by decide) hk))
 constructor
 ·intro hb
  apply Nat.eq_of_testBit_eq
  intro k
  rw [Nat.testBit_and]
  cases hk : c.testBit k
  ·rw [Bool.and_false]
   cases hq : v.testBit k
   ·rfl
   ·rw [hvc k hq] at hk; cases hk
  ·rw [Bool.and_true]
   have hkn : k < n := by
    rcases Nat.lt_or_ge k n with q | q
    ·exact q
    ·rw [hcb k q] at hk; cases hk
   have := hb k hkn (by rw [bitE_nat hc (by omega)]; exact hk)
   rw [bitE_nat hv (by omega), bitE_nat hh (by omega)] at this
   exact this.symm
 ·intro e k hk hcK
  rw [bitE_nat hc (by omega)] at hcK
  rw [bitE_nat hv (by omega), bitE_nat hh (by omega), ← e, Nat.testBit_and, hcK, Bool.and_true]
end Go.Proofs.Ytamgbggpbehflaa
namespace Go.Proofs.Ytamgbggpbehflaa
open Go.Sh
noncomputable def z13_F : Go.Sh.Fn := ⟨13, bodyOf Try.f13, 43⟩
def z13_l0 (c : Cube) (h1 : List Int) : Nat → Bool → Int → Option (Bool)
 | 0, _, _ => none
 | m + 1, ok, i =>
  (bif (decide (i < ((((textT c).1).size : Nat) : Int))) then
  (bif ok then
   reqO (decide (0 ≤ i) && decide (i < ((((textT c).1).size : Nat) : Int))) (
   (bif ((byteAt ((textT c).1) i) == 120) then
    z13_l0 c h1 m true (IntKind.i64.wrap (i + 1))
   else
    reqO (decide (0 ≤ i) && decide (i < ((((textT c).1).size : Nat) : Int))) (
    reqO (decide (0 ≤ i) && decide (i < (((wholeT h1).size : Nat) : Int))) (
    z13_l0 c h1 m ((byteAt ((textT c).1) i) == (byteAt (wholeT h1) i)) (IntKind.i64.wrap (i + 1))))))
  else
   z13_l0 c h1 m false (IntKind.i64.wrap (i + 1)))
 else
  some ok)
theorem z13_l0_walk (q0 : Nat) (c : Cube) (h1 : List Int)  (r : Bool) (c0 : Ctx) (hc0 : c0.m.length = 0) (res : Bool) (J : AX Try.prog tab z13_F c0 (Rp tab.S c0 (.sc (.bool r)) []) (some ⟨[.code [1, 1, 1, 1]], [(3, .ptr 1 0 none), (6, .sc (.bool res))], [.box 40 (Cube.ch c), .box 25 [.arr .u64 12 h1]]⟩)) :
  ∀ (m : Nat) (ok : Bool) (i : Int) (H : z13_l0 c h1 m ok i = some res), AX Try.prog tab z13_F c0 (Rp tab.S c0 (.sc (.bool r)) []) (some ⟨[.code [1, 1, 1, 0, 1, 0, 0], .loop [1, 1, 1, 0, 1, 0], .blk 0, .code [1, 1, 1, 1]], [(3, .ptr 1 0 none), (5, .sc (.string ((textT c).1))), (6, .sc (.bool ok)), (7, .sc (.string (wholeT h1))), (8, .sc (.int .i64 i))], [.box 40 (Cube.ch c), .box 25 [.arr .u64 12 h1]]⟩) := by
 intro m
 induction m with
 | zero => intro ok i H; cases H
 | succ m ih =>
  intro ok i H
  rw [z13_l0] at H
  refine .sg 3 [3,5,6,7,8,19] (.cd (decide (i < ((((textT c).1).size : Nat) : Int))) H (fun hb H => ?_) (fun hb H => ?_))
  ·
   refine .sg 3 [3,5,6,7,8] (.rg (.sg 2 [3,5,7,8,23] (.sp 23 ok H (fun hb H => ?_) (fun hb H => ?_))))
   ·
    refine .sg 2 [3,5,7,8,23,24,25] (reqH H fun hreq H => (.xs [3,5,7,8,23,26] hreq (.sg 2 [3,5,7,8,23,28] (.sp 28 ((byteAt ((textT c).1) i) == 120) H (fun hb H => ?_) (fun hb H => ?_)))))
    ·
     exact .sg 10 [3,5,6,7,8] (.dn (.sg 2 [3,5,6,7,8] (.kp [3,5,6,7,8] (.into (.to (ih true (IntKind.i64.wrap (i + 1)) H))))))
    ·
     exact .sg 2 [3,5,7,8,23,28,29,30] (reqH H fun hreq H => (.xs [3,5,7,8,23,28,31] hreq (.sg 2 [3,5,7,8,23,28,31,32,33] (reqH H fun hreq H => (.xs [3,5,7,8,23,28,31,34] hreq (.sg 4 [3,5,6,7,8] (.dn (.sg 2 [3,5,6,7,8] (.kp [3,5,6,7,8] (.into (.to (ih ((byteAt ((textT c).1) i) == (byteAt (wholeT h1) i)) (IntKind.i64.wrap (i + 1)) H))))))))))))
   ·
    exact .sg 15 [3,5,6,7,8] (.dn (.sg 2 [3,5,6,7,8] (.kp [3,5,6,7,8] (.into (.to (ih false (IntKind.i64.wrap (i + 1)) H))))))
  ·
   refine .sg 1 [3,6] (.kp [3,6] ?_)
   obtain rfl := Option.some.inj H
   exact .to J
def z13_raw (q0 : Nat) (c : Cube) (h1 : List Int) : Option (Bool) :=
 (z13_l0 c h1 q0 ((textT c).2) 0).bind fun v =>
 some (v && (z23 h1))
theorem z13_walk (q0 : Nat) (c : Cube) (h1 : List Int) (r : Bool) (H : z13_raw q0 c h1 = some r) : ACalls Try.prog tab.S 13 [Cube.av c, .arr .u64 12 h1] [] (.sc (.bool r)) [] := by
 refine .of_AX z13_F Try.func13 fun c0 hc0 => ?_
 rw [z13_raw] at H
 refine .sg 3 [2,3] (.rg (.sg 1 [3,10] (.cp [3,11] (z21_ok c) (.sg 5 [3,5,6] (.dn (.sg 1 [3,5,6] (.rg (.sg 1 [3,5,6,14] (.cp [3,5,6,15] (z22_ok h1) (.sg 1 [3,5,6,7] (.dn (.sg 4 [3,5,6,7,8] ?_))))))))))))
 refine bndO H fun v hv H => (.into (.to (z13_l0_walk q0 c h1 r c0 hc0 v ?_ q0 ((textT c).2) 0 hv)))
 refine .sg 1 [3,6] (.rg (.sg 2 [3,39] (.mm 39 v 3 [.pure, .pure, .read] [42] 42 (fun z => .sc (.bool (z && (z23 h1)))) ?J1 (fun hb J => ?ht1) (fun hb J => ?hf1))))
 case ht1 =>
  exact .sg 1 [39,40] (.cp [39,41] (z23_calls h1) (.sg 1 [42] (.cl J)))
 case hf1 =>
  exact .sg 3 [42] (.cl J)
 refine .sg 1 [4] (.dn ?_)
 obtain rfl := Option.some.inj H
 exact .ret Try.func13 hc0
theorem whole_bytes (h : List Int) : ∀ (r i : Nat), ∀ x ∈ wholeS h r i, 0 ≤ x ∧ x ≤ 255
 | 0, _, x, hx => by cases hx
 | r + 1, i, x, hx => by
   rw [wholeS] at hx
   rcases List.mem_append.1 hx with q | q
   ·obtain ⟨b, _, rfl⟩ := List.mem_map.1 q
    exact bit01_ok b
   ·exact whole_bytes h r (i + 1) x q
theorem Has_l0_eq (c : Cube) (h : List Int) (hN : (textS c 12 0).length ≤ 100000) : ∀ (m i : Nat) (ok : Bool), i ≤ (textS c 12 0).length → (textS c 12 0).length - i < m → z13_l0 c h m ok (i : Int) = some (ok && hasL ((textS c 12 0).drop i) ((wholeS h 12 0).drop i))
 | 0, i, ok, _, hm => absurd hm (by omega)
 | m + 1, i, ok, hi, hm => by
   have e1 : (textT c).1 = strOfNums (textS c 12 0) := rfl
   have e2 : wholeT h = strOfNums (wholeS h 12 0) := rfl
   have hl := text_whole_len c h 12 0
   rw [z13_l0, e1, e2, show ∀ L : List Int, (strOfNums L).size = L.length from fun L => by simp [strOfNums, ByteArray.size], show ∀ L : List Int, (strOfNums L).size = L.length from fun L => by simp [strOfNums, ByteArray.size]]
   by_cases hlt : i < (textS c 12 0).length
   ·have hw : i < (wholeS h 12 0).length := by omega
    rw [decide_eq_true (by omega), cond_true, byteAt_nums _ (text_bytes c 12 0) hlt, byteAt_nums _ (whole_bytes h 12 0) hw, wrap_succ (by omega), List.drop_eq_getElem_cons hlt, List.drop_eq_getElem_cons hw, hasL]
    have r1 : (decide (0 ≤ (i : Int)) && true) = true := by rw [decide_eq_true (by omega)]; rfl
    have r2 : (decide (0 ≤ (i : Int)) && decide ((i : Int) < (((wholeS h 12 0).length : Nat) : Int))) = true := by rw [decide_eq_true (by omega), decide_eq_true (by omega)]; rfl
    have ih := fun ok => Has_l0_eq c h hN m (i + 1) ok (by omega) (by omega)
    rw [ih, ih, ih]
    cases ok
    ·rfl
    ·rw [cond_true, reqO_eq r1, reqO_eq r1, reqO_eq r2]
     cases (textS c 12 0)[i] == 120 <;> rfl
   ·rw [decide_eq_false (by omega), cond_false, List.drop_eq_nil_of_le (by omega)]
    cases ok <;> rfl
theorem textS_len (c : Cube) : ∀ (r i : Nat), (textS c r i).length ≤ r * 64
 | 0, _ => Nat.le_refl _
 | r + 1, i => by
   have ih := textS_len c r (i + 1)
   have hs := sizeT_in ((i : Nat) : Int)
   have hn : sizeN i ≤ 64 := by unfold sizeN; omega
   rw [textS, List.length_append, List.length_zipWith, bitsL_len, bitsL_len, Nat.min_self]
   omega
def refHasP (c : Cube) (h : List Int) : Bool := ((textT c).2 && hasL (textS c 12 0) (wholeS h 12 0)) && z23 h
theorem z13_ok (c : Cube) (h : List Int) : ACalls Try.prog tab.S 13 [Cube.av c, .arr .u64 12 h] [] (.sc (.bool (refHasP c h))) [] := by
 have hl := textS_len c 12 0
 refine z13_walk ((textS c 12 0).length + 1) c h _ ?_
 have e := Has_l0_eq c h (by omega) ((textS c 12 0).length + 1) 0 (textT c).2 (Nat.zero_le _) (by omega)
 rw [List.drop_zero, List.drop_zero, show ((0 : Nat) : Int) = 0 from rfl] at e
 rw [z13_raw, e]
 rfl
end Go.Proofs.Ytamgbggpbehflaa
namespace Go.Proofs.Ytamgbggpbehflaa
open Go.Sh
def hasF (c : Cube) (h : List Int) : Nat → Nat → Bool
 | 0, _ => true
 | r + 1, i => bitsHas (bitsL (c.Value.getD i 0) (sizeN i)) (bitsL (c.Care.getD i 0) (sizeN i)) (bitsL (h.getD i 0) (sizeN i)) && hasF c h r (i + 1)
theorem hasL_fields (c : Cube) (h : List Int) : ∀ (r i : Nat), hasL (textS c r i) (wholeS h r i) = hasF c h r i
 | 0, _ => rfl
 | r + 1, i => by
   rw [textS, wholeS, hasF, hasL_append _ _ _ _ (by rw [List.length_zipWith, bitsL_len, bitsL_len, List.length_map, bitsL_len, Nat.min_self]), hasL_bits _ _ _ (by rw [bitsL_len, bitsL_len]) (by rw [bitsL_len, bitsL_len]), hasL_fields c h r (i + 1)]
end Go.Proofs.Ytamgbggpbehflaa
namespace Go.Proofs.Ytamgbggpbehflaa
open Go.Sh
def fieldE (c : Cube) (h : List Int) (i : Nat) : Bool := (IntKind.u64.wrap ((BitVec.ofInt 64 (h.getD i 0) &&& BitVec.ofInt 64 (c.Care.getD i 0)).toNat)) == (c.Value.getD i 0)
def fieldsE (c : Cube) (h : List Int) : Nat → Nat → Bool
 | 0, _ => true
 | r + 1, i => fieldE c h i && fieldsE c h r (i + 1)
theorem cube_Has_l0s_eq (c : Cube) (h : List Int) : ∀ (r i : Nat), cube_Has_l0s c h r i = if fieldsE c h r i then .inl () else .inr false
 | 0, _ => rfl
 | r + 1, i => by
   rw [cube_Has_l0s, cube_Has_l0s_eq c h r (i + 1), fieldsE]
   show (bif !(fieldE c h i) then _ else _) = _
   cases fieldE c h i <;> rfl
theorem field_eq {c : Cube} {h : List Int} (wc : Cube.wf c) (wh : arrW .u64 12 h) {i : Nat} (hb : badAt c i = false) (hf : fitsT ((i : Nat) : Int) (c.Care.getD i 0) = true) :
  bitsHas (bitsL (c.Value.getD i 0) (sizeN i)) (bitsL (c.Care.getD i 0) (sizeN i)) (bitsL (h.getD i 0) (sizeN i)) = fieldE c h i := by
 obtain ⟨v, ev, hv⟩ := u64_range wc.1 i
 obtain ⟨k, ek, hk⟩ := u64_range wc.2 i
 obtain ⟨q, eq, hq⟩ := u64_range wh i
 have hs := sizeT_in ((i : Nat) : Int)
 have hn : sizeN i ≤ 64 := by unfold sizeN; omega
 unfold badAt at hb
 unfold fieldE
 rw [ev, ek] at hb
 rw [ek] at hf
 rw [ev, ek, eq]
 have hkn : k < 2 ^ sizeN i := by
  unfold fitsT at hf
  rw [decide_eq_true_eq] at hf
  have : ((k : Nat) : Int) < ((2 ^ sizeN i : Nat) : Int) := by
   unfold sizeN
   push_cast
   exact hf
  omega
 have hvc : ∀ j, v.testBit j = true → k.testBit j = true := by
  intro j hj
  by_cases hj64 : j < 64
  ·have h0 : (BitVec.ofInt 64 ((v : Nat) : Int) &&& ~~~ (BitVec.ofInt 64 ((k : Nat) : Int))) = 0#64 := by
    have hlt := (BitVec.ofInt 64 ((v : Nat) : Int) &&& ~~~ (BitVec.ofInt 64 ((k : Nat) : Int))).isLt
    rw [wrapU_nat (by omega)] at hb
    apply BitVec.eq_of_toNat_eq
    have : (((BitVec.ofInt 64 ((v : Nat) : Int) &&& ~~~ (BitVec.ofInt 64 ((k : Nat) : Int))).toNat : Nat) : Int) = 0 := by simpa using hb
    simpa using this
   have h1 := congrArg (fun b => b.getLsbD j) h0
   simp only [BitVec.getLsbD_and, BitVec.getLsbD_not, BitVec.getLsbD_zero, hj64, decide_true, Bool.true_and] at h1
   rw [BitVec.getLsbD, BitVec.getLsbD, ofInt_nat hv, ofInt_nat hk, hj, Bool.true_and] at h1
   simpa using h1
  ·have : v.testBit j = false := Nat.testBit_lt_two_pow (Nat.lt_of_lt_of_le hv (Nat.pow_le_pow_right (n := 2) (by decide) (show 64 ≤ j by omega)))
   rw [this] at hj; cases hj
 rw [field_has hv hk hq hn hkn hvc, BitVec.toNat_and, ofInt_nat hq, ofInt_nat hk, wrapU_nat (Nat.lt_of_le_of_lt Nat.and_le_left hq), Bool.eq_iff_iff, decide_eq_true_eq, beq_iff_eq]
 omega
end Go.Proofs.Ytamgbggpbehflaa
namespace Go.Proofs.Ytamgbggpbehflaa
open Go.Sh
def HeadOk (h : List Int) : Bool := (List.range' 0 12).all fun i => fitsT ((i : Nat) : Int) (h.getD i 0)
theorem refHead_l0s_eq (h : List Int) : ∀ (n i : Nat), z23_l0s h n i = if (List.range' i n).all (fun i => fitsT ((i : Nat) : Int) (h.getD i 0)) then .inl () else .inr false
 | 0, i => rfl
 | n + 1, i => by
   rw [z23_l0s, refFits_eq, refHead_l0s_eq h n (i + 1), List.range'_succ, List.all_cons]
   cases fitsT ((i : Nat) : Int) (h.getD i 0)
   ·rfl
   ·simp only [Bool.not_true, cond_false, Bool.true_and]
theorem refHead_eq (h : List Int) : z23 h = HeadOk h := by
 unfold z23 HeadOk
 rw [refHead_l0s_eq]
 cases (List.range' 0 12).all _ <;> rfl
theorem fields_eq {c : Cube} {h : List Int} (wc : Cube.wf c) (wh : arrW .u64 12 h) (hb : ∀ j, j < 12 → badAt c j = false) (hf : ∀ j : Nat, j < 12 → fitsT ((j : Nat) : Int) (c.Care.getD j 0) = true) : ∀ (r i : Nat), i + r = 12 → hasF c h r i = fieldsE c h r i
 | 0, _, _ => rfl
 | r + 1, i, e => by
   rw [hasF, fieldsE, field_eq wc wh (hb i (by omega)) (hf i (by omega)), fields_eq wc wh hb hf r (i + 1) (by omega)]
theorem cube_Has_eq {c : Cube} {h : List Int} (wc : Cube.wf c) (wh : arrW .u64 12 h) : cube_Has c h = refHasP c h := by
 rw [cube_Has, cube_Has_l0s_eq, refHasP, hasL_fields, z37_eq wc, z38_eq wh, podestaref01_Cube]
 cases hT : (textT c).2
 ·cases fieldsE c h 12 0 <;> rfl
 ·obtain ⟨h1, h2⟩ := textOk_parts c 12 0 _ hT
  rw [refHead_eq] at h1
  unfold HeadOk at h1
  rw [List.all_eq_true] at h1
  rw [fields_eq wc wh (fun j hj => h2 j (Nat.zero_le _) (by omega)) (fun j hj => h1 j (by rw [List.mem_range'_1]; omega)) 12 0 rfl]
  cases fieldsE c h 12 0
  ·rfl
  ·cases z23 h <;> rfl
end Go.Proofs.Ytamgbggpbehflaa
namespace Go.Proofs.Ytamgbggpbehflaa
open Go.Sh
noncomputable def z27_F : Go.Sh.Fn := ⟨27, bodyOf Try.f27, 58⟩
def z27_l1 (s : ByteArray) (i : Nat) : Nat → Int → Int → List Int → List Int → Option (Int × (List Int) × (List Int))
 | 0, _, _, _, _ => none
 | m + 1, at_1, k1, c_01, c_11 =>
  (bif (decide (k1 < (sizeT ((i : Nat) : Int)))) then
  reqO (decide (0 ≤ at_1) && decide (at_1 < ((s.size : Nat) : Int))) (
  (bif ((byteAt s at_1) != 120) then
   reqO (decide (0 ≤ at_1) && decide (at_1 < ((s.size : Nat) : Int))) (
   (bif ((byteAt s at_1) == 49) then
    z27_l1 s i m (IntKind.i64.wrap (at_1 + 1)) (IntKind.i64.wrap (k1 + 1)) ((c_01.set (i) (IntKind.u64.wrap ((c_01.getD (i) 0) * 2))).set (i) (IntKind.u64.wrap (((c_01.set (i) (IntKind.u64.wrap ((c_01.getD (i) 0) * 2))).getD (i) 0) + 1))) ((c_11.set (i) (IntKind.u64.wrap ((c_11.getD (i) 0) * 2))).set (i) (IntKind.u64.wrap (((c_11.set (i) (IntKind.u64.wrap ((c_11.getD (i) 0) * 2))).getD (i) 0) + 1)))
   else
    z27_l1 s i m (IntKind.i64.wrap (at_1 + 1)) (IntKind.i64.wrap (k1 + 1)) (c_01.set (i) (IntKind.u64.wrap ((c_01.getD (i) 0) * 2))) ((c_11.set (i) (IntKind.u64.wrap ((c_11.getD (i) 0) * 2))).set (i) (IntKind.u64.wrap (((c_11.set (i) (IntKind.u64.wrap ((c_11.getD (i) 0) * 2))).getD (i) 0) + 1)))))
  else
   reqO (decide (0 ≤ at_1) && decide (at_1 < ((s.size : Nat) : Int))) (
   (bif ((byteAt s at_1) == 49) then
    z27_l1 s i m (IntKind.i64.wrap (at_1 + 1)) (IntKind.i64.wrap (k1 + 1)) ((c_01.set (i) (IntKind.u64.wrap ((c_01.getD (i) 0) * 2))).set (i) (IntKind.u64.wrap (((c_01.set (i) (IntKind.u64.wrap ((c_01.getD (i) 0) * 2))).getD (i) 0) + 1))) (c_11.set (i) (IntKind.u64.wrap ((c_11.getD (i) 0) * 2)))
   else
    z27_l1 s i m (IntKind.i64.wrap (at_1 + 1)) (IntKind.i64.wrap (k1 + 1)) (c_01.set (i) (IntKind.u64.wrap ((c_01.getD (i) 0) * 2))) (c_11.set (i) (IntKind.u64.wrap ((c_11.getD (i) 0) * 2)))))))
 else
  some (at_1, c_01, c_11))
theorem z27_l1_walk (q1 : Nat) (s : ByteArray) (i : Nat) (at_ : Int) (c_0 : List Int) (c_1 : List Int) (hlt_i : i < 12)  (r : Cube) (c0 : Ctx) (hc0 : c0.m.length = 0) (res : Int × (List Int) × (List Int)) (J : AX Try.prog tab z27_F c0 (Rp tab.S c0 (Cube.av r) []) (some ⟨[.blk 1, .code [1, 1, 1, 0, 1, 0, 0, 1, 1], .loop [1, 1, 1, 0, 1, 0], .blk 0, .code [1, 1, 1, 1]], [(0, .sc (.string s)), (2, .ptr 0 0 none), (3, .ptr 1 0 none), (4, .sc (.int .i64 res.1)), (5, .sc (.int .i64 ((i : Nat) : Int)))], [.box 40 [.arr .u64 12 [0, 0, 0, 0, 0, 0, 0, 0, 0, 0, 0, 0], .arr .u64 12 [0, 0, 0, 0, 0, 0, 0, 0, 0, 0, 0, 0]], .box 40 [.arr .u64 12 res.2.1, .arr .u64 12 res.2.2]]⟩)) :
  ∀ (m : Nat) (at_1 : Int) (k1 : Int) (c_01 : List Int) (c_11 : List Int) (H : z27_l1 s i m at_1 k1 c_01 c_11 = some res), AX Try.prog tab z27_F c0 (Rp tab.S c0 (Cube.av r) []) (some ⟨[.code [1, 1, 1, 0, 1, 0, 0, 1, 0, 0, 1, 0, 0], .loop [1, 1, 1, 0, 1, 0, 0, 1, 0, 0, 1, 0], .blk 2, .blk 1, .code [1, 1, 1, 0, 1, 0, 0, 1, 1], .loop [1, 1, 1, 0, 1, 0], .blk 0, .code [1, 1, 1, 1]], [(0, .sc (.string s)), (2, .ptr 0 0 none), (3, .ptr 1 0 none), (4, .sc (.int .i64 at_1)), (5, .sc (.int .i64 ((i : Nat) : Int))), (6, .sc (.int .i64 k1))], [.box 40 [.arr .u64 12 [0, 0, 0, 0, 0, 0, 0, 0, 0, 0, 0, 0], .arr .u64 12 [0, 0, 0, 0, 0, 0, 0, 0, 0, 0, 0, 0]], .box 40 [.arr .u64 12 c_01, .arr .u64 12 c_11]]⟩) := by
 intro m
 induction m with
 | zero => intro at_1 k1 c_01 c_11 H; cases H
 | succ m ih =>
  intro at_1 k1 c_01 c_11 H
  rw [z27_l1] at H
  refine .sg 2 [0,2,3,4,5,6] (.rg (.sg 2 [0,2,3,4,5,6,11,12] (.cp [0,2,3,4,5,6,11,13] (z35_ok ((i : Nat) : Int)) (.sg 1 [0,2,3,4,5,6,14] (.dn (.cd (decide (k1 < (sizeT ((i : Nat) : Int)))) H (fun hb H => ?_) (fun hb H => ?_)))))))
  ·
   refine .sg 4 [0,2,3,4,5,6] (.rg (.sg 3 [0,2,3,4,5,6,17,18,19] ?_))
   have hreq := idx_in 12 hlt_i (by decide)
   refine .xa [0,2,3,4,5,6,17,20] hreq (.sg 3 [0,2,3,4,5,6,17,22,23] ?_)
   have hreq := idx_in 12 hlt_i (by decide)
   refine .xa [0,2,3,4,5,6,22,24] hreq (.sg 1 [0,2,3,4,5,6] (.dn (.sg 1 [0,2,3,4,5,6] (.rg (.sg 3 [0,2,3,4,5,6,25,26,27] ?_)))))
   have hreq := idx_in 12 hlt_i (by decide)
   refine .xa [0,2,3,4,5,6,25,28] hreq (.sg 3 [0,2,3,4,5,6,25,30,31] ?_)
   have hreq := idx_in 12 hlt_i (by decide)
   refine .xa [0,2,3,4,5,6,30,32] hreq (.sg 1 [0,2,3,4,5,6] (.dn (.sg 2 [0,2,3,4,5,6] (.rg (.sg 2 [0,2,3,4,5,6,33,34] (reqH H fun hreq H => (.xs [0,2,3,4,5,6,35] hreq (.sg 1 [0,2,3,4,5,6,36] (.dn (.cd ((byteAt s at_1) != 120) H (fun hb H => ?_) (fun hb H => ?_)))))))))))
   ·
    refine .rg (.sg 2 [0,2,3,4,5,6,37,38] ?_)
    have hreq := idx_in 12 hlt_i (by decide)
    refine .xa [0,2,3,4,5,6,37,39] hreq (.sg 3 [0,2,3,4,5,6,37,41,42] ?_)
    have hreq := idx_in 12 hlt_i (by decide)
    refine .xa [0,2,3,4,5,6,41,43] hreq (.sg 1 [0,2,3,4,5,6] (.dn (.sg 2 [0,2,3,4,5,6] (.rg (.sg 2 [0,2,3,4,5,6,44,45] (reqH H fun hreq H => (.xs [0,2,3,4,5,6,46] hreq (.sg 1 [0,2,3,4,5,6,47] (.dn (.cd ((byteAt s at_1) == 49) H (fun hb H => ?_) (fun hb H => ?_)))))))))))
    ·
     refine .rg (.sg 2 [0,2,3,4,5,6,48,49] ?_)
     have hreq := idx_in 12 hlt_i (by decide)
     refine .xa [0,2,3,4,5,6,48,50] hreq (.sg 3 [0,2,3,4,5,6,48,52,53] ?_)
     have hreq := idx_in 12 hlt_i (by decide)
     exact .xa [0,2,3,4,5,6,52,54] hreq (.sg 1 [0,2,3,4,5,6] (.dn (.sg 3 [0,2,3,4,5,6] (.kp [0,2,3,4,5,6] (.into (.to (ih (IntKind.i64.wrap (at_1 + 1)) (IntKind.i64.wrap (k1 + 1)) ((c_01.set (i) (IntKind.u64.wrap ((c_01.getD (i) 0) * 2))).set (i) (IntKind.u64.wrap (((c_01.set (i) (IntKind.u64.wrap ((c_01.getD (i) 0) * 2))).getD (i) 0) + 1))) ((c_11.set (i) (IntKind.u64.wrap ((c_11.getD (i) 0) * 2))).set (i) (IntKind.u64.wrap (((c_11.set (i) (IntKind.u64.wrap ((c_11.getD (i) 0) * 2))).getD (i) 0) + 1))) H)))))))
    ·
     exact .sg 4 [0,2,3,4,5,6] (.kp [0,2,3,4,5,6] (.into (.to (ih (IntKind.i64.wrap (at_1 + 1)) (IntKind.i64.wrap (k1 + 1)) (c_01.set (i) (IntKind.u64.wrap ((c_01.getD (i) 0) * 2))) ((c_11.set (i) (IntKind.u64.wrap ((c_11.getD (i) 0) * 2))).set (i) (IntKind.u64.wrap (((c_11.set (i) (IntKind.u64.wrap ((c_11.getD (i) 0) * 2))).getD (i) 0) + 1))) H))))
   ·
    refine .sg 3 [0,2,3,4,5,6] (.rg (.sg 2 [0,2,3,4,5,6,44,45] (reqH H fun hreq H => (.xs [0,2,3,4,5,6,46] hreq (.sg 1 [0,2,3,4,5,6,47] (.dn (.cd ((byteAt s at_1) == 49) H (fun hb H => ?_) (fun hb H => ?_))))))))
    ·
     refine .rg (.sg 2 [0,2,3,4,5,6,48,49] ?_)
     have hreq := idx_in 12 hlt_i (by decide)
     refine .xa [0,2,3,4,5,6,48,50] hreq (.sg 3 [0,2,3,4,5,6,48,52,53] ?_)
     have hreq := idx_in 12 hlt_i (by decide)
     exact .xa [0,2,3,4,5,6,52,54] hreq (.sg 1 [0,2,3,4,5,6] (.dn (.sg 3 [0,2,3,4,5,6] (.kp [0,2,3,4,5,6] (.into (.to (ih (IntKind.i64.wrap (at_1 + 1)) (IntKind.i64.wrap (k1 + 1)) ((c_01.set (i) (IntKind.u64.wrap ((c_01.getD (i) 0) * 2))).set (i) (IntKind.u64.wrap (((c_01.set (i) (IntKind.u64.wrap ((c_01.getD (i) 0) * 2))).getD (i) 0) + 1))) (c_11.set (i) (IntKind.u64.wrap ((c_11.getD (i) 0) * 2))) H)))))))
    ·
     exact .sg 4 [0,2,3,4,5,6] (.kp [0,2,3,4,5,6] (.into (.to (ih (IntKind.i64.wrap (at_1 + 1)) (IntKind.i64.wrap (k1 + 1)) (c_01.set (i) (IntKind.u64.wrap ((c_01.getD (i) 0) * 2))) (c_11.set (i) (IntKind.u64.wrap ((c_11.getD (i) 0) * 2))) H))))
  ·
   refine .sg 1 [0,2,3,4,5] (.kp [0,2,3,4,5] ?_)
   obtain rfl := Option.some.inj H
   exact .to J
def z27_l0s (q1 : Nat) (s : ByteArray) : Nat → Nat → Int → List Int → List Int → Option ((List Int) × (List Int))
 | 0, i, at_, c_0, c_1 =>
  some (c_0, c_1)
 | rest + 1, i, at_, c_0, c_1 =>
  (z27_l1 s i q1 at_ 0 c_0 c_1).bind fun v =>
  z27_l0s q1 s rest (i + 1) v.1 v.2.1 v.2.2
theorem z27_l0_walk (q1 : Nat) (s : ByteArray) (r : Cube) (c0 : Ctx) (hc0 : c0.m.length = 0) (res : (List Int) × (List Int)) (J : AX Try.prog tab z27_F c0 (Rp tab.S c0 (Cube.av r) []) (some ⟨[.code [1, 1, 1, 1]], [(2, .ptr 0 0 none), (3, .ptr 1 0 none)], [.box 40 [.arr .u64 12 [0, 0, 0, 0, 0, 0, 0, 0, 0, 0, 0, 0], .arr .u64 12 [0, 0, 0, 0, 0, 0, 0, 0, 0, 0, 0, 0]], .box 40 [.arr .u64 12 res.1, .arr .u64 12 res.2]]⟩)) :
  ∀ (rest : Nat) (i : Nat) (z : Int) (hI : z = ((i : Nat) : Int)) (hd : i + rest = 12) (at_ : Int) (c_0 : List Int) (c_1 : List Int) (H : z27_l0s q1 s rest i at_ c_0 c_1 = some res), AX Try.prog tab z27_F c0 (Rp tab.S c0 (Cube.av r) []) (some ⟨[.code [1, 1, 1, 0, 1, 0, 0], .loop [1, 1, 1, 0, 1, 0], .blk 0, .code [1, 1, 1, 1]], [(0, .sc (.string s)), (2, .ptr 0 0 none), (3, .ptr 1 0 none), (4, .sc (.int .i64 at_)), (5, .sc (.int .i64 z))], [.box 40 [.arr .u64 12 [0, 0, 0, 0, 0, 0, 0, 0, 0, 0, 0, 0], .arr .u64 12 [0, 0, 0, 0, 0, 0, 0, 0, 0, 0, 0, 0]], .box 40 [.arr .u64 12 c_0, .arr .u64 12 c_1]]⟩) := by
 intro rest
 induction rest with
 | zero =>
  intro i z hI hd at_ c_0 c_1 H
  subst hI
  rw [z27_l0s] at H
  have hc : (decide (((i : Nat) : Int) < 12)) = false := decide_eq_false (by omega)
  refine .sg 3 [0,2,3,4,5,8] (.cdF hc (.sg 1 [2,3] (.kp [2,3] ?_)))
  obtain rfl := Option.some.inj H
  exact .to J
 | succ rest ih =>
  intro i z hI hd at_ c_0 c_1 H
  subst hI
  rw [z27_l0s] at H
  have hlt_i : i < 12 := by omega
  have hc : (decide (((i : Nat) : Int) < 12)) = true := decide_eq_true (by omega)
  have hw : IntKind.i64.wrap (((i : Nat) : Int) + 1) = ((i + 1 : Nat) : Int) := wrapI_succ (by omega)
  refine .sg 3 [0,2,3,4,5,8] (.cdT hc (.sg 6 [0,2,3,4,5,6] ?_))
  refine bndO H fun v hv H => (.into (.to (z27_l1_walk q1 s i at_ c_0 c_1 hlt_i r c0 hc0 v ?_ q1 at_ 0 c_0 c_1 hv)))
  exact .sg 2 [0,2,3,4,5] (.kp [0,2,3,4,5] (.into (.cl (ih (i + 1) _ hw (by omega) v.1 v.2.1 v.2.2 H))))
def z27_raw (q1 : Nat) (s : ByteArray) : Option (Cube) :=
 (z27_l0s q1 s 12 0 0 [0, 0, 0, 0, 0, 0, 0, 0, 0, 0, 0, 0] [0, 0, 0, 0, 0, 0, 0, 0, 0, 0, 0, 0]).bind fun v =>
 some ({ Value := v.1, Care := v.2 } : Cube)
theorem z27_walk (q1 : Nat) (s : ByteArray) (r : Cube) (H : z27_raw q1 s = some r) : ACalls Try.prog tab.S 27 [.sc (.string s)] [] (Cube.av r) [] := by
 refine .of_AX z27_F Try.func27 fun c0 hc0 => ?_
 rw [z27_raw] at H
 refine .sg 10 [0,2,3,4,5] ?_
 refine bndO H fun v hv H => (.into (.to (z27_l0_walk q1 s r c0 hc0 v ?_ 12 0 _ rfl rfl 0 [0, 0, 0, 0, 0, 0, 0, 0, 0, 0, 0, 0] [0, 0, 0, 0, 0, 0, 0, 0, 0, 0, 0, 0] hv)))
 refine .sg 2 [2] ?_
 obtain rfl := Option.some.inj H
 exact .ret Try.func27 hc0
noncomputable def z16_F : Go.Sh.Fn := ⟨16, bodyOf Try.f16, 64⟩
def z16_l0 (a : Cube) (b : Cube) : Nat → Int → List Int → Option (Sum ((List Int)) (Cube × Bool))
 | 0, _, _ => none
 | m + 1, i, out =>
  (bif (decide (i < ((((textT a).1).size : Nat) : Int))) then
  reqO (decide (0 ≤ i) && decide (i < ((((textT a).1).size : Nat) : Int))) (
  (bif ((byteAt ((textT a).1) i) == 120) then
   reqO (decide (0 ≤ i) && decide (i < ((((textT b).1).size : Nat) : Int))) (
   (ixO out i).bind fun x =>
   z16_l0 a b m (IntKind.i64.wrap (i + 1)) (out.set i.toNat (byteAt ((textT b).1) i)))
  else
   reqO (decide (0 ≤ i) && decide (i < ((((textT b).1).size : Nat) : Int))) (
   (bif ((byteAt ((textT b).1) i) != 120) then
    reqO (decide (0 ≤ i) && decide (i < ((((textT a).1).size : Nat) : Int))) (
    reqO (decide (0 ≤ i) && decide (i < ((((textT b).1).size : Nat) : Int))) (
    (bif ((byteAt ((textT a).1) i) != (byteAt ((textT b).1) i)) then
     some (.inr (({ Value := [0, 0, 0, 0, 0, 0, 0, 0, 0, 0, 0, 0], Care := [0, 0, 0, 0, 0, 0, 0, 0, 0, 0, 0, 0] } : Cube), false))
    else
     z16_l0 a b m (IntKind.i64.wrap (i + 1)) out)))
   else
    z16_l0 a b m (IntKind.i64.wrap (i + 1)) out))))
 else
  some (.inl out))
theorem z16_l0_walk (q0 : Nat) (a : Cube) (b : Cube)  (r : Cube × Bool) (c0 : Ctx) (hc0 : c0.m.length = 0) (res : Sum ((List Int)) (Cube × Bool)) (J : ∀ w : (List Int), res = .inl w → AX Try.prog tab z16_F c0 (Rp tab.S c0 (.tup [Cube.av r.1, .sc (.bool r.2)]) []) (some ⟨[.code [1, 1, 1, 1, 1, 1]], [(4, .ptr 2 0 none), (10, .own 3 2000000)], [.box 40 (Cube.ch a), .box 40 (Cube.ch b), .box 40 [.arr .u64 12 [0, 0, 0, 0, 0, 0, 0, 0, 0, 0, 0, 0], .arr .u64 12 [0, 0, 0, 0, 0, 0, 0, 0, 0, 0, 0, 0]], .row 5 (List.map (intA .u8) w) 2000000 true]⟩)) (Jr : ∀ w, res = .inr w → w = r) :
  ∀ (m : Nat) (i : Int) (out : List Int) (H : z16_l0 a b m i out = some res), AX Try.prog tab z16_F c0 (Rp tab.S c0 (.tup [Cube.av r.1, .sc (.bool r.2)]) []) (some ⟨[.code [1, 1, 1, 1, 1, 0, 1, 0, 0], .loop [1, 1, 1, 1, 1, 0, 1, 0], .blk 0, .code [1, 1, 1, 1, 1, 1]], [(4, .ptr 2 0 none), (6, .sc (.string ((textT a).1))), (8, .sc (.string ((textT b).1))), (10, .own 3 2000000), (11, .sc (.int .i64 i))], [.box 40 (Cube.ch a), .box 40 (Cube.ch b), .box 40 [.arr .u64 12 [0, 0, 0, 0, 0, 0, 0, 0, 0, 0, 0, 0], .arr .u64 12 [0, 0, 0, 0, 0, 0, 0, 0, 0, 0, 0, 0]], .row 5 (List.map (intA .u8) out) 2000000 true]⟩) := by
 intro m
 induction m with
 | zero => intro i out H; cases H
 | succ m ih =>
  intro i out H
  rw [z16_l0] at H
  refine .sg 3 [4,6,8,10,11,34] (.cd (decide (i < ((((textT a).1).size : Nat) : Int))) H (fun hb H => ?_) (fun hb H => ?_))
  ·
   refine .sg 4 [4,6,8,10,11] (.rg (.sg 2 [4,6,8,10,11,37,38] (reqH H fun hreq H => (.xs [4,6,8,10,11,39] hreq (.sg 1 [4,6,8,10,11,40] (.dn (.cd ((byteAt ((textT a).1) i) == 120) H (fun hb H => ?_) (fun hb H => ?_))))))))
   ·
    exact .rg (.sg 4 [4,6,8,10,11,41,42,43,44] (reqH H fun hreq H => (.xs [4,6,8,10,11,41,42,45] hreq (bndO H fun x hv_x H => (.xo [4,6,8,10,11,45,46] (ixO_req hv_x (intA .u8)) (.st [4,6,8,10,11] (intA .u8) (byteAt ((textT b).1) i) (ixO_map hv_x (intA .u8)).2 (.dn (.sg 2 [4,6,8,10,11] (.kp [4,6,8,10,11] (.into (.to (ih (IntKind.i64.wrap (i + 1)) (out.set i.toNat (byteAt ((textT b).1) i)) H))))))))))))
   ·
    refine .sg 1 [4,6,8,10,11] (.rg (.sg 2 [4,6,8,10,11,47,48] (reqH H fun hreq H => (.xs [4,6,8,10,11,49] hreq (.sg 2 [4,6,8,10,11,51] (.sp 51 ((byteAt ((textT b).1) i) != 120) H (fun hb H => ?_) (fun hb H => ?_)))))))
    ·
     refine .sg 2 [4,6,8,10,11,51,52,53] (reqH H fun hreq H => (.xs [4,6,8,10,11,51,54] hreq (.sg 2 [4,6,8,10,11,51,54,55,56] (reqH H fun hreq H => (.xs [4,6,8,10,11,51,54,57] hreq (.sg 2 [4,6,8,10,11,59] (.dn (.cd ((byteAt ((textT a).1) i) != (byteAt ((textT b).1) i)) H (fun hb H => ?_) (fun hb H => ?_)))))))))
     ·
      refine .sg 2 [4,5] ?_
      obtain rfl := Option.some.inj H
      obtain rfl := Jr _ rfl
      exact .ret Try.func16 hc0
     ·
      exact .sg 3 [4,6,8,10,11] (.kp [4,6,8,10,11] (.into (.to (ih (IntKind.i64.wrap (i + 1)) out H))))
    ·
     exact .sg 8 [4,6,8,10,11,59] (.dn (.sg 4 [4,6,8,10,11] (.kp [4,6,8,10,11] (.into (.to (ih (IntKind.i64.wrap (i + 1)) out H))))))
  ·
   exact .sg 1 [4,10] (.kp [4,10] (.to (J out (Option.some.inj H).symm)))
def z16_raw (q0 : Nat) (a : Cube) (b : Cube) : Option (Cube × Bool) :=
 (bif ((!(textT a).2) || (!(textT b).2)) then
  some (({ Value := [0, 0, 0, 0, 0, 0, 0, 0, 0, 0, 0, 0], Care := [0, 0, 0, 0, 0, 0, 0, 0, 0, 0, 0, 0] } : Cube), false)
 else
  fitO (((textT a).1).size) 1 (
  loopO (z16_l0 a b q0 0 (numsOf ((textT a).1))) fun v =>
  (z27_raw 100 (strOfNums v)).bind fun x =>
  some (x, true)))
theorem z16_walk (q0 : Nat) (a : Cube) (b : Cube) (r : Cube × Bool) (H : z16_raw q0 a b = some r) : ACalls Try.prog tab.S 16 [Cube.av a, Cube.av b] [] (.tup [Cube.av r.1, .sc (.bool r.2)]) [] := by
 refine .of_AX z16_F Try.func16 fun c0 hc0 => ?_
 rw [z16_raw] at H
 refine .sg 3 [2,3,4] (.rg (.sg 1 [3,4,13] (.cp [3,4,14] (z21_ok a) (.sg 5 [3,4,6,7] (.dn (.sg 1 [3,4,6,7] (.rg (.sg 1 [4,6,7,18] (.cp [4,6,7,19] (z21_ok b) (.sg 5 [4,6,7,8,9] (.dn (.sg 2 [4,6,7,8,9] (.rg (.sg 3 [4,6,8,9,24] (.mx 1 [4,6,8,27] (.dn (.cd ((!(textT a).2) || (!(textT b).2)) H (fun hb H => ?_) (fun hb H => ?_))))))))))))))))))
 ·
  refine .sg 2 [4,5] ?_
  obtain rfl := Option.some.inj H
  exact .ret Try.func16 hc0
 ·
  refine .sg 2 [4,6,8] (.rg (.sg 1 [4,6,8,29] (fitH H fun hfit H => (.sb [4,6,8,30] hfit (.sg 1 [4,6,8,10] (.dn (.sg 4 [4,6,8,10,11] ?_)))))))
  rcases loopO_some H with ⟨v, hv, H⟩ | hv
  case inr =>
   exact .into (.to (z16_l0_walk q0 a b r c0 hc0 (.inr r) (fun _ e => by cases e) (fun _ e => (Sum.inr.inj e).symm) q0 0 (numsOf ((textT a).1)) hv))
  refine .into (.to (z16_l0_walk q0 a b r c0 hc0 (.inl v) (fun w e => ?_) (fun _ e => by cases e) q0 0 (numsOf ((textT a).1)) hv))
  have e := Sum.inl.inj e
  subst e
  refine .sg 1 [4,10] (.rg (.sg 1 [4,61] (.by_ [4,62] v (bndO H fun x hv H => (.cp [4,63] ((z27_walk 100) _ x hv) (.sg 2 [4,5] (.dn ?_)))))))
  obtain rfl := Option.some.inj H
  exact .ret Try.func16 hc0
def meetL : List Int → List Int → Bool
 | a :: s, b :: t => (((a == 120) || (b == 120)) || (a == b)) && meetL s t
 | _, _ => true
theorem meetL_append : ∀ (a b c d : List Int), a.length = b.length → meetL (a ++ c) (b ++ d) = (meetL a b && meetL c d)
 | [], [], c, d, _ => by rw [List.nil_append, List.nil_append]; show meetL c d = (true && meetL c d); rw [Bool.true_and]
 | [], _ :: _, _, _, h => by cases h
 | _ :: _, [], _, _, h => by cases h
 | x :: a, y :: b, c, d, h => by rw [List.cons_append, List.cons_append, meetL, meetL, meetL_append a b c d (by simpa using h), Bool.and_assoc]
def bitsMeet : List Bool → List Bool → List Bool → List Bool → Bool
 | va :: vs, ca :: cs, vb :: ws, cb :: ds => (((!ca) || (!cb)) || (va == vb)) && bitsMeet vs cs ws ds
 | _, _, _, _ => true
theorem meetL_bits (v c w d : Int) : ∀ n, meetL (List.zipWith chrB (bitsL v n) (bitsL c n)) (List.zipWith chrB (bitsL w n) (bitsL d n)) = bitsMeet (bitsL v n) (bitsL c n) (bitsL w n) (bitsL d n)
 | 0 => rfl
 | n + 1 => by
  rw [bitsL, bitsL, bitsL, bitsL, List.zipWith_cons_cons, List.zipWith_cons_cons, meetL, bitsMeet, meetL_bits v c w d n]
  cases bitE v n <;> cases bitE c n <;> cases bitE w n <;> cases bitE d n <;> rfl
theorem bitsMeet_iff (v c w d : Int) : ∀ n : Nat, bitsMeet (bitsL v n) (bitsL c n) (bitsL w n) (bitsL d n) = true ↔ ∀ k : Nat, k < n → bitE c (k : Int) = true → bitE d (k : Int) = true → bitE v (k : Int) = bitE w (k : Int)
 | 0 => by simp [bitsL, bitsMeet]
 | n + 1 => by
  rw [bitsL, bitsL, bitsL, bitsL, bitsMeet, Bool.and_eq_true, bitsMeet_iff v c w d n]
  constructor
  ·rintro ⟨h1, h2⟩ k hk hc hd
   rcases Nat.lt_or_ge k n with q | q
   ·exact h2 k q hc hd
   ·have : k = n := by omega
    subst this
    rw [hc, hd] at h1
    simpa using h1
  ·intro hh
   refine ⟨?_, fun k hk => hh k (by omega)⟩
   cases hc : bitE c (n : Int)
   ·rfl
   ·cases hd : bitE d (n : Int)
    ·rfl
    ·rw [hh n (by omega) hc hd]; simp
def meetF (a b : Cube) : Nat → Nat → Bool
 | 0, _ => true
 | r + 1, i => bitsMeet (bitsL (a.Value.getD i 0) (sizeN i)) (bitsL (a.Care.getD i 0) (sizeN i)) (bitsL (b.Value.getD i 0) (sizeN i)) (bitsL (b.Care.getD i 0) (sizeN i)) && meetF a b r (i + 1)
theorem meetL_fields (a b : Cube) : ∀ (r i : Nat), meetL (textS a r i) (textS b r i) = meetF a b r i
 | 0, _ => rfl
 | r + 1, i => by rw [textS, textS, meetF, meetL_append _ _ _ _ (by rw [List.length_zipWith, List.length_zipWith, bitsL_len, bitsL_len, bitsL_len, bitsL_len]), meetL_bits, meetL_fields a b r (i + 1)]
theorem field_meet {v c w d n : Nat} (hv : v < 18446744073709551616) (hc : c < 18446744073709551616) (hw : w < 18446744073709551616) (hd : d < 18446744073709551616) (hn : n ≤ 64) (hcn : c < 2 ^ n) :
  bitsMeet (bitsL (v : Int) n) (bitsL (c : Int) n) (bitsL (w : Int) n) (bitsL (d : Int) n) = decide ((v ^^^ w) &&& c &&& d = 0) := by
 rw [Bool.eq_iff_iff, bitsMeet_iff, decide_eq_true_eq]
 have hcb : ∀ k, n ≤ k → c.testBit k = false := fun k hk => Nat.testBit_lt_two_pow (Nat.lt_of_lt_of_le hcn (Nat.pow_le_pow_right (by decide) hk))
 constructor
 ·intro hb
  apply Nat.eq_of_testBit_eq
  intro k
  rw [Nat.testBit_and, Nat.testBit_and, Nat.testBit_xor, Nat.zero_testBit]
  rcases Nat.lt_or_ge k n with q | q
  ·have := hb k q
   rw [bitE_nat hc (by omega), bitE_nat hd (by omega), bitE_nat hv (by omega), bitE_nat hw (by omega)] at this
   cases h1 : c.testBit k
   ·simp
   ·cases h2 : d.testBit k
    ·simp
    ·rw [this h1 h2]; simp
  ·rw [hcb k q]; simp
 ·intro e k hk h1 h2
  rw [bitE_nat hc (by omega)] at h1
  rw [bitE_nat hd (by omega)] at h2
  rw [bitE_nat hv (by omega), bitE_nat hw (by omega)]
  have := congrArg (fun x => x.testBit k) e
  simp only [Nat.testBit_and, Nat.testBit_xor, Nat.zero_testBit, h1, h2, Bool.and_true] at this
  cases hx : v.testBit k <;> cases hy : w.testBit k <;> simp_all
def clashE (v w c d : Int) : Bool := ((IntKind.u64.wrap ((BitVec.ofInt 64 (IntKind.u64.wrap ((BitVec.ofInt 64 (IntKind.u64.wrap ((BitVec.ofInt 64 v ^^^ BitVec.ofInt 64 w).toNat)) &&& BitVec.ofInt 64 c).toNat)) &&& BitVec.ofInt 64 d).toNat)) != 0)
def orE (v w : Int) : Int := IntKind.u64.wrap ((BitVec.ofInt 64 v ||| BitVec.ofInt 64 w).toNat)
def clashF (a b : Cube) : Nat → Nat → Bool
 | 0, _ => false
 | r + 1, i => clashE (a.Value.getD i 0) (b.Value.getD i 0) (a.Care.getD i 0) (b.Care.getD i 0) || clashF a b r (i + 1)
def orA (b : List Int) : Nat → Nat → List Int → List Int
 | 0, _, x => x
 | r + 1, i, x => orA b r (i + 1) (x.set i (orE (x.getD i 0) (b.getD i 0)))
theorem getD_set_ne {x : List Int} {i j : Nat} (v : Int) (h : i ≠ j) : (x.set i v).getD j 0 = x.getD j 0 := by
 rw [List.getD_eq_getElem?_getD, List.getD_eq_getElem?_getD, List.getElem?_set_ne h]
theorem z30_l0s_eq (a b : Cube) : ∀ (r i : Nat) (x y : List Int), (∀ j, i ≤ j → x.getD j 0 = a.Value.getD j 0) → (∀ j, i ≤ j → y.getD j 0 = a.Care.getD j 0) →
  z30_l0s b r i x y = if clashF a b r i then .inr (({ Value := [0, 0, 0, 0, 0, 0, 0, 0, 0, 0, 0, 0], Care := [0, 0, 0, 0, 0, 0, 0, 0, 0, 0, 0, 0] } : Cube), false) else .inl (orA b.Value r i x, orA b.Care r i y)
 | 0, i, x, y, _, _ => rfl
 | r + 1, i, x, y, hx, hy => by
   rw [z30_l0s, clashF, orA, orA]
   show (bif clashE (x.getD i 0) (b.Value.getD i 0) (y.getD i 0) (b.Care.getD i 0) then _ else _) = _
   rw [hx i (Nat.le_refl _), hy i (Nat.le_refl _)]
   cases hc : clashE (a.Value.getD i 0) (b.Value.getD i 0) (a.Care.getD i 0) (b.Care.getD i 0) with
   | true => rfl
   | false =>
    rw [cond_false, Bool.false_or]
    refine z30_l0s_eq a b r (i + 1) _ _ (fun j hj => ?_) (fun j hj => ?_)
    ·rw [getD_set_ne _ (by omega)]
     exact hx j (by omega)
    ·rw [getD_set_ne _ (by omega)]
     exact hy j (by omega)
theorem z30_eq (a b : Cube) : z30 a b = if z40 a b && !clashF a b 12 0 then (⟨orA b.Value 12 0 a.Value, orA b.Care 12 0 a.Care⟩, true) else (⟨[0, 0, 0, 0, 0, 0, 0, 0, 0, 0, 0, 0], [0, 0, 0, 0, 0, 0, 0, 0, 0, 0, 0, 0]⟩, false) := by
 rw [z30, z30_l0s_eq a b 12 0 _ _ (fun _ _ => rfl) (fun _ _ => rfl)]
 cases z40 a b with
 | false => rfl
 | true => cases clashF a b 12 0 <;> rfl
theorem clashE_nat {v w c d : Nat} (hv : v < 18446744073709551616) (hw : w < 18446744073709551616) (hc : c < 18446744073709551616) (hd : d < 18446744073709551616) : clashE (v : Int) (w : Int) (c : Int) (d : Int) = !decide ((v ^^^ w) &&& c &&& d = 0) := by
 have h1 : v ^^^ w < 18446744073709551616 := Nat.xor_lt_two_pow (n := 64) hv hw
 have h2 : (v ^^^ w) &&& c < 18446744073709551616 := Nat.lt_of_le_of_lt Nat.and_le_left h1
 have h3 : (v ^^^ w) &&& c &&& d < 18446744073709551616 := Nat.lt_of_le_of_lt Nat.and_le_left h2
 have e1 : (BitVec.ofInt 64 (v : Int) ^^^ BitVec.ofInt 64 (w : Int)).toNat = v ^^^ w := by rw [BitVec.toNat_xor, ofInt_nat hv, ofInt_nat hw]
 have e2 : (BitVec.ofInt 64 ((v ^^^ w : Nat) : Int) &&& BitVec.ofInt 64 (c : Int)).toNat = (v ^^^ w) &&& c := by rw [BitVec.toNat_and, ofInt_nat h1, ofInt_nat hc]
 have e3 : (BitVec.ofInt 64 (((v ^^^ w) &&& c : Nat) : Int) &&& BitVec.ofInt 64 (d : Int)).toNat = (v ^^^ w) &&& c &&& d := by rw [BitVec.toNat_and, ofInt_nat h2, ofInt_nat hd]
 unfold clashE
 rw [e1, wrapU_nat h1, e2, wrapU_nat h2, e3, wrapU_nat h3, Bool.eq_iff_iff, bne_iff_ne, Bool.not_eq_true', decide_eq_false_iff_not]
 omega
structure SoundF (c : Cube) : Prop where
 wf : Cube.wf c
 bad : ∀ j, j < 12 → badAt c j = false
 fit : ∀ j : Nat, j < 12 → fitsT ((j : Nat) : Int) (c.Care.getD j 0) = true
theorem soundF {c : Cube} (w : Cube.wf c) (h : (textT c).2 = true) : SoundF c := by
 obtain ⟨h1, h2⟩ := textOk_parts c 12 0 _ h
 rw [refHead_eq] at h1
 unfold HeadOk at h1
 rw [List.all_eq_true] at h1
 exact ⟨w, fun j hj => h2 j (Nat.zero_le _) (by omega), fun j hj => h1 j (by rw [List.mem_range'_1]; omega)⟩
theorem meetF_eq {a b : Cube} (ha : SoundF a) (hb : SoundF b) : ∀ (r i : Nat), i + r = 12 → meetF a b r i = !clashF a b r i
 | 0, _, _ => rfl
 | r + 1, i, e => by
   obtain ⟨v, ev, hv⟩ := u64_range ha.wf.1 i
   obtain ⟨c, ec, hc⟩ := u64_range ha.wf.2 i
   obtain ⟨w, ew, hw⟩ := u64_range hb.wf.1 i
   obtain ⟨d, ed, hd⟩ := u64_range hb.wf.2 i
   rw [meetF, clashF, meetF_eq ha hb r (i + 1) (by omega), Bool.not_or]
   congr 1
   have hcn := care_lt ec (ha.fit i (by omega))
   rw [ev, ec, ew, ed, field_meet hv hc hw hd (sizeN_le i) hcn, clashE_nat hv hw hc hd, Bool.not_not]
def totS : Nat → Nat → Nat
 | 0, _ => 0
 | r + 1, i => sizeN i + totS r (i + 1)
theorem textS_tot (c : Cube) : ∀ (r i : Nat), (textS c r i).length = totS r i
 | 0, _ => rfl
 | r + 1, i => by rw [textS, totS, List.length_append, List.length_zipWith, bitsL_len, bitsL_len, textS_tot c r (i + 1), Nat.min_self]
theorem totS_le : ∀ (r i : Nat), totS r i ≤ r * 64
 | 0, _ => Nat.le_refl _
 | r + 1, i => by
   have := totS_le r (i + 1)
   have := sizeN_le i
   rw [totS]
   omega
theorem from_l1 (s : ByteArray) (hs : s.size ≤ 100000) (i : Nat) : ∀ (n m k at_ : Nat) (x y : List Int), at_ + n ≤ s.size → ((k + n : Nat) : Int) = sizeT ((i : Nat) : Int) → n < m → ∃ x' y', z27_l1 s i m ((at_ : Nat) : Int) ((k : Nat) : Int) x y = some (((at_ + n : Nat) : Int), x', y')
 | 0, m + 1, k, at_, x, y, h1, h2, h3 => by
   refine ⟨x, y, ?_⟩
   rw [z27_l1, decide_eq_false (by omega)]
   rfl
 | n + 1, m + 1, k, at_, x, y, h1, h2, h3 => by
   have hz := sizeT_in ((i : Nat) : Int)
   have hr : (decide (0 ≤ ((at_ : Nat) : Int)) && decide (((at_ : Nat) : Int) < ((s.size : Nat) : Int))) = true := by rw [decide_eq_true (by omega), decide_eq_true (by omega)]; rfl
   rw [z27_l1, decide_eq_true (by omega), cond_true, reqO_eq hr, wrap_succ (by omega), wrap_succ (by omega), show at_ + (n + 1) = (at_ + 1) + n by omega]
   rw [reqO_eq hr, reqO_eq hr]
   cases byteAt s ((at_ : Nat) : Int) != 120 <;> cases byteAt s ((at_ : Nat) : Int) == 49 <;> exact from_l1 s hs i n m (k + 1) (at_ + 1) _ _ (by omega) (by omega) (by omega)
theorem from_l0 (s : ByteArray) (hs : s.size ≤ 100000) : ∀ (r i at_ : Nat) (x y : List Int), at_ + totS r i ≤ s.size → ∃ z, z27_l0s 100 s r i ((at_ : Nat) : Int) x y = some z
 | 0, i, at_, x, y, h => ⟨_, rfl⟩
 | r + 1, i, at_, x, y, h => by
   have hz := sizeT_in ((i : Nat) : Int)
   have hn := sizeN_le i
   rw [totS] at h
   obtain ⟨x', y', e⟩ := from_l1 s hs i (sizeN i) 100 0 at_ x y (by omega) (by unfold sizeN; omega) (by omega)
   rw [z27_l0s, zero_nat, e, Option.bind_some]
   exact from_l0 s hs r (i + 1) (at_ + sizeN i) x' y' (by omega)
theorem from_some (s : ByteArray) (hs : s.size = totS 12 0) : ∃ c, z27_raw 100 s = some c := by
 have hl := totS_le 12 0
 obtain ⟨z, e⟩ := from_l0 s (by omega) 12 0 0 [0, 0, 0, 0, 0, 0, 0, 0, 0, 0, 0, 0] [0, 0, 0, 0, 0, 0, 0, 0, 0, 0, 0, 0] (by omega)
 refine ⟨⟨z.1, z.2⟩, ?_⟩
 rw [← zero_nat] at e
 rw [z27_raw, e]
 rfl
theorem nums_size (L : List Int) : (strOfNums L).size = L.length := by simp [strOfNums, ByteArray.size]
theorem ref_Meet_l0 (a b : Cube) : ∀ (m i : Nat) (out : List Int), i ≤ totS 12 0 → totS 12 0 - i < m → out.length = totS 12 0 →
  ∃ out', out'.length = totS 12 0 ∧ z16_l0 a b m ((i : Nat) : Int) out = some (if meetL ((textS a 12 0).drop i) ((textS b 12 0).drop i) then .inl out' else .inr (({ Value := [0, 0, 0, 0, 0, 0, 0, 0, 0, 0, 0, 0], Care := [0, 0, 0, 0, 0, 0, 0, 0, 0, 0, 0, 0] } : Cube), false))
 | 0, i, out, _, hm, _ => absurd hm (by omega)
 | m + 1, i, out, hi, hm, ho => by
   have hl := totS_le 12 0
   have la := textS_tot a 12 0
   have lb := textS_tot b 12 0
   have e1 : (textT a).1 = strOfNums (textS a 12 0) := rfl
   have e2 : (textT b).1 = strOfNums (textS b 12 0) := rfl
   rw [z16_l0, e1, e2, nums_size, nums_size]
   by_cases hlt : i < totS 12 0
   ·have ha : i < (textS a 12 0).length := by omega
    have hb : i < (textS b 12 0).length := by omega
    rw [decide_eq_true (by omega), cond_true, byteAt_nums _ (text_bytes a 12 0) ha, byteAt_nums _ (text_bytes b 12 0) hb, wrap_succ (by omega), List.drop_eq_getElem_cons ha, List.drop_eq_getElem_cons hb, meetL]
    have r1 : (decide (0 ≤ (i : Int)) && true) = true := by rw [decide_eq_true (by omega)]; rfl
    have r2 : (decide (0 ≤ (i : Int)) && decide ((i : Int) < (((textS b 12 0).length : Nat) : Int))) = true := by rw [decide_eq_true (by omega), decide_eq_true (by omega)]; rfl
    have ih := fun out h => ref_Meet_l0 a b m (i + 1) out (by omega) (by omega) h
    rw [reqO_eq r1, reqO_eq r2, ixO_lt (by omega : i < out.length), Option.bind_some, Int.toNat_natCast]
    cases h1 : (textS a 12 0)[i] == 120 with
    | true => exact ih _ (by rw [List.length_set]; exact ho)
    | false =>
     rw [cond_false, reqO_eq r2, bne, bne]
     cases h2 : (textS b 12 0)[i] == 120 with
     | true => exact ih _ ho
     | false =>
      rw [Bool.not_false, cond_true, reqO_eq r1, reqO_eq r2]
      cases h3 : (textS a 12 0)[i] == (textS b 12 0)[i] with
      | true => exact ih _ ho
      | false => exact ⟨out, ho, rfl⟩
   ·refine ⟨out, ho, ?_⟩
    rw [decide_eq_false (by omega), cond_false, List.drop_eq_nil_of_le (by omega), List.drop_eq_nil_of_le (by omega)]
    rfl
theorem both_eq {a b : Cube} (wa : Cube.wf a) (wb : Cube.wf b) : z40 a b = ((textT a).2 && (textT b).2) := by
 rw [z40, z37_eq wa, z37_eq wb]
 rfl
theorem ref_Meet_eq {a b : Cube} (wa : Cube.wf a) (wb : Cube.wf b) : ∃ c, z16_raw 1000 a b = some (c, (z30 a b).2) := by
 rw [z16_raw, z30_eq, both_eq wa wb]
 have hl := totS_le 12 0
 cases ha : (textT a).2 with
 | false => exact ⟨_, rfl⟩
 | true =>
  cases hb : (textT b).2 with
  | false => exact ⟨_, rfl⟩
  | true =>
   have la := textS_tot a 12 0
   have hm := meetF_eq (soundF wa ha) (soundF wb hb) 12 0 rfl
   have e1 : (textT a).1 = strOfNums (textS a 12 0) := rfl
   obtain ⟨out, h1, h2⟩ := ref_Meet_l0 a b 1000 0 (numsOf (textT a).1) (by omega) (by omega) (by rw [e1, numsOf_length, nums_size, la])
   rw [List.drop_zero, List.drop_zero, meetL_fields, hm] at h2
   rw [Bool.not_true, Bool.or_false, cond_false, fitO_eq (by rw [e1, nums_size, la]; omega), zero_nat, h2]
   cases clashF a b 12 0 with
   | true => exact ⟨_, rfl⟩
   | false =>
    obtain ⟨c, hc⟩ := from_some (strOfNums out) (by rw [nums_size, h1])
    refine ⟨c, ?_⟩
    show (z27_raw 100 (strOfNums out)).bind _ = _
    rw [hc]
    rfl
end Go.Proofs.Ytamgbggpbehflaa
namespace Go.Proofs.Ytamgbggpbehflaa
open Go.Sh
noncomputable def z9_F : Go.Sh.Fn := ⟨9, bodyOf Try.f9, 49⟩
def z9_l1s (x : Region) : List Region → Option (Sum (Unit) (Bool))
 | [] =>
  some (.inl ())
 | x1 :: rest1 =>
  (z16_raw 1000 x.Cube x1.Cube).bind fun x2 =>
  (bif (x2.2 && (x.Unit == x1.Unit)) then
   some (.inr true)
  else
   z9_l1s x rest1 )
theorem z9_l1_walk (a : List Region) (b : List Region) (i : Nat) (x : Region) (hv_i : ixO a ((i : Nat) : Int) = some x) (f_a : Bool) (f_b : Bool) (r : Bool) (c0 : Ctx) (hc0 : c0.m.length = 0) (res : Sum (Unit) (Bool)) (J : ∀ w : Unit, res = .inl w → AX Try.prog tab z9_F c0 (Rp tab.S c0 (.sc (.bool r)) []) (some ⟨[.blk 1, .code [1, 0, 1, 0, 0, 1, 1], .loop [1, 0, 1, 0], .blk 0, .code [1, 1]], [(0, .sl 42 (List.map Region.av a) f_a), (1, .sl 42 (List.map Region.av b) f_b), (5, .sc (.int .i64 ((i : Nat) : Int)))], []⟩)) (Jr : ∀ w, res = .inr w → w = r) :
  ∀ (rest1 : List Region) (k1 : Nat) (z : Int) (hI : z = ((k1 : Nat) : Int)) (hd : b.drop k1 = rest1) (H : z9_l1s x rest1 = some res), AX Try.prog tab z9_F c0 (Rp tab.S c0 (.sc (.bool r)) []) (some ⟨[.code [1, 0, 1, 0, 0, 1, 0, 0, 1, 0, 0], .loop [1, 0, 1, 0, 0, 1, 0, 0, 1, 0], .blk 2, .blk 1, .code [1, 0, 1, 0, 0, 1, 1], .loop [1, 0, 1, 0], .blk 0, .code [1, 1]], [(0, .sl 42 (List.map Region.av a) f_a), (1, .sl 42 (List.map Region.av b) f_b), (5, .sc (.int .i64 ((i : Nat) : Int))), (6, .sc (.int .i64 z))], []⟩) := by
 intro rest1
 induction rest1 with
 | nil =>
  intro k1 z hI hd  H
  subst hI
  rw [z9_l1s] at H
  refine .facts 1 fun hf => ?_
  have hlen : b.length ≤ 9223372036854775807 := by have hq := len_ok hf.2.1; rw [List.length_map] at hq; exact hq
  have hge : b.length ≤ k1 := List.drop_eq_nil_iff.1 hd
  have hc : (decide (((k1 : Nat) : Int) < (((List.map Region.av b).length : Nat) : Int))) = false := by rw [List.length_map]; exact decide_eq_false (by omega)
  exact .sg 3 [0,1,5,6,18] (.cdF hc (.sg 1 [0,1,5] (.kp [0,1,5] (.to (J () (Option.some.inj H).symm)))))
 | cons x1 rest1 ih =>
  intro k1 z hI hd  H
  subst hI
  rw [z9_l1s] at H
  refine .facts 1 fun hf => ?_
  have hlen : b.length ≤ 9223372036854775807 := by have hq := len_ok hf.2.1; rw [List.length_map] at hq; exact hq
  obtain ⟨hlt, hv_k1, hd2⟩ := drop_cons hd
  have hc : (decide (((k1 : Nat) : Int) < (((List.map Region.av b).length : Nat) : Int))) = true := by rw [List.length_map]; exact decide_eq_true (by omega)
  have hw : IntKind.i64.wrap (((k1 : Nat) : Int) + 1) = ((k1 + 1 : Nat) : Int) := wrapI_succ (by omega)
  refine .sg 3 [0,1,5,6,18] (.cdT hc (.sg 4 [0,1,5,6] (.rg (.sg 2 [0,1,5,6,22,23] (.xi [0,1,5,6,24] Region.av hv_i (.sg 4 [0,1,5,6,26,27,28] (.xi [0,1,5,6,26,29] Region.av hv_k1 (.sg 2 [0,1,5,6,26,31] (bndO H fun x2 hv H => (.cp [0,1,5,6,32] ((z16_walk 1000) _ _ x2 hv) (.sg 6 [0,1,5,6,8] (.dn (.sg 1 [0,1,5,6,8] (.rg (.sg 2 [0,1,5,6,36] (.mm 36 x2.2 12 [.pure, .pure, .pure, .pure, .pure, .pure, .pure, .pure, .pure, .pure, .pure, .pure] [0, 1, 5, 6, 48] 48 (fun z => .sc (.bool (z && (x.Unit == x1.Unit)))) ?J1 (fun hb J => ?ht1) (fun hb J => ?hf1)))))))))))))))))
  case ht1 =>
   exact .sg 2 [0,1,5,6,36,37,38] (.xi [0,1,5,6,36,39] Region.av hv_i (.sg 4 [0,1,5,6,36,41,42,43] (.xi [0,1,5,6,36,41,44] Region.av hv_k1 (.sg 4 [0,1,5,6,48] (.cl J)))))
  case hf1 =>
   exact .sg 12 [0,1,5,6,48] (.cl J)
  refine .dn (.cd (x2.2 && (x.Unit == x1.Unit)) H (fun hb H => ?_) (fun hb H => ?_))
  ·
   refine .sg 2 [4] ?_
   obtain rfl := Option.some.inj H
   obtain rfl := Jr _ rfl
   exact .ret Try.func9 hc0
  ·
   exact .sg 3 [0,1,5,6] (.tl hc0 [] [0,1,5,6] (.into (.cl (ih (k1 + 1) _ hw hd2 H))))
def z9_l0s (b : List Region) : List Region → Option (Sum (Unit) (Bool))
 | [] =>
  some (.inl ())
 | x :: rest =>
  loopP (z9_l1s x b) fun v =>
  z9_l0s b rest
theorem z9_l0_walk (a : List Region) (b : List Region) (f_a : Bool) (f_b : Bool) (r : Bool) (c0 : Ctx) (hc0 : c0.m.length = 0) (res : Sum (Unit) (Bool)) (J : ∀ w : Unit, res = .inl w → AX Try.prog tab z9_F c0 (Rp tab.S c0 (.sc (.bool r)) []) (some ⟨[.code [1, 1]], [], []⟩)) (Jr : ∀ w, res = .inr w → w = r) :
  ∀ (rest : List Region) (i : Nat) (z : Int) (hI : z = ((i : Nat) : Int)) (hd : a.drop i = rest) (H : z9_l0s b rest = some res), AX Try.prog tab z9_F c0 (Rp tab.S c0 (.sc (.bool r)) []) (some ⟨[.code [1, 0, 1, 0, 0], .loop [1, 0, 1, 0], .blk 0, .code [1, 1]], [(0, .sl 42 (List.map Region.av a) f_a), (1, .sl 42 (List.map Region.av b) f_b), (5, .sc (.int .i64 z))], []⟩) := by
 intro rest
 induction rest with
 | nil =>
  intro i z hI hd  H
  subst hI
  rw [z9_l0s] at H
  refine .facts 0 fun hf => ?_
  have hlen : a.length ≤ 9223372036854775807 := by have hq := len_ok hf.2.1; rw [List.length_map] at hq; exact hq
  have hge : a.length ≤ i := List.drop_eq_nil_iff.1 hd
  have hc : (decide (((i : Nat) : Int) < (((List.map Region.av a).length : Nat) : Int))) = false := by rw [List.length_map]; exact decide_eq_false (by omega)
  exact .sg 3 [0,1,5,12] (.cdF hc (.sg 1 [] (.kp [] (.to (J () (Option.some.inj H).symm)))))
 | cons x rest ih =>
  intro i z hI hd  H
  subst hI
  rw [z9_l0s] at H
  refine .facts 0 fun hf => ?_
  have hlen : a.length ≤ 9223372036854775807 := by have hq := len_ok hf.2.1; rw [List.length_map] at hq; exact hq
  obtain ⟨hlt, hv_i, hd2⟩ := drop_cons hd
  have hc : (decide (((i : Nat) : Int) < (((List.map Region.av a).length : Nat) : Int))) = true := by rw [List.length_map]; exact decide_eq_true (by omega)
  have hw : IntKind.i64.wrap (((i : Nat) : Int) + 1) = ((i + 1 : Nat) : Int) := wrapI_succ (by omega)
  refine .sg 3 [0,1,5,12] (.cdT hc (.sg 6 [0,1,5,6] ?_))
  rcases loopP_some H with ⟨v, hv, H⟩ | ⟨r1, hv, hr1⟩
  case inr =>
   refine .into ?_
   subst hr1
   obtain rfl := Jr _ rfl
   exact .to (z9_l1_walk a b i x hv_i f_a f_b _ c0 hc0 (.inr _) (fun _ e => by cases e) (fun _ e => (Sum.inr.inj e).symm) b 0 _ rfl rfl hv)
  refine .into (.to (z9_l1_walk a b i x hv_i f_a f_b r c0 hc0 (.inl v) (fun w e => ?_) (fun _ e => by cases e) b 0 _ rfl rfl hv))
  have e := Sum.inl.inj e
  subst e
  exact .sg 2 [0,1,5] (.kp [0,1,5] (.into (.cl (ih (i + 1) _ hw hd2 H))))
def z9_raw (a : List Region) (b : List Region) : Option (Bool) :=
 loopO (z9_l0s b a) fun v =>
 some false
theorem z9_walk (a : List Region) (b : List Region) (f_a : Bool) (f_b : Bool) (r : Bool) (H : z9_raw a b = some r) : ACalls Try.prog tab.S 9 [.sl 42 (List.map Region.av a) f_a, .sl 42 (List.map Region.av b) f_b] [] (.sc (.bool r)) [] := by
 refine .of_AX z9_F Try.func9 fun c0 hc0 => ?_
 rw [z9_raw] at H
 refine .sg 6 [0,1,5] ?_
 rcases loopO_some H with ⟨v, hv, H⟩ | hv
 case inr =>
  exact .into (.to (z9_l0_walk a b f_a f_b _ c0 hc0 (.inr _) (fun _ e => by cases e) (fun _ e => (Sum.inr.inj e).symm) a 0 _ rfl rfl hv))
 refine .into (.to (z9_l0_walk a b f_a f_b r c0 hc0 (.inl v) (fun w e => ?_) (fun _ e => by cases e) a 0 _ rfl rfl hv))
 have e := Sum.inl.inj e
 subst e
 refine .sg 2 [4] ?_
 obtain rfl := Option.some.inj H
 exact .ret Try.func9 hc0
theorem touch_l1 (x : Region) (wx : Region.wf x) : ∀ b : List Region, (∀ y ∈ b, Region.wf y) → z9_l1s x b = some (if z28 x b then .inr true else .inl ())
 | [], _ => by
  rw [z9_l1s, z28, z26_any]
  rfl
 | y :: rest, h => by
  obtain ⟨c, hc⟩ := ref_Meet_eq wx.2 (h y List.mem_cons_self).2
  rw [z9_l1s, hc, Option.bind_some, touch_l1 x wx rest (fun z hz => h z (List.mem_cons_of_mem _ hz))]
  rw [z28, z28, z26_any, z26_any, List.any_cons]
  dsimp only
  rw [z29]
  cases (z30 x.Cube y.Cube).2 && (x.Unit == y.Unit) with
  | true => rfl
  | false => rfl
theorem touch_l0 (b : List Region) (hb : ∀ y ∈ b, Region.wf y) : ∀ a : List Region, (∀ y ∈ a, Region.wf y) → z9_l0s b a = some (if z17 a b then .inr true else .inl ())
 | [], _ => by
  rw [z9_l0s, z17, z26_any]
  rfl
 | x :: rest, h => by
  rw [z9_l0s, touch_l1 x (h x List.mem_cons_self) b hb, touch_l0 b hb rest (fun z hz => h z (List.mem_cons_of_mem _ hz))]
  rw [z17, z17, z26_any, z26_any, List.any_cons]
  cases z28 x b with
  | true => rfl
  | false => rfl
theorem Touch_eq {a b : List Region} (ha : ∀ y ∈ a, Region.wf y) (hb : ∀ y ∈ b, Region.wf y) : z9_raw a b = some (z17 a b) := by
 rw [z9_raw, touch_l0 b hb a ha]
 cases z17 a b <;> rfl
theorem lookM_none {V : Type} (k : Int) : ∀ m : List (Int × V), lookM k m = none → k ∉ m.map (·.1)
 | [], _ => by simp
 | p :: m, h => by
  rw [lookM] at h
  split at h
  ·cases h
  ·rename_i hk
   rw [List.map_cons, List.mem_cons]
   rintro (e | e)
   ·exact hk e
   ·exact lookM_none k m h e
theorem hasM_false {V : Type} {k : Int} {m : List (Int × V)} (h : hasM k m = false) : k ∉ m.map (·.1) := by
 unfold hasM at h
 cases hl : lookM k m with
 | none => exact lookM_none k m hl
 | some v => rw [hl] at h; cases h
theorem hasM_true {V : Type} {k : Int} : ∀ {m : List (Int × V)}, hasM k m = true → k ∈ m.map (·.1)
 | [], h => by cases h
 | p :: m, h => by
  unfold hasM at h
  rw [lookM] at h
  split at h
  ·rename_i hk
   rw [hk]; exact List.mem_cons_self
  ·exact List.mem_cons_of_mem _ (hasM_true (m := m) (by unfold hasM; exact h))
theorem ixO_at {α : Type} {l : List α} {i : Nat} {x : α} (h : l[i]? = some x) : ixO l ((i : Nat) : Int) = some x := by
 unfold ixO
 rw [if_pos (by omega), Int.toNat_natCast, h]
theorem fitM {α : Type} {n b : Nat} (h : n * b ≤ 140737488355328) (r : Option α) : fitO n b r = r := by
 unfold fitO
 rw [if_pos h]
theorem sortK_len (l : List Int) : (sortK l).length = l.length := by
 unfold sortK
 exact List.length_mergeSort l
structure Held (n : Nat) (o : List (Int × List Region)) (who : List Int) (what : List (List Region)) : Prop where
 zip : o = who.zip what
 len : who.length = what.length
 most : who.length ≤ n
 nd : who.Nodup
 rng : ∀ w ∈ who, -9223372036854775808 ≤ w ∧ w ≤ 9223372036854775807
 wf : ∀ r ∈ what, ∀ y ∈ r, Region.wf y
 apart : ∀ (i k : Nat) (x y : List Region), k < i → what[i]? = some x → what[k]? = some y → z17 x y = false
theorem Held.keys {n : Nat} {o : List (Int × List Region)} {who : List Int} {what : List (List Region)} (h : Held n o who what) : o.map (·.1) = who := by
 rw [h.zip]
 exact List.map_fst_zip (Nat.le_of_eq h.len)
theorem Held.vals {n : Nat} {o : List (Int × List Region)} {who : List Int} {what : List (List Region)} (h : Held n o who what) : o.map (·.2) = what := by
 rw [h.zip]
 exact List.map_snd_zip (Nat.le_of_eq h.len.symm)
theorem Held.ok {n : Nat} {o : List (Int × List Region)} {who : List Int} {what : List (List Region)} (h : Held n o who what) (hn : n ≤ 1000) : keysOk o = true := by
 have hk := h.keys
 have hl : o.length = who.length := by rw [← hk, List.length_map]
 have := h.most
 unfold keysOk
 rw [hk, decide_eq_true (show o.length * 8 ≤ 140737488355328 by omega), decide_eq_true h.nd, Bool.true_and, Bool.and_true, List.all_eq_true]
 intro p hp
 have : p.1 ∈ who := by rw [← hk]; exact List.mem_map_of_mem hp
 obtain ⟨h1, h2⟩ := h.rng _ this
 rw [decide_eq_true h1, decide_eq_true h2]
 rfl
theorem Held.push {n : Nat} {o : List (Int × List Region)} {who : List Int} {what : List (List Region)} (h : Held n o who what) {t : Int} {r : List Region} (h1 : t ∉ who) (h2 : ∀ y ∈ what, z17 r y = false) (ht : -9223372036854775808 ≤ t ∧ t ≤ 9223372036854775807) (hr : ∀ y ∈ r, Region.wf y) : Held (n + 1) (o ++ [(t, r)]) (who ++ [t]) (what ++ [r]) where
 zip := by
  rw [h.zip, List.zip_append h.len]
  rfl
 len := by rw [List.length_append, List.length_append, h.len]; rfl
 most := by have := h.most; rw [List.length_append, List.length_singleton]; omega
 nd := by
  rw [List.nodup_append]
  refine ⟨h.nd, by simp, fun a ha b hb => ?_⟩
  rw [List.mem_singleton.1 hb]
  rintro rfl
  exact h1 ha
 rng := fun w hw => by
  rcases List.mem_append.1 hw with hw | hw
  ·exact h.rng w hw
  ·rw [List.mem_singleton.1 hw]; exact ht
 wf := fun x hx => by
  rcases List.mem_append.1 hx with hx | hx
  ·exact h.wf x hx
  ·rw [List.mem_singleton.1 hx]; exact hr
 apart := fun i k x y hik hx hy => by
  have hi := (List.getElem?_eq_some_iff.1 hx).1
  rw [List.length_append, List.length_singleton] at hi
  rw [List.getElem?_append_left (by omega)] at hy
  by_cases he : i = what.length
  ·subst he
   rw [List.getElem?_append_right (Nat.le_refl _), Nat.sub_self] at hx
   injection hx with hx
   rw [← hx]
   exact h2 y (List.mem_iff_getElem?.2 ⟨k, hy⟩)
  ·rw [List.getElem?_append_left (by omega)] at hx
   exact h.apart i k x y hik hx hy
theorem Held.take {n : Nat} {o : List (Int × List Region)} {who : List Int} {what : List (List Region)} (h : Held n o who what) {t : Int} {r : List Region} (ht : -9223372036854775808 ≤ t ∧ t ≤ 9223372036854775807) (hr : ∀ y ∈ r, Region.wf y) :
  (t ∈ who ∧ z11 { held := o } t r = (5, { held := o })) ∨ (t ∉ who ∧ (∃ y ∈ what, z17 r y = true) ∧ z11 { held := o } t r = (9, { held := o })) ∨
  (t ∉ who ∧ (∀ y ∈ what, z17 r y = false) ∧ z11 { held := o } t r = (0, { held := o ++ [(t, r)] }) ∧ Held (n + 1) (o ++ [(t, r)]) (who ++ [t]) (what ++ [r])) := by
 rw [z11]
 dsimp only
 cases h1 : hasM t o with
 | true =>
  have := hasM_true h1
  rw [h.keys] at this
  exact .inl ⟨this, rfl⟩
 | false =>
  have hn := hasM_false h1
  rw [h.keys] at hn
  rw [cond_false]
  cases h2 : o.any (fun p => z17 r p.2) with
  | true =>
   obtain ⟨p, hp, hT⟩ := List.any_eq_true.1 h2
   exact .inr (.inl ⟨hn, ⟨p.2, by rw [← h.vals]; exact List.mem_map_of_mem hp, hT⟩, rfl⟩)
  | false =>
   have hall : ∀ y ∈ what, z17 r y = false := by
    intro y hy
    rw [← h.vals] at hy
    obtain ⟨p, hp, rfl⟩ := List.mem_map.1 hy
    have := List.any_eq_false.1 h2 p hp
    simpa using this
   rw [cond_false]
   have hput : putM t r o = o ++ [(t, r)] := by rw [putM, h1]; rfl
   rw [hput]
   exact .inr (.inr ⟨hn, hall, rfl, h.push hn hall ht hr⟩)
theorem Held.nil : Held 0 [] [] [] := ⟨rfl, rfl, Nat.le_refl _, List.nodup_nil, (fun w hw => by cases hw), (fun w hw => by cases hw), (fun i k x y _ hx => by cases hx)⟩
theorem Held.more {n m : Nat} {o : List (Int × List Region)} {who : List Int} {what : List (List Region)} (h : Held n o who what) (hm : n ≤ m) : Held m o who what := { h with most := Nat.le_trans h.most hm }
end Go.Proofs.Ytamgbggpbehflaa
namespace Go.Proofs.Ytamgbggpbehflaa
open Go.Sh
open Go.ChangeShapes Go.WideShapes Go.ChangeAt Go.RowKit
def Act.wf (x : Act) : Prop := intW .i64 x.Txn ∧ True ∧ (∀ y ∈ x.R, Region.wf y)
theorem Act.shaped {gs : List AV} (h : Shaped tab 33 gs) : ∃ x : Act, gs = [.sc (.int .i64 x.Txn), .sc (.bool x.Drop), .sl 42 (List.map Region.av x.R) false] ∧ x.wf := by
 obtain ⟨gss, rfl, hl, hf⟩ := Shaped.struct_inv (fl := [(0, 3), (1, 4), (2, 31)]) (by kernel_rfl) h
 match gss, hl, hf with
 | [g0, g1, g2], _, hf =>
  obtain ⟨x0, rfl, w0⟩ := Shaped.int_inv (k := .i64) (by kernel_rfl) (hf 0 _ _ rfl rfl)
  obtain ⟨x1, rfl⟩ := Shaped.bool_inv (by kernel_rfl) (hf 1 _ _ rfl rfl)
  obtain ⟨q2, rfl, hq2⟩ := Shaped.slice_inv (e := 42) (by kernel_rfl) (hf 2 _ _ rfl rfl)
  obtain ⟨x2, hx2, w2⟩ := rows_typedW (G := tab) (e := 42) (av := Region.av) (wf := fun y => Region.wf y) q2 (fun g hg => by obtain ⟨x, rfl, w⟩ := Region.shaped (hq2 g hg); exact ⟨x, (by kernel_rfl), w⟩)
  rw [hx2]; exact ⟨⟨x0, x1, x2⟩, rfl, ⟨w0, trivial, w2⟩⟩
end Go.Proofs.Ytamgbggpbehflaa