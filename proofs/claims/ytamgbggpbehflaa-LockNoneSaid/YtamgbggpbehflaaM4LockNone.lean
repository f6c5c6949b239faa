import Derived.Test.YtamgbggpbehflaaProg
import Derived.Shelf.SlIterI.Nil
import Derived.Shelf.SortM.Plain
import Derived.Shelf.SortM.SortNone
import Derived.Test.YtamgbggpbehflaaM3LockNone
set_option linter.unusedVariables false
set_option linter.unusedSimpArgs false
set_option maxRecDepth 100000
set_option maxHeartbeats 4000000
namespace Go.Proofs.Ytamgbggpbehflaa
open Go.Sh
def tab : Go.Sh.Tab := [
 (1, ⟨.other, 1, 8, [.sc .nilFunc]⟩),
 (2, ⟨.int .i64, 1, 8, [.sc (.int .i64 0)]⟩),
 (3, ⟨.int .i64, 1, 8, [.sc (.int .i64 0)]⟩),
 (4, ⟨.bool, 1, 1, [.sc (.bool false)]⟩),
 (5, ⟨.int .u8, 1, 1, [.sc (.int .u8 0)]⟩),
 (9, ⟨.str, 1, 16, [.sc (.string ⟨#[]⟩)]⟩),
 (12, ⟨.int .u64, 1, 8, [.sc (.int .u64 0)]⟩),
 (13, ⟨.struct [(0, 9), (1, 12)], 2, 24, [.sc (.string ⟨#[]⟩), .sc (.int .u64 0)]⟩),
 (21, ⟨.int .i32, 1, 4, [.sc (.int .i32 0)]⟩),
 (22, ⟨.slice 33, 1, 24, [.sl 0 [] true]⟩),
 (23, ⟨.int .u64, 1, 8, [.sc (.int .u64 0)]⟩),
 (24, ⟨.arr 12 23, 12, 96, [.arr .u64 12 [0, 0, 0, 0, 0, 0, 0, 0, 0, 0, 0, 0]]⟩),
 (25, ⟨.arr 12 23, 12, 96, [.arr .u64 12 [0, 0, 0, 0, 0, 0, 0, 0, 0, 0, 0, 0]]⟩),
 (26, ⟨.other, 1, 8, [.sc .nilFunc]⟩),
 (27, ⟨.ptr 53, 1, 8, [.sc (.pointer none)]⟩),
 (28, ⟨.other, 1, 8, [.sc .nilFunc]⟩),
 (29, ⟨.slice 3, 1, 24, [.sl 0 [] true]⟩),
 (30, ⟨.slice 31, 1, 24, [.sl 0 [] true]⟩),
 (31, ⟨.slice 42, 1, 24, [.sl 0 [] true]⟩),
 (32, ⟨.struct [(0, 3), (1, 4), (2, 31)], 3, 40, [.sc (.int .i64 0), .sc (.bool false), .sl 0 [] true]⟩),
 (33, ⟨.struct [(0, 3), (1, 4), (2, 31)], 3, 40, [.sc (.int .i64 0), .sc (.bool false), .sl 0 [] true]⟩),
 (34, ⟨.int .i64, 1, 8, [.sc (.int .i64 0)]⟩),
 (35, ⟨.other, 1, 8, [.sc .nilFunc]⟩),
 (36, ⟨.other, 1, 8, [.sc .nilFunc]⟩),
 (37, ⟨.other, 1, 8, [.sc .nilFunc]⟩),
 (38, ⟨.other, 1, 8, [.sc .nilFunc]⟩),
 (39, ⟨.struct [(0, 25), (12, 25)], 24, 192, [.arr .u64 12 [0, 0, 0, 0, 0, 0, 0, 0, 0, 0, 0, 0], .arr .u64 12 [0, 0, 0, 0, 0, 0, 0, 0, 0, 0, 0, 0]]⟩),
 (40, ⟨.struct [(0, 25), (12, 25)], 24, 192, [.arr .u64 12 [0, 0, 0, 0, 0, 0, 0, 0, 0, 0, 0, 0], .arr .u64 12 [0, 0, 0, 0, 0, 0, 0, 0, 0, 0, 0, 0]]⟩),
 (41, ⟨.struct [(0, 3), (1, 40)], 25, 200, [.sc (.int .i64 0), .arr .u64 12 [0, 0, 0, 0, 0, 0, 0, 0, 0, 0, 0, 0], .arr .u64 12 [0, 0, 0, 0, 0, 0, 0, 0, 0, 0, 0, 0]]⟩),
 (42, ⟨.struct [(0, 3), (1, 40)], 25, 200, [.sc (.int .i64 0), .arr .u64 12 [0, 0, 0, 0, 0, 0, 0, 0, 0, 0, 0, 0], .arr .u64 12 [0, 0, 0, 0, 0, 0, 0, 0, 0, 0, 0, 0]]⟩),
 (43, ⟨.other, 1, 8, [.sc .nilFunc]⟩),
 (45, ⟨.other, 1, 8, [.sc .nilFunc]⟩),
 (46, ⟨.other, 1, 8, [.sc .nilFunc]⟩),
 (47, ⟨.other, 1, 8, [.sc .nilFunc]⟩),
 (48, ⟨.other, 1, 8, [.sc .nilFunc]⟩),
 (49, ⟨.other, 1, 8, [.sc .nilFunc]⟩),
 (50, ⟨.other, 1, 8, [.sc .nilFunc]⟩),
 (51, ⟨.other, 1, 8, [.sc (.map none)]⟩),
 (52, ⟨.struct [(0, 51)], 1, 8, [.sc (.map none)]⟩),
 (53, ⟨.struct [(0, 51)], 1, 8, [.sc (.map none)]⟩),
 (55, ⟨.other, 1, 8, [.sc .nilFunc]⟩),
 (57, ⟨.other, 1, 8, [.sc .nilFunc]⟩),
 (58, ⟨.other, 1, 8, [.sc .nilFunc]⟩),
 (59, ⟨.other, 1, 8, [.sc .nilFunc]⟩),
 (60, ⟨.other, 1, 8, [.sc .nilFunc]⟩),
 (61, ⟨.other, 1, 8, [.sc .nilFunc]⟩),
 (63, ⟨.other, 1, 8, [.sc .nilFunc]⟩),
 (64, ⟨.other, 1, 8, [.sc .nilFunc]⟩),
 (65, ⟨.other, 1, 8, [.sc .nilFunc]⟩),
 (66, ⟨.other, 1, 8, [.sc .nilFunc]⟩),
 (67, ⟨.other, 1, 8, [.sc .nilFunc]⟩),
 (68, ⟨.slice 5, 1, 24, [.sl 0 [] true]⟩),
 (69, ⟨.other, 1, 8, [.sc .nilFunc]⟩),
 (70, ⟨.other, 1, 8, [.sc .nilFunc]⟩),
 (71, ⟨.slice 4, 1, 24, [.sl 0 [] true]⟩),
 (72, ⟨.other, 1, 8, [.sc .nilFunc]⟩),
 (73, ⟨.other, 1, 8, [.sc .nilFunc]⟩),
 (74, ⟨.other, 1, 8, [.sc .nilFunc]⟩),
 (75, ⟨.other, 1, 8, [.sc .nilFunc]⟩),
 (76, ⟨.other, 1, 8, [.sc .nilFunc]⟩),
 (77, ⟨.other, 1, 8, [.sc .nilFunc]⟩),
 (78, ⟨.other, 1, 8, [.sc .nilFunc]⟩),
 (79, ⟨.other, 1, 8, [.sc .nilFunc]⟩),
 (80, ⟨.other, 1, 8, [.sc .nilFunc]⟩),
 (81, ⟨.int .u64, 1, 8, [.sc (.int .u64 0)]⟩),
 (82, ⟨.other, 1, 8, [.sc .nilFunc]⟩),
 (83, ⟨.other, 1, 8, [.sc .nilFunc]⟩),
 (84, ⟨.int .i64, 1, 8, [.sc (.int .i64 0)]⟩),
 (86, ⟨.other, 1, 8, [.sc .nilFunc]⟩),
 (87, ⟨.other, 1, 8, [.sc .nilFunc]⟩),
 (88, ⟨.other, 1, 8, [.sc .nilFunc]⟩),
 (89, ⟨.other, 1, 8, [.sc .nilFunc]⟩),
 (90, ⟨.other, 1, 8, [.sc .nilFunc]⟩),
 (91, ⟨.other, 1, 8, [.sc .nilFunc]⟩),
 (92, ⟨.int .u32, 1, 4, [.sc (.int .u32 0)]⟩),
 (93, ⟨.other, 1, 8, [.sc .nilFunc]⟩),
 (94, ⟨.int .u64, 1, 8, [.sc (.int .u64 0)]⟩),
 (95, ⟨.other, 1, 8, [.sc .nilFunc]⟩),
 (96, ⟨.other, 1, 8, [.sc .nilFunc]⟩),
 (97, ⟨.other, 1, 8, [.sc .nilFunc]⟩),
 (98, ⟨.ptr 3, 1, 8, [.sc (.pointer none)]⟩),
 (99, ⟨.other, 1, 8, [.sc .nilFunc]⟩),
 (100, ⟨.struct [(0, 9), (1, 3)], 2, 24, [.sc (.string ⟨#[]⟩), .sc (.int .i64 0)]⟩),
 (101, ⟨.struct [(0, 9), (1, 3)], 2, 24, [.sc (.string ⟨#[]⟩), .sc (.int .i64 0)]⟩),
 (102, ⟨.arr 12 101, 24, 288, [.sc (.string ⟨#[]⟩), .sc (.int .i64 0), .sc (.string ⟨#[]⟩), .sc (.int .i64 0), .sc (.string ⟨#[]⟩), .sc (.int .i64 0), .sc (.string ⟨#[]⟩), .sc (.int .i64 0), .sc (.string ⟨#[]⟩), .sc (.int .i64 0), .sc (.string ⟨#[]⟩), .sc (.int .i64 0), .sc (.string ⟨#[]⟩), .sc (.int .i64 0), .sc (.string ⟨#[]⟩), .sc (.int .i64 0), .sc (.string ⟨#[]⟩), .sc (.int .i64 0), .sc (.string ⟨#[]⟩), .sc (.int .i64 0), .sc (.string ⟨#[]⟩), .sc (.int .i64 0), .sc (.string ⟨#[]⟩), .sc (.int .i64 0)]⟩),
 (103, ⟨.other, 1, 8, [.sc .nilFunc]⟩),
 (104, ⟨.ptr 94, 1, 8, [.sc (.pointer none)]⟩),
 (106, ⟨.other, 1, 8, [.sc .nilFunc]⟩),
 (107, ⟨.other, 1, 8, [.sc .nilFunc]⟩),
 (113, ⟨.other, 1, 8, [.sc .nilFunc]⟩),
 (116, ⟨.other, 1, 8, [.sc .nilFunc]⟩),
 (117, ⟨.ptr 5, 1, 8, [.sc (.pointer none)]⟩)]
theorem tab_ok : tab.ok Try.prog := Tab.ok_of (by kernel_rfl)
theorem mixed : Try.prog.follows .mixedOrders = true := by kernel_rfl
end Go.Proofs.Ytamgbggpbehflaa
namespace Go.Proofs.Ytamgbggpbehflaa
open Go.Sh
instance : Ok Try.prog tab := ⟨tab_ok, mixed⟩
theorem reqO_eq {α : Type} {b : Bool} {r : Option α} (h : b = true) : reqO b r = r := by
 subst h; rfl
def sizes : List Int := [16, 48, 48, 16, 12, 4, 32, 32, 8, 8, 12, 12]
def sizeT (n : Int) : Int := if 0 ≤ n ∧ n < 12 then sizes.getD n.toNat 0 else 0
theorem sizeT_cases (n : Int) : (¬ (0 ≤ n ∧ n < 12) ∧ sizeT n = 0) ∨ (0 ≤ n ∧ n < 12 ∧ ∃ k : Nat, n = k ∧ k < 12 ∧ sizeT n = sizes.getD k 0) := by
 by_cases h : 0 ≤ n ∧ n < 12
 ·refine .inr ⟨h.1, h.2, n.toNat, by omega, by omega, ?_⟩
  unfold sizeT; rw [if_pos h]
 ·refine .inl ⟨h, ?_⟩
  unfold sizeT; rw [if_neg h]
theorem sizes_in : ∀ k : Nat, 0 ≤ sizes.getD k 0 ∧ sizes.getD k 0 ≤ 48
 | 0 | 1 | 2 | 3 | 4 | 5 | 6 | 7 | 8 | 9 | 10 | 11 => by decide
 | n + 12 => by
  have : sizes.getD (n + 12) 0 = 0 := rfl
  rw [this]; decide
theorem sizeT_in (n : Int) : 0 ≤ sizeT n ∧ sizeT n ≤ 48 := by
 unfold sizeT
 split
 ·exact sizes_in _
 ·decide
def fitsT (n v : Int) : Bool := decide (v < 2 ^ (sizeT n).toNat)
theorem pow_pos2 (k : Nat) : (0 : Int) < (2 : Int) ^ k := Int.pow_pos (by decide)
structure Cube where
 Value : List Int
 Care : List Int
 deriving DecidableEq, Inhabited
def Cube.ch (r : Cube) : List AV := [.arr .u64 12 r.Value, .arr .u64 12 r.Care]
def Cube.av (r : Cube) : AV := .agg [.arr .u64 12 r.Value, .arr .u64 12 r.Care]
structure Region where
 Unit : Int
 Cube : Cube
 deriving DecidableEq, Inhabited
def Region.ch (r : Region) : List AV := [.sc (.int .i64 r.Unit), .arr .u64 12 r.Cube.Value, .arr .u64 12 r.Cube.Care]
def Region.av (r : Region) : AV := .agg [.sc (.int .i64 r.Unit), .arr .u64 12 r.Cube.Value, .arr .u64 12 r.Cube.Care]
structure Field where
 name : ByteArray
 size : Int
 deriving DecidableEq, Inhabited
def Field.ch (r : Field) : List AV := [.sc (.string r.name), .sc (.int .i64 r.size)]
def Field.av (r : Field) : AV := .agg [.sc (.string r.name), .sc (.int .i64 r.size)]
structure Locks where
 held : List (Int × (List Region))
 deriving DecidableEq, Inhabited
end Go.Proofs.Ytamgbggpbehflaa
namespace Go.Proofs.Ytamgbggpbehflaa
open Go.Sh
noncomputable def z63_F : Go.Sh.Fn := ⟨63, bodyOf Try.f63, 9⟩
def z63 (n : Int) : Bool :=
 ((decide (n ≥ 0)) && (decide (n < 12)))
theorem z63_calls (n : Int) : ACalls Try.prog tab.S 63 [.sc (.int .i64 n)] [] (.sc (.bool (z63 n))) [] := by
 generalize H : z63 n = r
 refine .of_AX z63_F Try.func63 fun c0 hc0 => ?_
 rw [z63] at H
 refine .sg 3 [0] (.rg (.sg 3 [0,5] (.mx 0 [8] (.sg 1 [2] (.dn ?_)))))
 subst H
 exact .ret Try.func63 hc0
noncomputable def z64_F : Go.Sh.Fn := ⟨64, bodyOf Try.f64, 14⟩
def z64 : (List Field) :=
 [({ name := (ByteArray.mk #[105, 110]), size := 16 } : Field), ({ name := (ByteArray.mk #[101, 115, 114, 99]), size := 48 } : Field), ({ name := (ByteArray.mk #[101, 100, 115, 116]), size := 48 } : Field), ({ name := (ByteArray.mk #[101, 116, 121, 112, 101]), size := 16 } : Field), ({ name := (ByteArray.mk #[118, 108, 97, 110]), size := 12 } : Field), ({ name := (ByteArray.mk #[112, 99, 112]), size := 4 } : Field), ({ name := (ByteArray.mk #[115, 114, 99]), size := 32 } : Field), ({ name := (ByteArray.mk #[100, 115, 116]), size := 32 } : Field), ({ name := (ByteArray.mk #[112, 114, 111, 116, 111]), size := 8 } : Field), ({ name := (ByteArray.mk #[116, 111, 115]), size := 8 } : Field), ({ name := (ByteArray.mk #[115, 112, 111, 114, 116]), size := 12 } : Field), ({ name := (ByteArray.mk #[100, 112, 111, 114, 116]), size := 12 } : Field)]
theorem z64_calls : ACalls Try.prog tab.S 64 [] [] (.agg (List.flatMap Field.ch (z64))) [] := by
 generalize H : z64 = r
 refine .of_AX z64_F Try.func64 fun c0 hc0 => ?_
 rw [z64] at H
 refine .sg 4 [0] ?_
 subst H
 exact .ret Try.func64 hc0
noncomputable def z56_F : Go.Sh.Fn := ⟨56, bodyOf Try.f56, 10⟩
def z56_raw (n : Int) : Option (Int) :=
 (bif (!(z63 n)) then
  some 0
 else
  (ixO z64 n).bind fun x =>
  some x.size)
theorem z56_walk (n : Int) (r : Int) (H : z56_raw n = some r) : ACalls Try.prog tab.S 56 [.sc (.int .i64 n)] [] (.sc (.int .i64 r)) [] := by
 refine .of_AX z56_F Try.func56 fun c0 hc0 => ?_
 rw [z56_raw] at H
 refine .sg 4 [0] (.rg (.sg 1 [0,3] (.cp [0,4] (z63_calls n) (.sg 1 [0,5] (.dn (.cd (!(z63 n)) H (fun hb H => ?_) (fun hb H => ?_)))))))
 ·
  refine .sg 2 [2] ?_
  obtain rfl := Option.some.inj H
  exact .ret Try.func56 hc0
 ·
  refine .sg 2 [0] (.rg (.cp [0,6] (z64_calls) (.sg 1 [6,7] (bndO H fun x hv H => (.xr [8] z64 Field.ch 2 hv (.fd [9] (.sg 1 [2] (.dn ?_))))))))
  obtain rfl := Option.some.inj H
  exact .ret Try.func56 hc0
theorem z56_ok (n : Int) : ACalls Try.prog tab.S 56 [.sc (.int .i64 n)] [] (.sc (.int .i64 (sizeT n))) [] := by
 refine z56_walk n (sizeT n) ?_
 rw [z56_raw, z63]
 rcases sizeT_cases n with ⟨h, e⟩ | ⟨h1, h2, k, rfl, hk, e⟩
 ·rw [e]
  have : (decide (n ≥ 0) && decide (n < 12)) = false := by
   rw [Bool.and_eq_false_iff, decide_eq_false_iff_not, decide_eq_false_iff_not]; omega
  rw [this]
  rfl
 ·rw [e, decide_eq_true h1, decide_eq_true h2]
  match k, hk with
  | 0, _ | 1, _ | 2, _ | 3, _ | 4, _ | 5, _ | 6, _ | 7, _ | 8, _ | 9, _ | 10, _ | 11, _ => rfl
noncomputable def z44_F : Go.Sh.Fn := ⟨44, bodyOf Try.f44, 10⟩
def z44_raw (n : Int) (v : Int) : Option (Bool) :=
 reqO (decide (0 ≤ (sizeT n))) (
 some ((Int.fdiv v (2 ^ (min ((sizeT n) : Int).toNat (IntKind.u64).bits))) == 0))
theorem z44_walk (n : Int) (v : Int) (r : Bool) (H : z44_raw n v = some r) : ACalls Try.prog tab.S 44 [.sc (.int .i64 n), .sc (.int .u64 v)] [] (.sc (.bool r)) [] := by
 refine .of_AX z44_F Try.func44 fun c0 hc0 => ?_
 rw [z44_raw] at H
 refine .sg 3 [0,1] (.rg (.sg 2 [5,6] (.cp [5,7] (z56_ok n) (reqH H fun hreq H => (.sr_ [8] (b := (sizeT n)) hreq (.sg 2 [4] (.dn ?_)))))))
 obtain rfl := Option.some.inj H
 exact .ret Try.func44 hc0
theorem fits_fdiv {n v : Int} : (Int.fdiv v (2 ^ (min (sizeT n).toNat (IntKind.u64).bits)) == 0) = (decide (0 ≤ v) && fitsT n v) := by
 have hs := sizeT_in n
 have hm : min (sizeT n).toNat (IntKind.u64).bits = (sizeT n).toNat := Nat.min_eq_left (by show _ ≤ 64; omega)
 rw [hm]
 have hp := pow_pos2 (sizeT n).toNat
 unfold fitsT
 rw [Bool.eq_iff_iff, Bool.and_eq_true, decide_eq_true_eq, decide_eq_true_eq, beq_iff_eq]
 rw [Int.fdiv_eq_ediv_of_nonneg _ (Int.le_of_lt hp)]
 constructor
 ·intro h
  have h1 := Int.mul_ediv_add_emod v ((2 : Int) ^ (sizeT n).toNat)
  have h2 := Int.emod_nonneg v (Int.ne_of_gt hp)
  have h3 := Int.emod_lt_of_pos v hp
  rw [h, Int.mul_zero, Int.zero_add] at h1
  rw [h1] at h2 h3
  exact ⟨h2, h3⟩
 ·intro h
  exact Int.ediv_eq_zero_of_lt h.1 h.2
def fitsH (n v : Int) : Bool := decide (0 ≤ v) && fitsT n v
theorem z44_ok (n v : Int) : ACalls Try.prog tab.S 44 [.sc (.int .i64 n), .sc (.int .u64 v)] [] (.sc (.bool (fitsH n v))) [] := by
 refine z44_walk n v _ ?_
 rw [z44_raw, reqO_eq (decide_eq_true (sizeT_in n).1), fits_fdiv]
 rfl
noncomputable def z38_F : Go.Sh.Fn := ⟨38, bodyOf Try.f38, 15⟩
def z38_l0s (h1 : List Int) : Nat → Nat → Sum (Unit) (Bool)
 | 0, t6 =>
  (.inl ())
 | rest + 1, t6 =>
  (bif (!(fitsH ((t6 : Nat) : Int) (h1.getD t6 0))) then
   (.inr false)
  else
   z38_l0s h1 rest (t6 + 1) )
theorem z38_l0_walk (h1 : List Int) (r : Bool) (c0 : Ctx) (hc0 : c0.m.length = 0) (res : Sum (Unit) (Bool)) (J : ∀ w : Unit, res = .inl w → AX Try.prog tab z38_F c0 (Rp tab.S c0 (.sc (.bool r)) []) (some ⟨[.code [1, 1]], [], [.box 25 [.arr .u64 12 h1]]⟩)) (Jr : ∀ w, res = .inr w → w = r) :
  ∀ (rest : Nat) (t6 : Nat) (z : Int) (hI : z = ((t6 : Nat) : Int)) (hd : t6 + rest = 12) (H : z38_l0s h1 rest t6 = res), AX Try.prog tab z38_F c0 (Rp tab.S c0 (.sc (.bool r)) []) (some ⟨[.code [1, 0, 1, 0, 0], .loop [1, 0, 1, 0], .blk 0, .code [1, 1]], [(5, .arr .u64 12 h1), (6, .sc (.int .i64 z))], [.box 25 [.arr .u64 12 h1]]⟩) := by
 intro rest
 induction rest with
 | zero =>
  intro t6 z hI hd  H
  subst hI
  rw [z38_l0s] at H
  have hc : (decide (((t6 : Nat) : Int) < 12)) = false := decide_eq_false (by omega)
  exact .sg 3 [5,6,7] (.cdF hc (.sg 1 [] (.kp [] (.to (J () H.symm)))))
 | succ rest ih =>
  intro t6 z hI hd  H
  subst hI
  rw [z38_l0s] at H
  have hlt_t6 : t6 < 12 := by omega
  have hc : (decide (((t6 : Nat) : Int) < 12)) = true := decide_eq_true (by omega)
  have hw : IntKind.i64.wrap (((t6 : Nat) : Int) + 1) = ((t6 + 1 : Nat) : Int) := wrapI_succ (by omega)
  refine .sg 3 [5,6,7] (.cdT hc (.sg 4 [5,6] (.rg (.sg 1 [5,6,8] ?_))))
  have hreq := idx_in 12 hlt_t6 (by decide)
  refine .xv [5,6,8,9] hreq (.sg 2 [3,4,5,6] (.dn (.sg 1 [3,4,5,6] (.rg (.sg 2 [5,6,10,11] (.cp [5,6,12] (z44_ok ((t6 : Nat) : Int) (h1.getD t6 0)) (.sg 1 [5,6,13] (.dn (.cd (!(fitsH ((t6 : Nat) : Int) (h1.getD t6 0))) H (fun hb H => ?_) (fun hb H => ?_))))))))))
  ·
   refine .sg 2 [2] ?_
   subst H
   obtain rfl := Jr _ rfl
   exact .ret Try.func38 hc0
  ·
   exact .sg 3 [5,6] (.kp [5,6] (.into (.cl (ih (t6 + 1) _ hw (by omega) H))))
def z38 (h1 : List Int) : Bool :=
 sumG (fun q => q) (z38_l0s h1 12 0) fun v =>
 true
theorem z38_calls (h1 : List Int) : ACalls Try.prog tab.S 38 [.arr .u64 12 h1] [] (.sc (.bool (z38 h1))) [] := by
 generalize H : z38 h1 = r
 refine .of_AX z38_F Try.func38 fun c0 hc0 => ?_
 rw [z38] at H
 refine .sg 6 [5,6] ?_
 rcases sumG_eq H with ⟨v, hv, H⟩ | ⟨r1, hv, hr1⟩
 case inr =>
  refine .into ?_
  replace hr1 : r1 = r := hr1
  subst hr1
  exact .to (z38_l0_walk h1 _ c0 hc0 (.inr _) (fun _ e => by cases e) (fun _ e => (Sum.inr.inj e).symm) 12 0 _ rfl rfl hv)
 refine .into (.to (z38_l0_walk h1 r c0 hc0 (.inl v) (fun w e => ?_) (fun _ e => by cases e) 12 0 _ rfl rfl hv))
 have e := Sum.inl.inj e
 subst e
 refine .sg 2 [2] ?_
 subst H
 exact .ret Try.func38 hc0
noncomputable def z37_F : Go.Sh.Fn := ⟨37, bodyOf Try.f37, 23⟩
def z37_l0s (c : Cube) : Nat → Nat → Sum (Unit) (Bool)
 | 0, t11 =>
  (.inl ())
 | rest + 1, t11 =>
  (bif ((IntKind.u64.wrap ((BitVec.ofInt 64 (c.Value.getD t11 0) &&& ~~~ (BitVec.ofInt 64 (c.Care.getD (t11) 0))).toNat)) != 0) then
   (.inr false)
  else
   z37_l0s c rest (t11 + 1) )
theorem z37_l0_walk (c : Cube) (r : Bool) (c0 : Ctx) (hc0 : c0.m.length = 0) (res : Sum (Unit) (Bool)) (J : ∀ w : Unit, res = .inl w → AX Try.prog tab z37_F c0 (Rp tab.S c0 (.sc (.bool r)) []) (some ⟨[.code [1, 1, 1]], [], [.box 40 (Cube.ch c)]⟩)) (Jr : ∀ w, res = .inr w → w = r) :
  ∀ (rest : Nat) (t11 : Nat) (z : Int) (hI : z = ((t11 : Nat) : Int)) (hd : t11 + rest = 12) (H : z37_l0s c rest t11 = res), AX Try.prog tab z37_F c0 (Rp tab.S c0 (.sc (.bool r)) []) (some ⟨[.code [1, 1, 0, 1, 0, 0], .loop [1, 1, 0, 1, 0], .blk 0, .code [1, 1, 1]], [(1, .ptr 0 0 none), (10, .arr .u64 12 c.Value), (11, .sc (.int .i64 z))], [.box 40 (Cube.ch c)]⟩) := by
 intro rest
 induction rest with
 | zero =>
  intro t11 z hI hd  H
  subst hI
  rw [z37_l0s] at H
  have hc : (decide (((t11 : Nat) : Int) < 12)) = false := decide_eq_false (by omega)
  exact .sg 3 [1,10,11,12] (.cdF hc (.sg 1 [] (.kp [] (.to (J () H.symm)))))
 | succ rest ih =>
  intro t11 z hI hd  H
  subst hI
  rw [z37_l0s] at H
  have hlt_t11 : t11 < 12 := by omega
  have hc : (decide (((t11 : Nat) : Int) < 12)) = true := decide_eq_true (by omega)
  have hw : IntKind.i64.wrap (((t11 : Nat) : Int) + 1) = ((t11 + 1 : Nat) : Int) := wrapI_succ (by omega)
  refine .sg 3 [1,10,11,12] (.cdT hc (.sg 4 [1,10,11] (.rg (.sg 1 [1,10,11,13] ?_))))
  have hreq := idx_in 12 hlt_t11 (by decide)
  refine .xv [1,10,11,13,14] hreq (.sg 2 [1,3,4,10,11] (.dn (.sg 1 [1,3,4,10,11] (.rg (.sg 3 [1,10,11,15,16,17] ?_)))))
  have hreq := idx_in 12 hlt_t11 (by decide)
  refine .xa [1,10,11,15,18] hreq (.sg 3 [1,10,11,21] (.dn (.cd ((IntKind.u64.wrap ((BitVec.ofInt 64 (c.Value.getD t11 0) &&& ~~~ (BitVec.ofInt 64 (c.Care.getD (t11) 0))).toNat)) != 0) H (fun hb H => ?_) (fun hb H => ?_))))
  ·
   refine .sg 2 [2] ?_
   subst H
   obtain rfl := Jr _ rfl
   exact .ret Try.func37 hc0
  ·
   exact .sg 3 [1,10,11] (.kp [1,10,11] (.into (.cl (ih (t11 + 1) _ hw (by omega) H))))
def z37 (c : Cube) : Bool :=
 (bif (!(z38 c.Care)) then
  false
 else
  sumG (fun q => q) (z37_l0s c 12 0) fun v =>
  true)
theorem z37_calls (c : Cube) : ACalls Try.prog tab.S 37 [Cube.av c] [] (.sc (.bool (z37 c))) [] := by
 generalize H : z37 c = r
 refine .of_AX z37_F Try.func37 fun c0 hc0 => ?_
 rw [z37] at H
 refine .sg 4 [1] (.rg (.sg 2 [1,6] (.cp [1,7] (z38_calls c.Care) (.sg 1 [1,8] (.dn (.cd (!(z38 c.Care)) H (fun hb H => ?_) (fun hb H => ?_)))))))
 ·
  refine .sg 2 [2] ?_
  subst H
  exact .ret Try.func37 hc0
 ·
  refine .sg 5 [1,10,11] ?_
  rcases sumG_eq H with ⟨v, hv, H⟩ | ⟨r1, hv, hr1⟩
  case inr =>
   refine .into ?_
   replace hr1 : r1 = r := hr1
   subst hr1
   exact .to (z37_l0_walk c _ c0 hc0 (.inr _) (fun _ e => by cases e) (fun _ e => (Sum.inr.inj e).symm) 12 0 _ rfl rfl hv)
  refine .into (.to (z37_l0_walk c r c0 hc0 (.inl v) (fun w e => ?_) (fun _ e => by cases e) 12 0 _ rfl rfl hv))
  have e := Sum.inl.inj e
  subst e
  refine .sg 2 [2] ?_
  subst H
  exact .ret Try.func37 hc0
noncomputable def z40_F : Go.Sh.Fn := ⟨40, bodyOf Try.f40, 11⟩
def z40 (a : Cube) (b : Cube) : Bool :=
 ((z37 a) && (z37 b))
theorem z40_calls (a : Cube) (b : Cube) : ACalls Try.prog tab.S 40 [Cube.av a, Cube.av b] [] (.sc (.bool (z40 a b))) [] := by
 generalize H : z40 a b = r
 refine .of_AX z40_F Try.func40 fun c0 hc0 => ?_
 rw [z40] at H
 refine .sg 3 [2,3] (.rg (.sg 1 [3,5] (.cp [3,6] (z37_calls a) (.sg 1 [3,7] (.mm 7 (z37 a) 3 [.pure, .pure, .read] [10] 10 (fun z => .sc (.bool (z && (z37 b)))) ?J1 (fun hb J => ?ht1) (fun hb J => ?hf1))))))
 case ht1 =>
  exact .sg 1 [7,8] (.cp [7,9] (z37_calls b) (.sg 1 [10] (.cl J)))
 case hf1 =>
  exact .sg 3 [10] (.cl J)
 refine .sg 1 [4] (.dn ?_)
 subst H
 exact .ret Try.func40 hc0
noncomputable def z30_F : Go.Sh.Fn := ⟨30, bodyOf Try.f30, 60⟩
def z30_l0s (b : Cube) : Nat → Nat → List Int → List Int → Sum ((List Int) × (List Int)) (Cube × Bool)
 | 0, t12, a_0, a_1 =>
  (.inl (a_0, a_1))
 | rest + 1, t12, a_0, a_1 =>
  (bif ((IntKind.u64.wrap ((BitVec.ofInt 64 (IntKind.u64.wrap ((BitVec.ofInt 64 (IntKind.u64.wrap ((BitVec.ofInt 64 (a_0.getD (t12) 0) ^^^ BitVec.ofInt 64 (b.Value.getD (t12) 0)).toNat)) &&& BitVec.ofInt 64 (a_1.getD (t12) 0)).toNat)) &&& BitVec.ofInt 64 (b.Care.getD (t12) 0)).toNat)) != 0) then
   (.inr (({ Value := [0, 0, 0, 0, 0, 0, 0, 0, 0, 0, 0, 0], Care := [0, 0, 0, 0, 0, 0, 0, 0, 0, 0, 0, 0] } : Cube), false))
  else
   z30_l0s b rest (t12 + 1) (a_0.set (t12) (IntKind.u64.wrap ((BitVec.ofInt 64 (a_0.getD (t12) 0) ||| BitVec.ofInt 64 (b.Value.getD (t12) 0)).toNat))) (a_1.set (t12) (IntKind.u64.wrap ((BitVec.ofInt 64 (a_1.getD (t12) 0) ||| BitVec.ofInt 64 (b.Care.getD (t12) 0)).toNat))))
theorem z30_l0_walk (a : Cube) (b : Cube) (r : Cube × Bool) (c0 : Ctx) (hc0 : c0.m.length = 0) (res : Sum ((List Int) × (List Int)) (Cube × Bool)) (J : ∀ w : (List Int) × (List Int), res = .inl w → AX Try.prog tab z30_F c0 (Rp tab.S c0 (.tup [Cube.av r.1, .sc (.bool r.2)]) []) (some ⟨[.code [1, 1, 1]], [(2, .ptr 0 0 none), (4, .ptr 2 0 none)], [.box 40 [.arr .u64 12 w.1, .arr .u64 12 w.2], .box 40 (Cube.ch b), .box 40 [.arr .u64 12 [0, 0, 0, 0, 0, 0, 0, 0, 0, 0, 0, 0], .arr .u64 12 [0, 0, 0, 0, 0, 0, 0, 0, 0, 0, 0, 0]]]⟩)) (Jr : ∀ w, res = .inr w → w = r) :
  ∀ (rest : Nat) (t12 : Nat) (z : Int) (hI : z = ((t12 : Nat) : Int)) (hd : t12 + rest = 12) (a_0 : List Int) (a_1 : List Int) (H : z30_l0s b rest t12 a_0 a_1 = res), AX Try.prog tab z30_F c0 (Rp tab.S c0 (.tup [Cube.av r.1, .sc (.bool r.2)]) []) (some ⟨[.code [1, 1, 0, 1, 0, 0], .loop [1, 1, 0, 1, 0], .blk 0, .code [1, 1, 1]], [(2, .ptr 0 0 none), (3, .ptr 1 0 none), (4, .ptr 2 0 none), (12, .sc (.int .i64 z))], [.box 40 [.arr .u64 12 a_0, .arr .u64 12 a_1], .box 40 (Cube.ch b), .box 40 [.arr .u64 12 [0, 0, 0, 0, 0, 0, 0, 0, 0, 0, 0, 0], .arr .u64 12 [0, 0, 0, 0, 0, 0, 0, 0, 0, 0, 0, 0]]]⟩) := by
 intro rest
 induction rest with
 | zero =>
  intro t12 z hI hd a_0 a_1 H
  subst hI
  rw [z30_l0s] at H
  have hc : (decide (((t12 : Nat) : Int) < 12)) = false := decide_eq_false (by omega)
  exact .sg 3 [2,3,4,12,13] (.cdF hc (.sg 1 [2,4] (.kp [2,4] (.to (J (a_0, a_1) H.symm)))))
 | succ rest ih =>
  intro t12 z hI hd a_0 a_1 H
  subst hI
  rw [z30_l0s] at H
  have hlt_t12 : t12 < 12 := by omega
  have hc : (decide (((t12 : Nat) : Int) < 12)) = true := decide_eq_true (by omega)
  have hw : IntKind.i64.wrap (((t12 : Nat) : Int) + 1) = ((t12 + 1 : Nat) : Int) := wrapI_succ (by omega)
  refine .sg 3 [2,3,4,12,13] (.cdT hc (.sg 7 [2,3,4,6,12] (.rg (.sg 2 [2,3,4,6,12,15,16] ?_))))
  have hreq := idx_in 12 hlt_t12 (by decide)
  refine .xa [2,3,4,6,12,17] hreq (.sg 3 [2,3,4,6,12,18,19,20] ?_)
  have hreq := idx_in 12 hlt_t12 (by decide)
  refine .xa [2,3,4,6,12,18,21] hreq (.sg 4 [2,3,4,6,12,23,24,25] ?_)
  have hreq := idx_in 12 hlt_t12 (by decide)
  refine .xa [2,3,4,6,12,23,26] hreq (.sg 4 [2,3,4,6,12,28,29,30] ?_)
  have hreq := idx_in 12 hlt_t12 (by decide)
  refine .xa [2,3,4,6,12,28,31] hreq (.sg 3 [2,3,4,6,12,34] (.dn (.cd ((IntKind.u64.wrap ((BitVec.ofInt 64 (IntKind.u64.wrap ((BitVec.ofInt 64 (IntKind.u64.wrap ((BitVec.ofInt 64 (a_0.getD (t12) 0) ^^^ BitVec.ofInt 64 (b.Value.getD (t12) 0)).toNat)) &&& BitVec.ofInt 64 (a_1.getD (t12) 0)).toNat)) &&& BitVec.ofInt 64 (b.Care.getD (t12) 0)).toNat)) != 0) H (fun hb H => ?_) (fun hb H => ?_))))
  ·
   refine .sg 2 [4,5] ?_
   subst H
   obtain rfl := Jr _ rfl
   exact .ret Try.func30 hc0
  ·
   refine .sg 2 [2,3,4,6,12] (.rg (.sg 2 [2,3,4,6,12,36,37] ?_))
   have hreq := idx_in 12 hlt_t12 (by decide)
   refine .xa [2,3,4,6,12,36,38] hreq (.sg 3 [2,3,4,6,12,36,39,40,41] ?_)
   have hreq := idx_in 12 hlt_t12 (by decide)
   refine .xa [2,3,4,6,12,36,39,42] hreq (.sg 3 [2,3,4,6,12,36,44,45] ?_)
   have hreq := idx_in 12 hlt_t12 (by decide)
   refine .xa [2,3,4,6,12,44,46] hreq (.sg 1 [2,3,4,6,12] (.dn (.rg (.sg 2 [2,3,4,6,12,47,48] ?_))))
   have hreq := idx_in 12 hlt_t12 (by decide)
   refine .xa [2,3,4,6,12,47,49] hreq (.sg 3 [2,3,4,12,47,50,51,52] ?_)
   have hreq := idx_in 12 hlt_t12 (by decide)
   refine .xa [2,3,4,12,47,50,53] hreq (.sg 3 [2,3,4,12,47,55,56] ?_)
   have hreq := idx_in 12 hlt_t12 (by decide)
   exact .xa [2,3,4,12,55,57] hreq (.sg 1 [2,3,4,12] (.dn (.sg 2 [2,3,4,12] (.kp [2,3,4,12] (.into (.cl (ih (t12 + 1) _ hw (by omega) (a_0.set (t12) (IntKind.u64.wrap ((BitVec.ofInt 64 (a_0.getD (t12) 0) ||| BitVec.ofInt 64 (b.Value.getD (t12) 0)).toNat))) (a_1.set (t12) (IntKind.u64.wrap ((BitVec.ofInt 64 (a_1.getD (t12) 0) ||| BitVec.ofInt 64 (b.Care.getD (t12) 0)).toNat))) H)))))))
def z30 (a : Cube) (b : Cube) : Cube × Bool :=
 (bif (!(z40 a b)) then
  (({ Value := [0, 0, 0, 0, 0, 0, 0, 0, 0, 0, 0, 0], Care := [0, 0, 0, 0, 0, 0, 0, 0, 0, 0, 0, 0] } : Cube), false)
 else
  sumG (fun q => q) (z30_l0s b 12 0 a.Value a.Care) fun v =>
  (({ Value := v.1, Care := v.2 } : Cube), true))
theorem z30_calls (a : Cube) (b : Cube) : ACalls Try.prog tab.S 30 [Cube.av a, Cube.av b] [] (.tup [Cube.av ((z30 a b).1), .sc (.bool ((z30 a b).2))]) [] := by
 generalize H : z30 a b = r
 refine .of_AX z30_F Try.func30 fun c0 hc0 => ?_
 rw [z30] at H
 refine .sg 4 [2,3,4] (.rg (.sg 2 [2,3,4,7,8] (.cp [2,3,4,9] (z40_calls a b) (.sg 1 [2,3,4,10] (.dn (.cd (!(z40 a b)) H (fun hb H => ?_) (fun hb H => ?_)))))))
 ·
  refine .sg 2 [4,5] ?_
  subst H
  exact .ret Try.func30 hc0
 ·
  refine .sg 5 [2,3,4,12] ?_
  rcases sumG_eq H with ⟨v, hv, H⟩ | ⟨r1, hv, hr1⟩
  case inr =>
   refine .into ?_
   replace hr1 : r1 = r := hr1
   subst hr1
   exact .to (z30_l0_walk a b _ c0 hc0 (.inr _) (fun _ e => by cases e) (fun _ e => (Sum.inr.inj e).symm) 12 0 _ rfl rfl a.Value a.Care hv)
  refine .into (.to (z30_l0_walk a b r c0 hc0 (.inl v) (fun w e => ?_) (fun _ e => by cases e) 12 0 _ rfl rfl a.Value a.Care hv))
  have e := Sum.inl.inj e
  subst e
  refine .sg 2 [4,5] ?_
  subst H
  exact .ret Try.func30 hc0
noncomputable def cube_Has_F : Go.Sh.Fn := ⟨25, bodyOf Try.f25, 30⟩
def cube_Has_l0s (c : Cube) (h1 : List Int) : Nat → Nat → Sum (Unit) (Bool)
 | 0, t8 =>
  (.inl ())
 | rest + 1, t8 =>
  (bif ((IntKind.u64.wrap ((BitVec.ofInt 64 (h1.getD t8 0) &&& BitVec.ofInt 64 (c.Care.getD (t8) 0)).toNat)) != (c.Value.getD (t8) 0)) then
   (.inr false)
  else
   cube_Has_l0s c h1 rest (t8 + 1) )
theorem cube_Has_l0_walk (c : Cube) (h1 : List Int) (r : Bool) (c0 : Ctx) (hc0 : c0.m.length = 0) (res : Sum (Unit) (Bool)) (J : ∀ w : Unit, res = .inl w → AX Try.prog tab cube_Has_F c0 (Rp tab.S c0 (.sc (.bool r)) []) (some ⟨[.code [1, 1]], [(2, .ptr 0 0 none), (3, .ptr 1 0 none)], [.box 40 (Cube.ch c), .box 25 [.arr .u64 12 h1]]⟩)) (Jr : ∀ w, res = .inr w → w = r) :
  ∀ (rest : Nat) (t8 : Nat) (z : Int) (hI : z = ((t8 : Nat) : Int)) (hd : t8 + rest = 12) (H : cube_Has_l0s c h1 rest t8 = res), AX Try.prog tab cube_Has_F c0 (Rp tab.S c0 (.sc (.bool r)) []) (some ⟨[.code [1, 0, 1, 0, 0], .loop [1, 0, 1, 0], .blk 0, .code [1, 1]], [(2, .ptr 0 0 none), (3, .ptr 1 0 none), (7, .arr .u64 12 h1), (8, .sc (.int .i64 z))], [.box 40 (Cube.ch c), .box 25 [.arr .u64 12 h1]]⟩) := by
 intro rest
 induction rest with
 | zero =>
  intro t8 z hI hd  H
  subst hI
  rw [cube_Has_l0s] at H
  have hc : (decide (((t8 : Nat) : Int) < 12)) = false := decide_eq_false (by omega)
  exact .sg 3 [2,3,7,8,9] (.cdF hc (.sg 1 [2,3] (.kp [2,3] (.to (J () H.symm)))))
 | succ rest ih =>
  intro t8 z hI hd  H
  subst hI
  rw [cube_Has_l0s] at H
  have hlt_t8 : t8 < 12 := by omega
  have hc : (decide (((t8 : Nat) : Int) < 12)) = true := decide_eq_true (by omega)
  have hw : IntKind.i64.wrap (((t8 : Nat) : Int) + 1) = ((t8 + 1 : Nat) : Int) := wrapI_succ (by omega)
  refine .sg 3 [2,3,7,8,9] (.cdT hc (.sg 4 [2,3,7,8] (.rg (.sg 1 [2,3,7,8,10] ?_))))
  have hreq := idx_in 12 hlt_t8 (by decide)
  refine .xv [2,3,7,8,10,11] hreq (.sg 2 [2,3,5,6,7,8] (.dn (.sg 1 [2,3,5,6,7,8] (.rg (.sg 3 [2,3,5,7,8,12,13,14] ?_)))))
  have hreq := idx_in 12 hlt_t8 (by decide)
  refine .xa [2,3,5,7,8,12,15] hreq (.sg 4 [2,3,7,8,17,18,19] ?_)
  have hreq := idx_in 12 hlt_t8 (by decide)
  refine .xa [2,3,7,8,17,20] hreq (.sg 2 [2,3,7,8,22] (.dn (.cd ((IntKind.u64.wrap ((BitVec.ofInt 64 (h1.getD t8 0) &&& BitVec.ofInt 64 (c.Care.getD (t8) 0)).toNat)) != (c.Value.getD (t8) 0)) H (fun hb H => ?_) (fun hb H => ?_))))
  ·
   refine .sg 2 [4] ?_
   subst H
   obtain rfl := Jr _ rfl
   exact .ret Try.func25 hc0
  ·
   exact .sg 3 [2,3,7,8] (.kp [2,3,7,8] (.into (.cl (ih (t8 + 1) _ hw (by omega) H))))
def cube_Has (c : Cube) (h1 : List Int) : Bool :=
 sumG (fun q => q) (cube_Has_l0s c h1 12 0) fun v =>
 ((z37 c) && (z38 h1))
theorem cube_Has_calls (c : Cube) (h1 : List Int) : ACalls Try.prog tab.S 25 [Cube.av c, .arr .u64 12 h1] [] (.sc (.bool (cube_Has c h1))) [] := by
 generalize H : cube_Has c h1 = r
 refine .of_AX cube_Has_F Try.func25 fun c0 hc0 => ?_
 rw [cube_Has] at H
 refine .sg 6 [2,3,7,8] ?_
 rcases sumG_eq H with ⟨v, hv, H⟩ | ⟨r1, hv, hr1⟩
 case inr =>
  refine .into ?_
  replace hr1 : r1 = r := hr1
  subst hr1
  exact .to (cube_Has_l0_walk c h1 _ c0 hc0 (.inr _) (fun _ e => by cases e) (fun _ e => (Sum.inr.inj e).symm) 12 0 _ rfl rfl hv)
 refine .into (.to (cube_Has_l0_walk c h1 r c0 hc0 (.inl v) (fun w e => ?_) (fun _ e => by cases e) 12 0 _ rfl rfl hv))
 have e := Sum.inl.inj e
 subst e
 refine .sg 1 [2,3] (.rg (.sg 1 [3,24] (.cp [3,25] (z37_calls c) (.sg 1 [3,26] (.mm 26 (z37 c) 3 [.pure, .pure, .read] [29] 29 (fun z => .sc (.bool (z && (z38 h1)))) ?J1 (fun hb J => ?ht1) (fun hb J => ?hf1))))))
 case ht1 =>
  exact .sg 1 [26,27] (.cp [26,28] (z38_calls h1) (.sg 1 [29] (.cl J)))
 case hf1 =>
  exact .sg 3 [29] (.cl J)
 refine .sg 1 [4] (.dn ?_)
 subst H
 exact .ret Try.func25 hc0
end Go.Proofs.Ytamgbggpbehflaa
namespace Go.Proofs.Ytamgbggpbehflaa
open Go.Sh
noncomputable def z39_F : Go.Sh.Fn := ⟨39, bodyOf Try.f39, 19⟩
def z39_l0s (f : Region → Bool) : List Region → Nat → Sum (Unit) (Int)
 | [], t8 =>
  (.inl ())
 | x :: rest, t8 =>
  (bif (f x) then
   (.inr ((t8 : Nat) : Int))
  else
   z39_l0s f rest (t8 + 1) )
theorem z39_l0_walk (s : List Region) (F_f : FuncId) (C_f : List AV) (f : Region → Bool) (P_f : plainL C_f = true) (O_f : C_f.all oneA = true) (H_f : ∀ (y0 : Region), ACalls Try.prog tab.S F_f ([Region.av y0] ++ C_f) [] (.sc (.bool (f y0))) []) (f_s : Bool) (r : Int) (c0 : Ctx) (hc0 : c0.m.length = 0) (res : Sum (Unit) (Int)) (J : ∀ w : Unit, res = .inl w → AX Try.prog tab z39_F c0 (Rp tab.S c0 (.sc (.int .i64 r)) []) (some ⟨[.code [1, 1]], [], []⟩)) (Jr : ∀ w, res = .inr w → w = r) :
  ∀ (rest : List Region) (t8 : Nat) (z : Int) (hI : z = ((t8 : Nat) : Int)) (hd : s.drop t8 = rest) (H : z39_l0s f rest t8 = res), AX Try.prog tab z39_F c0 (Rp tab.S c0 (.sc (.int .i64 r)) []) (some ⟨[.code [1, 0, 1, 0, 0], .loop [1, 0, 1, 0], .blk 0, .code [1, 1]], [(0, .sl 42 (List.map Region.av s) f_s), (1, .fn F_f C_f), (7, .sc (.int .i64 (((List.map Region.av s).length : Nat) : Int))), (8, .sc (.int .i64 z))], []⟩) := by
 intro rest
 induction rest with
 | nil =>
  intro t8 z hI hd  H
  subst hI
  rw [z39_l0s] at H
  refine .facts 0 fun hf => ?_
  have hlen : s.length ≤ 9223372036854775807 := by have hq := len_ok hf.2.1; rw [List.length_map] at hq; exact hq
  have hge : s.length ≤ t8 := List.drop_eq_nil_iff.1 hd
  have hc : (decide (((t8 : Nat) : Int) < (((List.map Region.av s).length : Nat) : Int))) = false := by rw [List.length_map]; exact decide_eq_false (by omega)
  exact .sg 3 [0,1,7,8,9] (.cdF hc (.sg 1 [] (.kp [] (.to (J () H.symm)))))
 | cons x rest ih =>
  intro t8 z hI hd  H
  subst hI
  rw [z39_l0s] at H
  refine .facts 0 fun hf => ?_
  have hlen : s.length ≤ 9223372036854775807 := by have hq := len_ok hf.2.1; rw [List.length_map] at hq; exact hq
  obtain ⟨hlt, hv_t8, hd2⟩ := drop_cons hd
  have hc : (decide (((t8 : Nat) : Int) < (((List.map Region.av s).length : Nat) : Int))) = true := by rw [List.length_map]; exact decide_eq_true (by omega)
  have hw : IntKind.i64.wrap (((t8 : Nat) : Int) + 1) = ((t8 + 1 : Nat) : Int) := wrapI_succ (by omega)
  refine .sg 3 [0,1,7,8,9] (.cdT hc (.sg 6 [0,1,5,7,8] (.rg (.sg 3 [0,1,5,7,8,11,12,13] (.xi [0,1,5,7,8,11,14] Region.av hv_t8 (.sg 1 [0,1,5,7,8,11,15] (.cf [0,1,5,7,8,16] (H_f x) P_f O_f (.dn (.cd (f x) H (fun hb H => ?_) (fun hb H => ?_))))))))))
  ·
   refine .sg 2 [4] ?_
   subst H
   obtain rfl := Jr _ rfl
   exact .ret Try.func39 hc0
  ·
   exact .sg 3 [0,1,7,8] (.kp [0,1,7,8] (.into (.cl (ih (t8 + 1) _ hw hd2 H))))
def z39 (s : List Region) (f : Region → Bool) : Int :=
 sumG (fun q => q) (z39_l0s f s 0) fun v =>
 (-1)
theorem z39_calls (s : List Region) (F_f : FuncId) (C_f : List AV) (f : Region → Bool) (P_f : plainL C_f = true) (O_f : C_f.all oneA = true) (H_f : ∀ (y0 : Region), ACalls Try.prog tab.S F_f ([Region.av y0] ++ C_f) [] (.sc (.bool (f y0))) []) (f_s : Bool) : ACalls Try.prog tab.S 39 [.sl 42 (List.map Region.av s) f_s, .fn F_f C_f] [] (.sc (.int .i64 (z39 s f))) [] := by
 generalize H : z39 s f = r
 refine .of_AX z39_F Try.func39 fun c0 hc0 => ?_
 rw [z39] at H
 refine .sg 6 [0,1,7,8] ?_
 rcases sumG_eq H with ⟨v, hv, H⟩ | ⟨r1, hv, hr1⟩
 case inr =>
  refine .into ?_
  replace hr1 : r1 = r := hr1
  subst hr1
  exact .to (z39_l0_walk s F_f C_f f P_f O_f H_f f_s _ c0 hc0 (.inr _) (fun _ e => by cases e) (fun _ e => (Sum.inr.inj e).symm) s 0 _ rfl rfl hv)
 refine .into (.to (z39_l0_walk s F_f C_f f P_f O_f H_f f_s r c0 hc0 (.inl v) (fun w e => ?_) (fun _ e => by cases e) s 0 _ rfl rfl hv))
 have e := Sum.inl.inj e
 subst e
 refine .sg 2 [4] ?_
 subst H
 exact .ret Try.func39 hc0
noncomputable def z26_F : Go.Sh.Fn := ⟨26, bodyOf Try.f26, 9⟩
def z26 (s : List Region) (f : Region → Bool) : Bool :=
 (decide ((z39 s f) ≥ 0))
theorem z26_calls (s : List Region) (F_f : FuncId) (C_f : List AV) (f : Region → Bool) (P_f : plainL C_f = true) (O_f : C_f.all oneA = true) (H_f : ∀ (y0 : Region), ACalls Try.prog tab.S F_f ([Region.av y0] ++ C_f) [] (.sc (.bool (f y0))) []) (f_s : Bool) : ACalls Try.prog tab.S 26 [.sl 42 (List.map Region.av s) f_s, .fn F_f C_f] [] (.sc (.bool (z26 s f))) [] := by
 generalize H : z26 s f = r
 refine .of_AX z26_F Try.func26 fun c0 hc0 => ?_
 rw [z26] at H
 refine .sg 3 [0,1] (.rg (.sg 2 [5,6] (.cl_ [7] (caps := []) (z39_calls s F_f C_f f P_f O_f H_f f_s) (.same rfl (.fn (caps := C_f) (lendC_plain C_f P_f) .nil)) (by kernel_rfl) rfl rfl (.sg 2 [4] (.dn ?_)))))
 subst H
 exact .ret Try.func26 hc0
noncomputable def z29_F : Go.Sh.Fn := ⟨29, bodyOf Try.f29, 22⟩
def z29 (y : Region) (c : Region) : Bool :=
 ((z30 c.Cube y.Cube).2 && (c.Unit == y.Unit))
theorem z29_calls (y : Region) (c : Region) : ACalls Try.prog tab.S 29 [Region.av y, .ep [.sc (.int .i64 c.Unit), .arr .u64 12 c.Cube.Value, .arr .u64 12 c.Cube.Care] 0 none] [] (.sc (.bool (z29 y c))) [] := by
 generalize H : z29 y c = r
 refine .of_AX z29_F Try.func29 fun c0 hc0 => ?_
 rw [z29] at H
 refine .sg 3 [1,2] (.rg (.sg 4 [1,2,8,10] (.cp [1,2,11] (z30_calls c.Cube y.Cube) (.sg 6 [1,2,5] (.dn (.sg 1 [1,2,5] (.rg (.sg 2 [1,2,15] (.mx 0 [21] (.sg 1 [3] (.dn ?_)))))))))))
 subst H
 exact .ret Try.func29 hc0
noncomputable def z28_F : Go.Sh.Fn := ⟨28, bodyOf Try.f28, 7⟩
def z28 (x : Region) (c : List Region) : Bool :=
 (z26 c (fun y0 => z29 y0 x))
theorem z28_calls (x : Region) (c : List Region) (f_c : Bool) : ACalls Try.prog tab.S 28 [Region.av x, .ep [.sl 42 (List.map Region.av c) f_c] 0 none] [] (.sc (.bool (z28 x c))) [] := by
 generalize H : z28 x c = r
 refine .of_AX z28_F Try.func28 fun c0 hc0 => ?_
 rw [z28] at H
 refine .sg 3 [1,2] (.rg (.sg 2 [4,5] (.cl_ [6] (caps := []) (z26_calls c 29 [.ep [.sc (.int .i64 x.Unit), .arr .u64 12 x.Cube.Value, .arr .u64 12 x.Cube.Care] 0 none] (fun y0 => z29 y0 x) rfl rfl (fun y0 => z29_calls y0 x) f_c) (.same rfl (.fn (caps := [.ptr 0 0 none]) (by kernel_rfl) .nil)) (by kernel_rfl) rfl rfl (.sg 1 [3] (.dn ?_)))))
 subst H
 exact .ret Try.func28 hc0
noncomputable def z17_F : Go.Sh.Fn := ⟨17, bodyOf Try.f17, 8⟩
def z17 (a : List Region) (b : List Region) : Bool :=
 (z26 a (fun y0 => z28 y0 b))
theorem z17_calls (a : List Region) (b : List Region) (f_a : Bool) (f_b : Bool) : ACalls Try.prog tab.S 17 [.sl 42 (List.map Region.av a) f_a, .sl 42 (List.map Region.av b) f_b] [] (.sc (.bool (z17 a b))) [] := by
 generalize H : z17 a b = r
 refine .of_AX z17_F Try.func17 fun c0 hc0 => ?_
 rw [z17] at H
 refine .sg 3 [0,3] (.rg (.sg 2 [5,6] (.cl_ [7] (caps := []) (z26_calls a 28 [.ep [.sl 42 (List.map Region.av b) f_b] 0 none] (fun y0 => z28 y0 b) rfl rfl (fun y0 => z28_calls y0 b f_b) f_a) (.same rfl (.fn (caps := [.ptr 0 0 none]) (by kernel_rfl) .nil)) (by kernel_rfl) rfl rfl (.sg 1 [4] (.dn ?_)))))
 subst H
 exact .ret Try.func17 hc0
noncomputable def z18_F : Go.Sh.Fn := ⟨18, bodyOf Try.f18, 8⟩
theorem z18_calls (s : List Region) (f_s : Bool) : ACalls Try.prog tab.S 18 [.sl 42 (List.map Region.av s) f_s] [] (.sl 42 (List.map Region.av s) false) [] := by
 have hG := tab_ok
 have hm := mixed
 have hE : Ent Try.prog 18 := ent_of Try.func18 (by kernel_rfl) (by kernel_rfl)
 cases s with
 | nil =>
  refine ACalls.empty hE fun p c => ?_
  refine ACalls.of_AR (G := tab) z18_F (fn := Try.f18) Try.func18 (by kernel_rfl) (by kernel_rfl) (by kernel_rfl) (Nat.le_of_ble_eq_true (by kernel_rfl)) ?_
  intro c0 hc0
  replace hc0 : c0.m.length = 0 := hc0
  refine AR.seg hG hm 4 [0] (k' := [.code [1, 0, 0], .code [1, 0, 1], .code [1, 1]]) (t' := [(0, .sc (.slice p 0 c))]) (h' := []) (by kernel_rfl) ?_
  refine AR.reg hm [.pure, .pure] (by kernel_rfl) ?_
  refine DK.seg hG 1 [0, 3] (t' := [(0, .sc (.slice p 0 c)), (3, .sc (.slice p 0 c))]) (h' := []) (by kernel_rfl) rfl ?_
  refine DK.op' [0, 4] (t' := [(0, .sc (.slice p 0 c)), (4, .sc (.bool p.isNone))]) (h' := []) (LSpec.nilEq hG (p := p) (l := 0) (c := c) (by kernel_rfl)) (by kernel_rfl) rfl (by kernel_rfl) rfl ?_
  refine DK.done (by kernel_rfl) (by kernel_rfl) ?_
  refine AR.cond (.tmp 4) p.isNone (by kernel_rfl) (by kernel_rfl) (fun hb => ?ht) (fun hb => ?hf)
  case ht =>
   refine AR.seg hG hm 2 [2] (k' := [.code [1, 0, 1, 0, 1], .code [1, 1]]) (t' := [(2, .sl 0 [] true)]) (h' := []) (by kernel_rfl) ?_
   exact AR.ret0 (fn := Try.f18) hG Try.func18 (by kernel_rfl) hc0 (r0 := .sl 0 [] true) (by kernel_rfl) (WkV.sl (Wk1.nil 42 false))
  case hf =>
   refine AR.seg hG hm 2 [0] (k' := [.code [1, 1, 0], .code [1, 1, 1]]) (t' := [(0, .sc (.slice p 0 c))]) (h' := []) (by kernel_rfl) ?_
   refine AR.reg hm [.pure, .pure, .pure, .pure] (by kernel_rfl) ?_
   refine DK.seg hG 2 [5, 6] (t' := [(5, .sl 42 [] true), (6, .sc (.slice p 0 c))]) (h' := []) (by kernel_rfl) rfl ?_
   refine DK.op' [7] (t' := [(7, .sl 42 [] true)]) (h' := []) (LSpec.app0 hG (e0 := 42) (rows := []) (f := true) (by kernel_rfl)) (by kernel_rfl) rfl (by kernel_rfl) rfl ?_
   refine DK.seg hG 1 [2] (t' := [(2, .sl 42 [] true)]) (h' := []) (by kernel_rfl) rfl ?_
   refine DK.done (by kernel_rfl) (by kernel_rfl) ?_
   exact AR.ret0 (fn := Try.f18) hG Try.func18 (by kernel_rfl) hc0 (r0 := .sl 42 [] true) (by kernel_rfl) (WkV.sl (Wk1.nil 42 false))
 | cons x xs =>
  refine ACalls.facts hE fun hf => ?_
  have hfit : (([] : List Region).length + (x :: xs).length) * 200 ≤ reach := by
   have h1 : (List.map Region.av (x :: xs)).length * 200 ≤ reach := hf.1.1
   simpa using h1
  refine ACalls.of_AR (G := tab) z18_F (fn := Try.f18) Try.func18 (by kernel_rfl) (by kernel_rfl) (by kernel_rfl) (Nat.le_of_ble_eq_true (by kernel_rfl)) ?_
  intro c0 hc0
  replace hc0 : c0.m.length = 0 := hc0
  refine AR.seg hG hm 4 [0] (k' := [.code [1, 0, 0], .code [1, 0, 1], .code [1, 1]]) (t' := [(0, .sl 42 (List.map Region.av (x :: xs)) f_s)]) (h' := []) (by kernel_rfl) ?_
  refine AR.reg hm [.pure, .pure] (by kernel_rfl) ?_
  refine DK.seg hG 1 [0, 3] (t' := [(0, .sl 42 (List.map Region.av (x :: xs)) f_s), (3, .sl 42 (List.map Region.av (x :: xs)) f_s)]) (h' := []) (by kernel_rfl) rfl ?_
  refine DK.op' [0, 4] (t' := [(0, .sl 42 (List.map Region.av (x :: xs)) f_s), (4, .sc (.bool false))]) (h' := []) (LSpec.neNil hG (by kernel_rfl)) (by kernel_rfl) rfl (by kernel_rfl) rfl ?_
  refine DK.done (by kernel_rfl) (by kernel_rfl) ?_
  refine AR.seg hG hm 3 [0] (k' := [.code [1, 1, 0], .code [1, 1, 1]]) (t' := [(0, .sl 42 (List.map Region.av (x :: xs)) f_s)]) (h' := []) (by kernel_rfl) ?_
  refine AR.reg hm [.pure, .pure, .loud, .pure] (by kernel_rfl) ?_
  refine DK.seg hG 2 [5, 6] (t' := [(5, .sl 42 [] true), (6, .sl 42 (List.map Region.av (x :: xs)) f_s)]) (h' := []) (by kernel_rfl) rfl ?_
  refine DK.op' [7] (t' := [(7, .own 0 1)]) (h' := [.row 42 (List.map Region.av ([] ++ (x :: xs))) 1 true]) (LSpec.appendN hG Region.av [] (x :: xs) 42 200 hfit (by kernel_rfl)) (by kernel_rfl) (by kernel_rfl) (by kernel_rfl) rfl ?_
  refine DK.seg hG 1 [2] (t' := [(2, .own 0 1)]) (h' := [.row 42 (List.map Region.av ([] ++ (x :: xs))) 1 true]) (by kernel_rfl) rfl ?_
  refine DK.done (by kernel_rfl) (by kernel_rfl) ?_
  exact AR.ret0 (fn := Try.f18) hG Try.func18 (by kernel_rfl) hc0 (r0 := .sl 42 (List.map Region.av (x :: xs)) false) (by kernel_rfl) (WkV.refl _)
end Go.Proofs.Ytamgbggpbehflaa
namespace Go.Proofs.Ytamgbggpbehflaa
open Go.Sh
noncomputable def lock_New_F : Go.Sh.Fn := ⟨8, bodyOf Try.f8, 4⟩
def lock_New : Locks :=
 ({ held := ([] : List (Int × (List Region))) } : Locks)
theorem lock_New_walk (r : Locks) (H : lock_New = r) : ACalls Try.prog tab.S 8 [] [] (.ptr 0 0 none) [.box 53 [.ref mapK 1], .vals .map (mapAV (intA .i64) (slA 42 Region.av) r.held)] := by
 refine .of_AX lock_New_F Try.func8 fun c0 hc0 => ?_
 rw [lock_New] at H
 refine .sg 3 [] (.rg (.mkM [1] (.sg 3 [0] (.dn ?_))))
 subst H
 exact .ret Try.func8 hc0 [1,0]
noncomputable def z10_F : Go.Sh.Fn := ⟨10, bodyOf Try.f10, 24⟩
def z10 (l : Locks) (txn : Int) : Bool × Locks :=
 ((hasM txn l.held), ({ held := (delM txn l.held) } : Locks))
theorem z10_walk (l : Locks) (txn : Int) (r : Bool × Locks) (H : z10 l txn = r) : ACalls Try.prog tab.S 10 [.ptr 0 0 none, .sc (.int .i64 txn)] [.box 53 [.ref mapK 1], .vals .map (mapAV (intA .i64) (slA 42 Region.av) l.held)] (.sc (.bool r.1)) [.box 53 [.ref mapK 1], .vals .map (mapAV (intA .i64) (slA 42 Region.av) r.2.held)] := by
 refine .of_AX z10_F Try.func10 fun c0 hc0 => ?_
 rw [z10] at H
 refine .sg 8 [0,1] (.rg (.sg 5 [0,1,13,14] (.ml [0,1,15] (ds := [(42, false)]) (slA 42 Region.av) (kl_int (k := .i64) (kt := 3) (by kernel_rfl)) (fun _ => rfl) l.held txn [] true (.sg 5 [0,1,6] (.dn (.sg 1 [0,1,6] (.rg (.sg 5 [6,21,22] (.del [6] (slA 42 Region.av) (kl_int (k := .i64) (kt := 3) (by kernel_rfl)) l.held txn (.dn (.sg 2 [4] ?_)))))))))))
 subst H
 exact .ret Try.func10 hc0 [0,1]
end Go.Proofs.Ytamgbggpbehflaa
namespace Go.Proofs.Ytamgbggpbehflaa
open Go.Sh
section
open Go.RowKit Go.Maps Go.Sort Go.Shelf
def keysL_ren : Go.Shelf.Ren := ⟨fun | 7 => 20 | 10 => 33 | n => n, fun | 23 => 51 | 26 => 3 | 3 => 31 | 28 => 60 | 0 => 0 | 27 => 59 | 33 => 36 | 4 => 4 | n => n, fun | n => n⟩
theorem keysL : Go.Proofs.SlLaysZI.n7 Try.prog keysL_ren where
  mixed := by kernel_rfl
  f7 := ⟨ "maps.Keys[map[int][]podesta/api.Region,int,[]podesta/api.Region]", by decide, Try.func20.trans (congrArg some (by kernel_rfl))⟩
  f10 := ⟨ "maps.Keys[map[int][]podesta/api.Region,int,[]podesta/api.Region]$1", by decide, Try.func33.trans (congrArg some (by kernel_rfl))⟩
  t0 := Try.underlying0
  a0 := Try.isAgg0
  z0 := Try.sizeOf0
  v0 := Try.zeroValue0
  t4 := Try.underlying4
  a4 := Try.isAgg4
  z4 := Try.sizeOf4
  v4 := Try.zeroValue4
  t23 := Try.underlying51
  a23 := Try.isAgg51
  z23 := Try.sizeOf51
  v23 := Try.zeroValue51
  t26 := Try.underlying3
  a26 := Try.isAgg3
  z26 := Try.sizeOf3
  v26 := Try.zeroValue3
  t27 := Try.underlying59
  a27 := Try.isAgg59
  z27 := Try.sizeOf59
  v27 := Try.zeroValue59
  t28 := Try.underlying60
  a28 := Try.isAgg60
  z28 := Try.sizeOf60
  v28 := Try.zeroValue60
  t33 := Try.underlying36
  a33 := Try.isAgg36
  z33 := Try.sizeOf36
  v33 := Try.zeroValue36
def sortedL_ren : Go.Shelf.Ren := ⟨fun | 6 => 19 | 8 => 31 | 9 => 32 | 11 => 41 | 13 => 43 | 12 => 42 | 23 => 54 | 24 => 55 | 14 => 45 | 15 => 46 | 16 => 47 | 17 => 48 | 18 => 49 | 19 => 50 | 20 => 51 | 21 => 52 | 22 => 53 | 25 => 57 | 26 => 58 | 27 => 59 | 28 => 60 | 29 => 61 | 30 => 62 | 31 => 65 | n => n, fun | 26 => 3 | 28 => 60 | 24 => 29 | 0 => 0 | 3 => 3 | 37 => 81 | 48 => 92 | 50 => 23 | 4 => 4 | 40 => 85 | 39 => 84 | 45 => 44 | 5 => 5 | 9 => 9 | 51 => 94 | 55 => 98 | 57 => 104 | 58 => 105 | 33 => 36 | n => n, fun | n => n⟩
theorem sortedL : Go.Proofs.SlLaysZI.n6 Try.prog sortedL_ren where
  mixed := by kernel_rfl
  f6 := ⟨ "slices.Sorted[int]", by decide, Try.func19.trans (congrArg some (by kernel_rfl))⟩
  f8 := ⟨ "slices.Collect[int]", by decide, Try.func31.trans (congrArg some (by kernel_rfl))⟩
  f11 := ⟨ "slices.AppendSeq[[]int,int]", by decide, Try.func41.trans (congrArg some (by kernel_rfl))⟩
  t0 := Try.underlying0
  a0 := Try.isAgg0
  z0 := Try.sizeOf0
  v0 := Try.zeroValue0
  t24 := Try.underlying29
  a24 := Try.isAgg29
  z24 := Try.sizeOf29
  v24 := Try.zeroValue29
  t26 := Try.underlying3
  a26 := Try.isAgg3
  z26 := Try.sizeOf3
  v26 := Try.zeroValue3
  t28 := Try.underlying60
  a28 := Try.isAgg60
  z28 := Try.sizeOf60
  v28 := Try.zeroValue60
  i26 := by kernel_rfl
def sortL_ren : Go.Shelf.Ren := ⟨fun | 5 => 32 | 8 => 43 | 7 => 42 | 19 => 54 | 20 => 55 | 10 => 45 | 11 => 46 | 12 => 47 | 13 => 48 | 14 => 49 | 15 => 50 | 16 => 51 | 17 => 52 | 18 => 53 | 30 => 57 | 31 => 58 | 32 => 59 | 33 => 60 | 34 => 61 | 35 => 62 | 40 => 65 | n => n, fun | 23 => 29 | 25 => 3 | 3 => 3 | 32 => 81 | 22 => 29 | 0 => 0 | 44 => 92 | 46 => 23 | 4 => 4 | 36 => 85 | 35 => 84 | 41 => 44 | 5 => 5 | 9 => 9 | 53 => 94 | 57 => 98 | 63 => 104 | 64 => 105 | n => n, fun | n => n⟩
theorem sortL : Go.Proofs.SlLaysM.n5 Try.prog sortL_ren where
  mixed := by kernel_rfl
  f5 := ⟨ "slices.Sort[[]int,int]", by decide, Try.func32.trans (congrArg some (by kernel_rfl))⟩
  f7 := ⟨ "slices.pdqsortOrdered[int]", by decide, Try.func42.trans (congrArg some (by kernel_rfl))⟩
  f8 := Try.func43.trans (congrArg some (by kernel_rfl))
  f10 := ⟨ "slices.insertionSortOrdered[int]", by decide, Try.func45.trans (congrArg some (by kernel_rfl))⟩
  f11 := ⟨ "slices.heapSortOrdered[int]", by decide, Try.func46.trans (congrArg some (by kernel_rfl))⟩
  f12 := ⟨ "slices.breakPatternsOrdered[int]", by decide, Try.func47.trans (congrArg some (by kernel_rfl))⟩
  f13 := ⟨ "slices.choosePivotOrdered[int]", by decide, Try.func48.trans (congrArg some (by kernel_rfl))⟩
  f14 := ⟨ "slices.reverseRangeOrdered[int]", by decide, Try.func49.trans (congrArg some (by kernel_rfl))⟩
  f15 := ⟨ "slices.partialInsertionSortOrdered[int]", by decide, Try.func50.trans (congrArg some (by kernel_rfl))⟩
  f16 := ⟨ "cmp.Less[int]", by decide, Try.func51.trans (congrArg some (by kernel_rfl))⟩
  f17 := ⟨ "slices.partitionEqualOrdered[int]", by decide, Try.func52.trans (congrArg some (by kernel_rfl))⟩
  f18 := ⟨ "slices.partitionOrdered[int]", by decide, Try.func53.trans (congrArg some (by kernel_rfl))⟩
  f19 := Try.func54.trans (congrArg some (by kernel_rfl))
  f20 := Try.func55.trans (congrArg some (by kernel_rfl))
  f30 := ⟨ "slices.siftDownOrdered[int]", by decide, Try.func57.trans (congrArg some (by kernel_rfl))⟩
  f31 := Try.func58.trans (congrArg some (by kernel_rfl))
  f32 := Try.func59.trans (congrArg some (by kernel_rfl))
  f33 := ⟨ "slices.medianAdjacentOrdered[int]", by decide, Try.func60.trans (congrArg some (by kernel_rfl))⟩
  f34 := ⟨ "slices.medianOrdered[int]", by decide, Try.func61.trans (congrArg some (by kernel_rfl))⟩
  f35 := ⟨ "cmp.isNaN[int]", by decide, Try.func62.trans (congrArg some (by kernel_rfl))⟩
  f40 := ⟨ "slices.order2Ordered[int]", by decide, Try.func65.trans (congrArg some (by kernel_rfl))⟩
  t0 := Try.underlying0
  a0 := Try.isAgg0
  z0 := Try.sizeOf0
  v0 := Try.zeroValue0
  t3 := Try.underlying3
  a3 := Try.isAgg3
  z3 := Try.sizeOf3
  v3 := Try.zeroValue3
  t4 := Try.underlying4
  a4 := Try.isAgg4
  z4 := Try.sizeOf4
  v4 := Try.zeroValue4
  t5 := Try.underlying5
  a5 := Try.isAgg5
  z5 := Try.sizeOf5
  v5 := Try.zeroValue5
  t9 := Try.underlying9
  a9 := Try.isAgg9
  z9 := Try.sizeOf9
  v9 := Try.zeroValue9
  t22 := Try.underlying29
  a22 := Try.isAgg29
  z22 := Try.sizeOf29
  v22 := Try.zeroValue29
  t23 := Try.underlying29
  a23 := Try.isAgg29
  z23 := Try.sizeOf29
  v23 := Try.zeroValue29
  t25 := Try.underlying3
  a25 := Try.isAgg3
  z25 := Try.sizeOf3
  v25 := Try.zeroValue3
  t32 := Try.underlying81
  a32 := Try.isAgg81
  z32 := Try.sizeOf81
  v32 := Try.zeroValue81
  t35 := Try.underlying84
  a35 := Try.isAgg84
  z35 := Try.sizeOf84
  v35 := Try.zeroValue84
  t36 := Try.underlying85
  a36 := Try.isAgg85
  z36 := Try.sizeOf85
  v36 := Try.zeroValue85
  t41 := Try.underlying44
  a41 := Try.isAgg44
  z41 := Try.sizeOf44
  v41 := Try.zeroValue44
  t44 := Try.underlying92
  a44 := Try.isAgg92
  z44 := Try.sizeOf92
  v44 := Try.zeroValue92
  t46 := Try.underlying23
  a46 := Try.isAgg23
  z46 := Try.sizeOf23
  v46 := Try.zeroValue23
  t53 := Try.underlying94
  a53 := Try.isAgg94
  z53 := Try.sizeOf94
  v53 := Try.zeroValue94
  t57 := Try.underlying98
  a57 := Try.isAgg98
  z57 := Try.sizeOf98
  v57 := Try.zeroValue98
  t63 := Try.underlying104
  a63 := Try.isAgg104
  z63 := Try.sizeOf104
  v63 := Try.zeroValue104
  t64 := Try.underlying105
  a64 := Try.isAgg105
  z64 := Try.sizeOf105
  v64 := Try.zeroValue105
theorem sortsL (m : Nat) : AnyZI.SortsIn Try.prog sortedL_ren Fence.wide m :=
  ⟨fun blk off cap ss W hH hblk hsz => callsIn_wide.2 (AnyM.slices_Sort_int sortL blk off cap ss W hH hblk hsz),
   fun p cap W => callsIn_wide.2 (AnyM.slices_Sort_int_none sortL p cap W)⟩
end
section
open Go.RowKit Go.Maps Go.Sort Go.Shelf
set_option maxHeartbeats 1000000 in
theorem all_run {H : Type} (b bm nn : Nat) (D0 : DataW H) (R : Value → Option (DataW H × List MemPlace)) (w : World) (hown : w.ownsMap Try.prog 3 R bm nn D0) (hmax : Maps.size D0 ≤ maxLen) (hbytes : Maps.size D0 * 8 ≤ 140737488355328) (hc : w.cell? ⟨b, 0, none⟩ = some (.map (some bm))) :
    Calls Try.prog 12 #[.pointer (some ⟨b, 0, none⟩)] w fun e w' => ∃ (v : Value) (ss : List Int), e = .returned v ∧ ss.Perm (intKeys D0) ∧
      w'.ownsRow w.heap.size 3 1 v ss.length ((ss.mergeSort (fun x y => decide (x ≤ y))).map encZ) ∧ (v = .slice none 0 0 ↔ ss = []) ∧ Below w.heap.size w w' := by
  refine (callsIn_wide (n := 6)).1 ?_
  have hbl := hown.lt
  have hseq : SeqGives Fence.wide 2 Try.prog 33 #[.pointer (some ⟨w.heap.size, 0, none⟩)] encZ (fun ss => ss.Perm (intKeys D0)) (Maps.size D0) (w.alloc (.cells #[.map (some bm)] 51)) :=
    AnyZI.keys_gives (ρ := keysL_ren) { keysL with } Fence.wide _ trivial rfl (by omega) w.heap.size bm nn D0 _ (by simp) (by simp) (by
      obtain ⟨es, clock, hb, Ft, hs, hD⟩ := hown
      exact ⟨es, clock, (Below.heap_alloc _ _ bm hbl).trans hb, Ft, hs, hD⟩)
  have cK : ∀ mb W, CallsIn Fence.wide 5 Try.prog 20 #[.map mb] W fun e w' => e = .returned (.func (.func 33) #[] #[.pointer (some ⟨W.heap.size, 0, none⟩)]) ∧ w' = W.alloc (.cells #[.map mb] 51) := fun mb W => AnyZI.keys_in keysL Fence.wide 5 trivial rfl mb W
  have cS := AnyZI.sorted_in sortedL Fence.wide 5 trivial trivial trivial trivial rfl (by omega) (sortsL _) (enters_of Try.func32 (by kernel_rfl) rfl) 33 #[.pointer (some ⟨w.heap.size, 0, none⟩)] trivial (enters_of Try.func33 (by kernel_rfl) rfl) _ _ hmax hbytes _ hseq
  change CallsIn _ _ Try.prog 19 _ _ _ at cS
  have hfK : Fence.wide.fn 20 := trivial
  have hfS : Fence.wide.fn 19 := trivial
  refine callsIn_of_wp Try.func12 rfl trivial ?_ rfl
  simp only [Try.ntmps12, List.size_toArray, List.length_cons, List.length_nil, Nat.reduceAdd, Nat.reduceSub, Array.replicate_succ, Array.replicate_zero, List.push_toArray, List.append_toArray, List.nil_append, List.cons_append]
  gi_wp2_with (first
    | (gi_at_call 20; refine (cK _ _).mono ?_; rintro e w' ⟨rfl, rfl⟩)
    | (gi_at_call 19; refine cS.mono ?_; rintro e w' ⟨v, ss, rfl, hS, hrow, hnil, hb⟩))
  go_ret
  exact ⟨v, ss, rfl, hS, ownsRow_base_a hrow (by simp), hnil, ((Below.refl _ w).alloc (Nat.le_refl _) _).trans (hb.mono (by simp))⟩
end
def sortK (l : List Int) : List Int := l.mergeSort fun x y => decide (x ≤ y)
theorem sortK_perm {l l' : List Int} (h : l.Perm l') : sortK l = sortK l' := by
  have tr : ∀ a b c : Int, decide (a ≤ b) = true → decide (b ≤ c) = true → decide (a ≤ c) = true := fun a b c h1 h2 => by
    rw [decide_eq_true_eq] at *; omega
  have to : ∀ a b : Int, (decide (a ≤ b) || decide (b ≤ a)) = true := fun a b => by
    rw [Bool.or_eq_true, decide_eq_true_eq, decide_eq_true_eq]; omega
  unfold sortK
  refine List.Perm.eq_of_pairwise (le := fun a b => decide (a ≤ b) = true) (fun a b _ _ h1 h2 => ?_) (List.pairwise_mergeSort tr to l) (List.pairwise_mergeSort tr to l') (((List.mergeSort_perm l _).trans h).trans (List.mergeSort_perm l' _).symm)
  rw [decide_eq_true_eq] at h1 h2
  omega
def keysOk {V : Type} (m : List (Int × V)) : Bool := decide (m.length * 8 ≤ 140737488355328) && (m.all fun p => decide (-9223372036854775808 ≤ p.1) && decide (p.1 ≤ 9223372036854775807)) && decide (m.map (·.1)).Nodup
section
open Go.RowKit Go.Maps Go.Sort Go.Shelf
theorem mrel_keys {S : Sizes} {C : Ctx} {V : Type} {ev_ : V → AV} : ∀ {m : List (Int × V)} {es : List MapEntry}, MRel S C (intA .i64) ev_ m es → es.map (·.key) = m.map fun p => Value.int .i64 p.1
  | [], [], _ => rfl
  | [], e :: es, h => h.elim
  | p :: m, [], h => h.elim
  | p :: m, e :: es, h => by
    have h1 := (kl_int (P := Try.prog) (S := S) (k := .i64) (kt := 3) (by kernel_rfl)).det h.1
    rw [List.map_cons, List.map_cons, mrel_keys h.2.2, h1]
def anyR : Value → Option (DataW Unit × List MemPlace) := fun _ => some (.nil, [])
theorem fit_of {es : Array MapEntry} {clock : Nat} {S : Sizes} {C : Ctx} {V : Type} {ev_ : V → AV} {m : List (Int × V)} (h : MRel S C (intA .i64) ev_ m es.toList) (hk : keysOk m = true) (h1 : ∀ e ∈ es.toList, e.born < clock) (h2 : (es.toList.map (·.born)).Nodup) :
    Go.WideElems.Fit Try.prog 3 anyR es clock ∧ ∀ e ∈ es.toList, ∃ n : Int, e.key = .int .i64 n ∧ Go.WideElems.rg Try.prog 3 anyR e = (.int .i64 n, .nil) := by
  unfold keysOk at hk
  rw [Bool.and_eq_true, Bool.and_eq_true, decide_eq_true_eq, decide_eq_true_eq] at hk
  obtain ⟨⟨k1, k2⟩, k3⟩ := hk
  have hkeys := mrel_keys h
  have hlen := h.len
  rw [Array.length_toList] at hlen
  have rd1 : ∀ e ∈ es.toList, ∃ n : Int, e.key = .int .i64 n ∧ Go.WideElems.rd Try.prog 3 anyR e = some (.int .i64 n, .nil) := by
    intro e he
    have : e.key ∈ es.toList.map (·.key) := List.mem_map_of_mem he
    rw [hkeys] at this
    obtain ⟨p, hp, hpe⟩ := List.mem_map.1 this
    have hb := List.all_eq_true.1 k2 p hp
    rw [Bool.and_eq_true, decide_eq_true_eq, decide_eq_true_eq] at hb
    refine ⟨p.1, hpe.symm, ?_⟩
    have hkey : keyOf Try.prog 3 (Value.int .i64 p.1) = some (.int .i64 p.1) := by
      have hu : Try.prog.underlying 3 = some (.int .i64) := by kernel_rfl
      have hw : (Lit.int .i64 p.1).wf = true := by
        show (decide (IntKind.i64.min ≤ p.1) && decide (p.1 ≤ IntKind.i64.max)) = true
        rw [decide_eq_true (show IntKind.i64.min ≤ p.1 from hb.1), decide_eq_true (show p.1 ≤ IntKind.i64.max from hb.2)]
        rfl
      simp [keyOf, hu, mapKey, hw]
    unfold Go.WideElems.rd
    rw [← hpe, hkey]
    rfl
  refine ⟨⟨?_, ⟨h1, h2, ?_⟩, fun x hx => ?_⟩, fun e he => ?_⟩
  · unfold maxLen
    omega
  · rw [hkeys, show (m.map fun p => Value.int .i64 p.1) = (m.map (·.1)).map (Value.int .i64) by rw [List.map_map]; rfl]
    refine List.Pairwise.map _ (fun a b hab e => hab ?_) k3
    injection e
  · obtain ⟨n, _, hn⟩ := rd1 x hx
    exact ⟨_, hn⟩
  · obtain ⟨n, hn, hr⟩ := rd1 e he
    refine ⟨n, hn, ?_⟩
    unfold Go.WideElems.rg
    rw [hr]
    rfl
theorem int_box {C : Ctx} {b : Nat} {K : Nat → Value} {o : Nat} {e : TypeId} {h : List AO} (H : HRel tab.S C h) (ho : h[0]? = some (.box e [.ref K o])) (hb : C.m[0]? = some (.blk b)) : ∃ bm, C.m[o]? = some (.blk bm) ∧ C.w.cell? ⟨b, 0, none⟩ = some (K bm) := by
  obtain ⟨cs, h1, h2⟩ := H.rel 0 _ _ ho hb
  obtain ⟨c1, c2, h3, ⟨bm, h4, h5, _⟩, h6⟩ := h2
  refine ⟨bm, h4, ?_⟩
  have h6 : c2 = [] := h6
  rw [h5, h6, List.append_nil] at h3
  unfold World.cell?
  rw [h1]
  show cs[0]? = some (K bm)
  rw [← Array.getElem?_toList, h3]
  rfl
def z12_raw (l : Locks) : Option (List Int × Locks) := bif keysOk l.held then some (sortK (l.held.map (·.1)), l) else none
theorem z12_walk (l : Locks) (r : List Int × Locks) (H : z12_raw l = some r) : ACalls Try.prog tab.S 12 [.ptr 0 0 none] [.box 53 [.ref mapK 1], .vals .map (mapAV (intA .i64) (slA 42 Region.av) l.held)] (.sl 3 (List.map (intA .i64) r.1) false) [.box 53 [.ref mapK 1], .vals .map (mapAV (intA .i64) (slA 42 Region.av) r.2.held)] := by
  unfold z12_raw at H
  cases hk : keysOk l.held with
  | false => rw [hk] at H; cases H
  | true =>
    rw [hk] at H
    injection H with H
    subst H
    refine ⟨ent_of Try.func12 (by kernel_rfl) (by kernel_rfl), fun C vals Hh V => ?_⟩
    obtain ⟨v, hvals, ⟨b, hb, _, hv⟩⟩ : ∃ v, vals = #[v] ∧ RelV tab.S C (.ptr 0 0 none) [v] := by
      generalize hvl : vals.toList = vl at V
      cases V with
      | cons h1 h2 =>
        cases h2
        exact ⟨_, by rw [← Array.toArray_toList (xs := vals), hvl], h1⟩
    injection hv with hv
    subst hvals
    subst hv
    obtain ⟨bm, hbm, hc⟩ := int_box Hh rfl hb
    obtain ⟨ob, vs, g1, g2, es, clock, rfl, rfl, g3, g4⟩ := Hh.rel 1 _ _ rfl hbm
    have hM := mrel_of g2
    obtain ⟨hF, hrg⟩ := fit_of hM hk g3 g4
    have hlen := hM.len
    have hkl : l.held.length * 8 ≤ 140737488355328 := by
      unfold keysOk at hk
      rw [Bool.and_eq_true, Bool.and_eq_true, decide_eq_true_eq] at hk
      exact hk.1.1
    have hsz : ∀ L : List (Lit × DataW Unit), Maps.size (DataW.map L) = L.length := fun L => rfl
    have hperm := Go.WideShapes.sorted_perm (H := Unit) (es.toList.map (Go.WideElems.rg Try.prog 3 anyR))
    have hsize : Maps.size (DataW.map ((es.toList.map (Go.WideElems.rg Try.prog 3 anyR)).foldr DataW.insert [])) = l.held.length := by
      rw [hsz, hperm.length_eq, List.length_map, hlen]
    have hkeys : (intKeys (DataW.map ((es.toList.map (Go.WideElems.rg Try.prog 3 anyR)).foldr DataW.insert []))).Perm (l.held.map (·.1)) := by
      show (((es.toList.map (Go.WideElems.rg Try.prog 3 anyR)).foldr DataW.insert []).map fun p => Go.intOf p.1).Perm _
      refine (hperm.map _).trans ?_
      have hmk := mrel_keys hM
      have : (es.toList.map (Go.WideElems.rg Try.prog 3 anyR)).map (fun p => Go.intOf p.1) = l.held.map (·.1) := by
        have e1 : (es.toList.map (Go.WideElems.rg Try.prog 3 anyR)).map (fun p => Go.intOf p.1) = (es.toList.map (·.key)).map (fun v => match v with | .int _ n => n | _ => 0) := by
          rw [List.map_map, List.map_map]
          refine List.map_congr_left fun e he => ?_
          obtain ⟨n, h1, h2⟩ := hrg e he
          show Go.intOf (Go.WideElems.rg Try.prog 3 anyR e).1 = (match e.key with | .int _ n => n | _ => 0)
          rw [h2, h1]
          rfl
        rw [e1, hmk, List.map_map]
        rfl
      rw [this]
    have run := all_run b bm es.size _ anyR C.w ⟨es, clock, g1, hF, Nat.le_refl _, rfl⟩ (by rw [hsize]; unfold maxLen; omega) (by rw [hsize]; exact hkl) hc
    refine run.mono fun e w' ⟨v, ss, he, hs, hrow, hnil, hbel⟩ => ?_
    have K : Kept C ⟨w', C.m, C.X⟩ := ⟨hbel.os, hbel.tape, hbel.output, hbel.size, hbel.block, rfl, rfl⟩
    refine ⟨v, ⟨w', C.m, C.X⟩, he, rfl, K.toStep.w, Hh.kept K, ?_⟩
    have hsk : ss.mergeSort (fun x y => decide (x ≤ y)) = sortK (l.held.map (·.1)) := sortK_perm (hs.trans hkeys)
    have hl2 : (sortK (l.held.map (·.1))).length = ss.length := by
      rw [← hsk]
      exact List.length_mergeSort ss
    show RelV tab.S ⟨w', C.m, C.X⟩ (.sl 3 (List.map (intA .i64) (sortK (l.held.map (·.1)))) false) [v]
    have hS : tab.S 3 = (1, 8) := by kernel_rfl
    have hrl : (List.map (intA .i64) (sortK (l.held.map (·.1)))).length = ss.length := by rw [List.length_map, hl2]
    rw [hsk] at hrow
    refine ownsG_settled (C := ⟨w', C.m, C.X⟩) (cells := (sortK (l.held.map (·.1))).map encZ) rfl ⟨Nat.le_refl _, fun _ _ _ => rfl, fun _ _ h => h, fun o s hs => by simp [Ctx.flat] at hs⟩ (by rw [hS]; decide) ?_ ?_ ?_ ?_
    · rw [hS, hrl]
      exact ownsG_of hrow
    · rw [hS]
      generalize sortK (l.held.map (·.1)) = L
      induction L with
      | nil => rfl
      | cons x r ih => exact ⟨[encZ x], _, rfl, ⟨rfl, rfl⟩, rfl, ih⟩
    · rw [hS, hrl, ← hl2]
      have : (sortK (l.held.map (·.1))).length = l.held.length := by
        unfold sortK
        rw [List.length_mergeSort, List.length_map]
      rw [this]
      show l.held.length * 8 ≤ reach
      exact hkl
    · intro g hg
      rcases hrow.2 with ⟨rfl, _⟩ | ⟨g', cap, cur, rfl, hge, _⟩
      · cases hg
      · have hg : g' = g := by injection hg
        subst hg
        exact ⟨fun hx => by have := Hh.Xlt g' hx; omega, fun s hsm hsb => by
          obtain ⟨o, ho⟩ := List.mem_iff_getElem?.1 hsm
          have hlt : o < 2 := by
            have h1 : o < C.m.length := (List.getElem?_eq_some_iff.1 ho).1
            have h2 := Hh.len
            simp only [List.length_cons, List.length_nil] at h2
            omega
          have h3 : ∃ ao, ([AO.box 53 [AV.ref mapK 1], AO.vals VK.map (mapAV (intA .i64) (slA 42 Region.av) l.held)] : List AO)[o]? = some ao := ⟨_, List.getElem?_eq_getElem hlt⟩
          obtain ⟨ao, hao⟩ := h3
          have := (Hh.rel o ao s hao ho).lt hsb
          omega⟩
end
noncomputable def z12_nil_F : Go.Sh.Fn := ⟨12, bodyOf Try.f12, 11⟩
def z12_nil : (List Int) :=
  []
theorem z12_nil_calls : ACalls Try.prog tab.S 12 [.sc (.pointer none)] [] (.sl 3 (List.map (intA .i64) (z12_nil)) true) [] := by
  generalize H : z12_nil = r
  refine .of_AX z12_nil_F Try.func12 fun c0 hc0 => ?_
  rw [z12_nil] at H
  refine .sg 8 [2] ?_
  subst H
  exact .ret Try.func12 hc0 [] [(3, true)]
noncomputable def z10_nil_F : Go.Sh.Fn := ⟨10, bodyOf Try.f10, 24⟩
def z10_nil (txn : Int) : Bool :=
  false
theorem z10_nil_calls (txn : Int) : ACalls Try.prog tab.S 10 [.sc (.pointer none), .sc (.int .i64 txn)] [] (.sc (.bool (z10_nil txn))) [] := by
  generalize H : z10_nil txn = r
  refine .of_AX z10_nil_F Try.func10 fun c0 hc0 => ?_
  rw [z10_nil] at H
  refine .sg 8 [4] ?_
  subst H
  exact .ret Try.func10 hc0
end Go.Proofs.Ytamgbggpbehflaa
namespace Go.Proofs.Ytamgbggpbehflaa
open Go.Sh
noncomputable def z11_F : Go.Sh.Fn := ⟨11, bodyOf Try.f11, 42⟩
def z11 (l : Locks) (txn : Int) (rs : List Region) : Int × Locks :=
 bif hasM txn l.held then (5, l) else bif l.held.any (fun p => z17 rs p.2) then (9, l) else (0, { held := putM txn rs l.held })
theorem take_loop (l : Locks) (txn : Int) (rs : List Region) (f_r : Bool) (r : Int × Locks) (c1 : Ctx) (hc1 : c1.m.length = 2) (bm : Nat) (es : Array MapEntry) (clock : Nat) (M : MapAt tab.S c1 (intA .i64) (slA 42 Region.av) l.held 1 bm es clock)
  (H : (bif l.held.any (fun p => z17 rs p.2) then (9, l) else (0, { held := putM txn rs l.held })) = r) :
  ∀ (n : Nat) (seen : Array Nat), (leftOf es seen).size < n → (∀ (i : Nat) (e : MapEntry) (p : Int × List Region), es.toList[i]? = some e → l.held[i]? = some p → seen.contains e.born = true → z17 rs p.2 = false) →
   AX Try.prog tab z11_F c1 (Rp tab.S c1 (.sc (.int .i64 r.1)) [.box 53 [.ref mapK 1], .vals .map (mapAV (intA .i64) (slA 42 Region.av) r.2.held)]) (some ⟨[.code [1, 1, 1, 0, 1, 0, 0], .loop [1, 1, 1, 0, 1, 0], .blk 0, .code [1, 1, 1, 1]], [(0, .ptr 0 0 none), (1, .sc (.int .i64 txn)), (2, .sl 42 (List.map Region.av rs) f_r), (27, .ref iterK 2)], [.box 53 [.ref mapK 1], .any (mapFix bm es clock), .any (iterFix bm clock seen)]⟩) := by
 intro n
 induction n with
 | zero => intro seen hn; omega
 | succ n ih =>
  intro seen hn hseen
  refine .sg 1 [0,1,2,27] (.nx 1 (bm := bm) (seen := seen) M.old (fun hall => ?_) (fun e he hs => ?_))
  ·refine .sg 1 [0,1,2,29] (.dn ?_)
   refine .sg 3 [0,1,2] (.unfix (intA .i64) (slA 42 Region.av) l.held 1 M ?_)
   refine .sg 1 [0,1,2] ?_
   refine .rg (.sg 6 [38,39,40] (.cp [38,39,41] (z18_calls rs f_r) ?_))
   refine .mu [] (slA 42 Region.av) (kl_int (k := .i64) (kt := 3) (by kernel_rfl)) l.held txn rs ?_
   refine .dn ?_
   refine .sg 2 [6] ?_
   have hany : (l.held.any fun p => z17 rs p.2) = false := by
    rw [List.any_eq_false]
    intro p hp
    obtain ⟨i, hi⟩ := List.mem_iff_getElem?.1 hp
    have hlen := M.rel.len
    have hlt : i < es.toList.length := by rw [hlen]; exact (List.getElem?_eq_some_iff.1 hi).1
    rw [hseen i es.toList[i] p (List.getElem?_eq_getElem hlt) hi (hall _ (List.getElem_mem hlt))]
    decide
   rw [hany] at H
   subst H
   exact .ret Try.func11 hc1 [0,1]
  ·refine .sg 1 [0,1,2,27,29] (.dn ?_)
   refine .sg 5 [0,1,2,27] ?_
   refine .en (intA .i64) (slA 42 Region.av) l.held 1 (seen := seen) M he (fun k vs h => by cases h) (fun v vs h => by cases h) (fun p hp hi => ?_)
   refine .sg 2 [0,1,2,10,27] (.dn ?_)
   refine .sg 1 [0,1,2,10,27] ?_
   refine .rg (.sg 2 [0,1,2,27,32,33] (.cp [0,1,2,27,34] (z17_calls rs p.2 f_r false) (.dn ?_)))
   refine AX.cond (z17 rs p.2) (by kernel_rfl) (fun hb => ?_) (fun hb => ?_)
   ·have hany : (l.held.any fun p => z17 rs p.2) = true := List.any_eq_true.2 ⟨p, hp, hb⟩
    rw [hany, cond_true] at H
    subst H
    refine .sg 2 [6] (.unfix (intA .i64) (slA 42 Region.av) l.held 1 M ?_)
    exact .ret Try.func11 hc1 [0,1]
   ·refine .sg 2 [0,1,2,27] (.into (.to (ih (seen.push e.born) ?_ ?_)))
    ·have := left_shrinks es seen e (Array.mem_toList_iff.2 (Array.mem_filter.2 ⟨Array.mem_toList_iff.1 he, by rw [hs]; rfl⟩))
     omega
    ·intro j e' p' hj hp' hc
     rw [contains_push, Bool.or_eq_true] at hc
     rcases hc with hc | hc
     ·exact hseen j e' p' hj hp' hc
     ·obtain ⟨i, hi1, hi2⟩ := hi
      have hee : e' = e := born_inj M.nd (List.mem_iff_getElem?.2 ⟨j, hj⟩) he (by simpa using hc)
      subst hee
      have hij : i = j := by
       obtain ⟨a1, a2⟩ := List.getElem?_eq_some_iff.1 hi1
       obtain ⟨b1, b2⟩ := List.getElem?_eq_some_iff.1 hj
       have hb := M.nd
       have h1 : (es.toList.map (·.born))[i]'(by rw [List.length_map]; exact a1) = (es.toList.map (·.born))[j]'(by rw [List.length_map]; exact b1) := by rw [List.getElem_map, List.getElem_map, a2, b2]
       exact (List.getElem_inj hb).1 h1
      subst hij
      rw [hi2] at hp'
      injection hp' with hp'
      subst hp'
      exact hb
theorem z11_walk (l : Locks) (txn : Int) (rs : List Region) (f_r : Bool) (r : Int × Locks) (H : z11 l txn rs = r) : ACalls Try.prog tab.S 11 [.ptr 0 0 none, .sc (.int .i64 txn), .sl 42 (List.map Region.av rs) f_r] [.box 53 [.ref mapK 1], .vals .map (mapAV (intA .i64) (slA 42 Region.av) l.held)] (.sc (.int .i64 r.1)) [.box 53 [.ref mapK 1], .vals .map (mapAV (intA .i64) (slA 42 Region.av) r.2.held)] := by
 refine .of_AX z11_F Try.func11 fun c0 hc0 => ?_
 rw [z11] at H
 refine .sg 9 [0,1,2] (.rg (.sg 5 [0,1,2,17,18] (.ml [0,1,2,19] (ds := [(42, false)]) (slA 42 Region.av) (kl_int (k := .i64) (kt := 3) (by kernel_rfl)) (fun _ => rfl) l.held txn [] true (.sg 5 [0,1,2,8] (.dn (.sg 2 [0,1,2,22] (.cd (hasM txn l.held) H (fun hb H => ?_) (fun hb H => ?_))))))))
 ·refine .sg 2 [6] ?_
  subst H
  exact .ret Try.func11 hc0 [0,1]
 ·refine .fix (intA .i64) (slA 42 Region.av) l.held 1 2 hc0 fun c1 bm es clock hc1 M => ?_
  refine .sg 3 [0,1,2] (.rg (.sg 4 [0,1,2,26] (.rg [0,1,2,27] bm es clock (.dn (.sg 1 [0,1,2,27] (.into (.to (take_loop l txn rs f_r r c1 hc1 bm es clock M H ((leftOf es #[]).size + 1) #[] (Nat.lt_succ_self _) (fun i e p _ _ hc => ?_)))))))))
  simp at hc
end Go.Proofs.Ytamgbggpbehflaa
namespace Go.Proofs.Ytamgbggpbehflaa
open Go.Sh
noncomputable def z24_F : Go.Sh.Fn := ⟨24, bodyOf Try.f24, 15⟩
def z24 (r2 : Region) (c : Int) (c1 : List Int) : Bool :=
 ((r2.Unit == c) && (cube_Has r2.Cube c1))
theorem z24_calls (r2 : Region) (c : Int) (c1 : List Int) : ACalls Try.prog tab.S 24 [Region.av r2, .ep [.sc (.int .i64 c)] 0 none, .ep [.arr .u64 12 c1] 0 none] [] (.sc (.bool (z24 r2 c c1))) [] := by
 generalize H : z24 r2 c c1 = r
 refine .of_AX z24_F Try.func24 fun c0 hc0 => ?_
 rw [z24] at H
 refine .sg 3 [1,2,3] (.rg (.sg 5 [2,3,9] (.mm 9 (r2.Unit == c) 5 [.pure, .pure, .pure, .read, .pure] [14] 14 (fun z => .sc (.bool (z && (cube_Has r2.Cube c1)))) ?J1 (fun hb J => ?ht1) (fun hb J => ?hf1))))
 case ht1 =>
  exact .sg 3 [9,11,12] (.cp [9,13] (cube_Has_calls r2.Cube c1) (.sg 1 [14] (.cl J)))
 case hf1 =>
  exact .sg 5 [14] (.cl J)
 refine .sg 1 [4] (.dn ?_)
 subst H
 exact .ret Try.func24 hc0
noncomputable def z14_F : Go.Sh.Fn := ⟨14, bodyOf Try.f14, 29⟩
def z14_l0s (unit : Int) (h1 : List Int) (v : (List Int) × Locks) : List Int → Sum (Unit) (Int × Bool × Locks)
 | [] =>
  (.inl ())
 | x :: rest =>
  (bif (z26 (getM x [] v.2.held) (fun y0 => z24 y0 unit h1)) then
   (.inr (x, true, v.2))
  else
   z14_l0s unit h1 v rest )
theorem z14_l0_walk (l : Locks) (unit : Int) (h1 : List Int) (v : (List Int) × Locks) (r : Int × Bool × Locks) (c0 : Ctx) (hc0 : c0.m.length = 2) (res : Sum (Unit) (Int × Bool × Locks)) (J : ∀ w : Unit, res = .inl w → AX Try.prog tab z14_F c0 (Rp tab.S c0 (.tup [.sc (.int .i64 r.1), .sc (.bool r.2.1)]) [.box 53 [.ref mapK 1], .vals .map (mapAV (intA .i64) (slA 42 Region.av) r.2.2.held)]) (some ⟨[.code [1, 1]], [], [.box 53 [.ref mapK 1], .vals .map (mapAV (intA .i64) (slA 42 Region.av) v.2.held), .box 3 [.sc (.int .i64 unit)], .box 25 [.arr .u64 12 h1]]⟩)) (Jr : ∀ w, res = .inr w → w = r) :
  ∀ (rest : List Int) (t14 : Nat) (z : Int) (hI : z = ((t14 : Nat) : Int)) (hd : v.1.drop t14 = rest) (H : z14_l0s unit h1 v rest = res), AX Try.prog tab z14_F c0 (Rp tab.S c0 (.tup [.sc (.int .i64 r.1), .sc (.bool r.2.1)]) [.box 53 [.ref mapK 1], .vals .map (mapAV (intA .i64) (slA 42 Region.av) r.2.2.held)]) (some ⟨[.code [1, 0, 1, 0, 0], .loop [1, 0, 1, 0], .blk 0, .code [1, 1]], [(0, .ptr 0 0 none), (4, .ptr 2 0 none), (5, .ptr 3 0 none), (12, .sl 3 (List.map (intA .i64) v.1) false), (13, .sc (.int .i64 (((List.map (intA .i64) v.1).length : Nat) : Int))), (14, .sc (.int .i64 z))], [.box 53 [.ref mapK 1], .vals .map (mapAV (intA .i64) (slA 42 Region.av) v.2.held), .box 3 [.sc (.int .i64 unit)], .box 25 [.arr .u64 12 h1]]⟩) := by
 intro rest
 induction rest with
 | nil =>
  intro t14 z hI hd  H
  subst hI
  rw [z14_l0s] at H
  refine .facts 12 fun hf => ?_
  have hlen : v.1.length ≤ 9223372036854775807 := by have hq := len_ok hf.2.1; rw [List.length_map] at hq; exact hq
  have hge : v.1.length ≤ t14 := List.drop_eq_nil_iff.1 hd
  have hc : (decide (((t14 : Nat) : Int) < (((List.map (intA .i64) v.1).length : Nat) : Int))) = false := by rw [List.length_map]; exact decide_eq_false (by omega)
  exact .sg 3 [0,4,5,12,13,14,15] (.cdF hc (.sg 1 [] (.kp [] (.to (J () H.symm)))))
 | cons x rest ih =>
  intro t14 z hI hd  H
  subst hI
  rw [z14_l0s] at H
  refine .facts 12 fun hf => ?_
  have hlen : v.1.length ≤ 9223372036854775807 := by have hq := len_ok hf.2.1; rw [List.length_map] at hq; exact hq
  obtain ⟨hlt, hv_t14, hd2⟩ := drop_cons hd
  have hc : (decide (((t14 : Nat) : Int) < (((List.map (intA .i64) v.1).length : Nat) : Int))) = true := by rw [List.length_map]; exact decide_eq_true (by omega)
  have hw : IntKind.i64.wrap (((t14 : Nat) : Int) + 1) = ((t14 + 1 : Nat) : Int) := wrapI_succ (by omega)
  refine .sg 3 [0,4,5,12,13,14,15] (.cdT hc (.sg 4 [0,4,5,12,13,14] (.rg (.xi [0,4,5,12,13,14,16] (intA .i64) hv_t14 (.sg 2 [0,4,5,9,12,13,14] (.dn (.sg 3 [0,4,5,9,10,12,13,14] (.rg (.sg 5 [0,4,5,9,10,12,13,14,22,23] (.ml [0,4,5,9,10,12,13,14,24] (ds := [(42, false)]) (slA 42 Region.av) (kl_int (k := .i64) (kt := 3) (by kernel_rfl)) (fun _ => rfl) v.2.held x [] false (.sg 1 [0,4,5,9,12,13,14,24,25] (.cl_ [0,4,5,9,12,13,14,26] (caps := []) (z26_calls (getM x [] v.2.held) 24 [.ep [.sc (.int .i64 unit)] 0 none, .ep [.arr .u64 12 h1] 0 none] (fun y0 => z24 y0 unit h1) rfl rfl (fun y0 => z24_calls y0 unit h1) false) (.same rfl (.fn (caps := [.ptr 2 0 none, .ptr 3 0 none]) (by kernel_rfl) .nil)) (by kernel_rfl) rfl rfl (.dn (.cd (z26 (getM x [] v.2.held) (fun y0 => z24 y0 unit h1)) H (fun hb H => ?_) (fun hb H => ?_)))))))))))))))
  ·
   refine .sg 2 [6,7] ?_
   subst H
   obtain rfl := Jr _ rfl
   exact .ret Try.func14 hc0 [0,1]
  ·
   exact .sg 3 [0,4,5,12,13,14] (.kp [0,4,5,12,13,14] (.into (.cl (ih (t14 + 1) _ hw hd2 H))))
def z14_raw (l : Locks) (unit : Int) (h1 : List Int) : Option (Int × Bool × Locks) :=
 (z12_raw l).bind fun v =>
 sumG (fun q => some q) (z14_l0s unit h1 v v.1) fun v1 =>
 some (0, false, v.2)
theorem z14_walk (l : Locks) (unit : Int) (h1 : List Int) (r : Int × Bool × Locks) (H : z14_raw l unit h1 = some r) : ACalls Try.prog tab.S 14 [.ptr 0 0 none, .sc (.int .i64 unit), .arr .u64 12 h1] [.box 53 [.ref mapK 1], .vals .map (mapAV (intA .i64) (slA 42 Region.av) l.held)] (.tup [.sc (.int .i64 r.1), .sc (.bool r.2.1)]) [.box 53 [.ref mapK 1], .vals .map (mapAV (intA .i64) (slA 42 Region.av) r.2.2.held)] := by
 refine .of_AX z14_F Try.func14 fun c0 hc0 => ?_
 rw [z14_raw] at H
 refine .sg 4 [0,4,5] (.rg (.sg 1 [0,4,5,11] (bndO H fun v hv H => (.ch [0,4,5,12] [0,1] (z12_walk _ v hv) (.sg 2 [0,4,5,12,13,14] (.dn (.sg 1 [0,4,5,12,13,14] ?_)))))))
 rcases sumG_eq H with ⟨v1, hv, H⟩ | ⟨r1, hv, hr1⟩
 case inr =>
  refine .into ?_
  obtain rfl := Option.some.inj hr1
  exact .to (z14_l0_walk l unit h1 v _ c0 hc0 (.inr _) (fun _ e => by cases e) (fun _ e => (Sum.inr.inj e).symm) v.1 0 _ rfl rfl hv)
 refine .into (.to (z14_l0_walk l unit h1 v r c0 hc0 (.inl v1) (fun w e => ?_) (fun _ e => by cases e) v.1 0 _ rfl rfl hv))
 have e := Sum.inl.inj e
 subst e
 refine .sg 2 [6,7] ?_
 obtain rfl := Option.some.inj H
 exact .ret Try.func14 hc0 [0,1]
noncomputable def z11_nil_F : Go.Sh.Fn := ⟨11, bodyOf Try.f11, 42⟩
def z11_nil (txn : Int) (r2 : List Region) : Int :=
 1
theorem z11_nil_calls (txn : Int) (r2 : List Region) (f_r2 : Bool) : ACalls Try.prog tab.S 11 [.sc (.pointer none), .sc (.int .i64 txn), .sl 42 (List.map Region.av r2) f_r2] [] (.sc (.int .i64 (z11_nil txn r2))) [] := by
 generalize H : z11_nil txn r2 = r
 refine .of_AX z11_nil_F Try.func11 fun c0 hc0 => ?_
 rw [z11_nil] at H
 refine .sg 8 [6] ?_
 subst H
 exact .ret Try.func11 hc0
def z14_nil (unit : Int) (h1 : List Int) : Int × Bool := (0, false)
theorem z14_nil_calls (unit : Int) (h1 : List Int) : ACalls Try.prog tab.S 14 [.sc (.pointer none), .sc (.int .i64 unit), .arr .u64 12 h1] [] (.tup [.sc (.int .i64 (z14_nil unit h1).1), .sc (.bool (z14_nil unit h1).2)]) [] := by
 refine .of_AX z14_F Try.func14 fun c0 hc0 => ?_
 refine .sg 4 [0,4,5] (.rg (.sg 1 [0,4,5,11] (.cp [12] (z12_nil_calls) (.sg 2 [12,13,14] (.dn (.sg 1 [12,13,14] (.into (.sg 3 [12,13,14,15] (.cdF (b := decide ((0 : Int) < (((List.map (intA .i64) z12_nil).length : Nat) : Int))) rfl (.sg 1 [] (.sg 2 [6,7] ?_)))))))))))
 exact .ret Try.func14 hc0
end Go.Proofs.Ytamgbggpbehflaa
namespace Go.Proofs.Ytamgbggpbehflaa
open Go.Sh
noncomputable def z7_F : Go.Sh.Fn := ⟨7, bodyOf Try.f7, 43⟩
def z7_raw : Option (Bool) :=
 letT (lock_New) fun v =>
 letT (z11 v 1 [({ Unit := 0, Cube := ({ Value := [0, 0, 0, 0, 0, 0, 0, 0, 0, 0, 0, 0], Care := [0, 0, 0, 0, 0, 0, 0, 0, 0, 0, 0, 0] } : Cube) } : Region)]) fun v1 =>
 letT (z11 v1.2 2 [({ Unit := 0, Cube := ({ Value := [0, 0, 0, 0, 0, 0, 0, 0, 0, 0, 0, 0], Care := [0, 0, 0, 0, 0, 0, 0, 0, 0, 0, 0, 0] } : Cube) } : Region)]) fun v2 =>
 (z14_raw v2.2 0 [0, 0, 0, 0, 0, 0, 0, 0, 0, 0, 0, 0]).bind fun v3 =>
 (bif ((((v1.1 == 0) && (v2.1 == 9)) && (v3.1 == 1)) && v3.2.1) then
  letT (z10 v3.2.2 1) fun v4 =>
  (bif v4.1 then
   letT (z10 v4.2 1) fun v5 =>
   some (!v5.1)
  else
   some false)
 else
  some false)
theorem z7_walk (r : Bool) (H : z7_raw = some r) : ACalls Try.prog tab.S 7 [] [] (.sc (.bool r)) [] := by
 refine .of_AX z7_F Try.func7 fun c0 hc0 => ?_
 rw [z7_raw] at H
 refine .sg 3 [] (.rg (letH H fun v hv H => (.ch [6] [] (lock_New_walk v hv) (.sg 1 [1] (.dn (.sg 1 [1] (.rg (.sg 3 [1,7,9] (letH H fun v1 hv H => (.ch [1,10] [0,1] (z11_walk _ _ _ true v1 hv) (.sg 1 [1,2] (.dn (.sg 1 [1,2] (.rg (.sg 3 [1,2,11,13] (letH H fun v2 hv H => (.ch [1,2,14] [0,1] (z11_walk _ _ _ true v2 hv) (.sg 1 [1,2,3] (.dn (.sg 1 [1,2,3] (.rg (.sg 2 [1,2,3,16,17] (bndO H fun v3 hv H => (.ch [1,2,3,18] [0,1] (z14_walk _ _ _ v3 hv) (.sg 5 [1,2,3,4,5] (.dn (.sg 1 [1,2,3,4,5] (.rg (.sg 3 [1,3,4,5,23] (.mx 0 [1,4,5,26] (.sg 1 [1,4,5,27] (.mx 0 [1,5,30] (.sg 1 [1,5,31] (.mx 0 [1,33] (.sg 1 [1,34] (.sp 34 ((((v1.1 == 0) && (v2.1 == 9)) && (v3.1 == 1)) && v3.2.1) H (fun hb H => ?_) (fun hb H => ?_)))))))))))))))))))))))))))))))))))))
 ·
  refine .sg 1 [1,34,35] (letH H fun v4 hv H => (.ch [1,34,36] [0,1] (z10_walk _ _ v4 hv) (.sg 2 [1,38] (.sp 38 v4.1 H (fun hb H => ?_) (fun hb H => ?_)))))
  ·
   refine .sg 1 [38,39] (letH H fun v5 hv H => (.ch [38,40] [0,1] (z10_walk _ _ v5 hv) (.sg 3 [0] (.dn ?_))))
   obtain rfl := Option.some.inj H
   exact .ret Try.func7 hc0
  ·
   refine .sg 5 [0] (.dn ?_)
   obtain rfl := Option.some.inj H
   exact .ret Try.func7 hc0
 ·
  refine .sg 9 [0] (.dn ?_)
  obtain rfl := Option.some.inj H
  exact .ret Try.func7 hc0
theorem z7_ok : ACalls Try.prog tab.S 7 [] [] (.sc (.bool true)) [] := z7_walk true (by kernel_rfl)
end Go.Proofs.Ytamgbggpbehflaa
namespace Go.Proofs.Ytamgbggpbehflaa
open Go.Sh
open Go.ChangeShapes Go.WideShapes Go.ChangeAt Go.RowKit
def Cube.wf (x : Cube) : Prop := arrW .u64 12 x.Value ∧ arrW .u64 12 x.Care
theorem Cube.shaped {gs : List AV} (h : Shaped tab 40 gs) : ∃ x : Cube, gs = [.arr .u64 12 x.Value, .arr .u64 12 x.Care] ∧ x.wf := by
 obtain ⟨gss, rfl, hl, hf⟩ := Shaped.struct_inv (fl := [(0, 25), (12, 25)]) (by kernel_rfl) h
 match gss, hl, hf with
 | [g0, g1], _, hf =>
  obtain ⟨x0, rfl, w0⟩ := Shaped.arr_inv (n := 12) (e := 23) (k := .u64) (by kernel_rfl) (by kernel_rfl) (hf 0 _ _ rfl rfl)
  obtain ⟨x1, rfl, w1⟩ := Shaped.arr_inv (n := 12) (e := 23) (k := .u64) (by kernel_rfl) (by kernel_rfl) (hf 1 _ _ rfl rfl)
  exact ⟨⟨x0, x1⟩, rfl, ⟨w0, w1⟩⟩
def Region.wf (x : Region) : Prop := intW .i64 x.Unit ∧ Cube.wf x.Cube
theorem Region.shaped {gs : List AV} (h : Shaped tab 42 gs) : ∃ x : Region, gs = [.sc (.int .i64 x.Unit), .arr .u64 12 x.Cube.Value, .arr .u64 12 x.Cube.Care] ∧ x.wf := by
 obtain ⟨gss, rfl, hl, hf⟩ := Shaped.struct_inv (fl := [(0, 3), (1, 40)]) (by kernel_rfl) h
 match gss, hl, hf with
 | [g0, g1], _, hf =>
  obtain ⟨x0, rfl, w0⟩ := Shaped.int_inv (k := .i64) (by kernel_rfl) (hf 0 _ _ rfl rfl)
  obtain ⟨x1, rfl, w1⟩ := Cube.shaped (hf 1 _ _ rfl rfl)
  exact ⟨⟨x0, x1⟩, rfl, ⟨w0, w1⟩⟩
end Go.Proofs.Ytamgbggpbehflaa
namespace Go.Proofs.Ytamgbggpbehflaa
open Go.Sh
noncomputable def z5_F : Go.Sh.Fn := ⟨5, bodyOf Try.f5, 45⟩
def z5 (txn : Int) (r2 : List Region) (h1 : List Int) : Bool :=
 ((((((z11_nil txn r2) == 1) && (!(z10_nil txn))) && ((z14_nil txn h1).1 == 0)) && (!(z14_nil txn h1).2)) && ((((List.map (intA .i64) z12_nil).length : Nat) : Int) == 0))
theorem z5_calls (txn : Int) (r2 : List Region) (h1 : List Int) (f_r2 : Bool) : ACalls Try.prog tab.S 5 [.sc (.int .i64 txn), .sl 42 (List.map Region.av r2) f_r2, .arr .u64 12 h1] [] (.sc (.bool (z5 txn r2 h1))) [] := by
 generalize H : z5 txn r2 h1 = r
 refine .of_AX z5_F Try.func5 fun c0 hc0 => ?_
 rw [z5] at H
 refine .sg 5 [0,1,5,7] (.rg (.sg 3 [0,1,7,11,12,13] (.cp [0,1,7,14] (z14_nil_calls txn h1) (.sg 5 [0,1,7,8,9] (.dn (.sg 1 [0,1,7,8,9] (.rg (.cp [0,1,7,8,9,17] (z7_ok) (.sg 4 [0,7,8,9,18,19,20,21] (.cp [0,7,8,9,18,22] (z11_nil_calls txn r2 f_r2) (.sg 3 [0,7,8,9,25] (.mm 25 ((z11_nil txn r2) == 1) 5 [.pure, .pure, .pure, .pure, .pure] [7, 8, 9, 30] 30 (fun z => .sc (.bool (z && (!(z10_nil txn))))) ?J1 (fun hb J => ?ht1) (fun hb J => ?hf1)))))))))))))
 case ht1 =>
  exact .sg 2 [7,8,9,25,26,27] (.cp [7,8,9,25,28] (z10_nil_calls txn) (.sg 2 [7,8,9,30] (.cl J)))
 case hf1 =>
  exact .sg 5 [7,8,9,30] (.cl J)
 refine .sg 1 [7,8,9,31] (.mx 0 [7,9,34] (.sg 1 [7,9,35] (.mx 0 [7,38] (.sg 1 [7,39] (.mm 39 (((((z11_nil txn r2) == 1) && (!(z10_nil txn))) && ((z14_nil txn h1).1 == 0)) && (!(z14_nil txn h1).2)) 5 [.pure, .pure, .pure, .pure, .pure] [44] 44 (fun z => .sc (.bool (z && ((((List.map (intA .i64) z12_nil).length : Nat) : Int) == 0)))) ?J4 (fun hb J => ?ht4) (fun hb J => ?hf4))))))
 case ht4 =>
  exact .sg 1 [39,40] (.cp [39,41] (z12_nil_calls) (.sg 3 [44] (.cl J)))
 case hf4 =>
  exact .sg 5 [44] (.cl J)
 refine .sg 1 [6] (.dn ?_)
 subst H
 exact .ret Try.func5 hc0
theorem LockNone_true (x0 : Int) (x1 : List Region) (x2 : List Int) (w0 : intW .i64 x0) (w1 : (∀ y ∈ x1, Region.wf y)) (w2 : arrW .u64 12 x2) : z5 x0 x1 x2 = true := rfl
end Go.Proofs.Ytamgbggpbehflaa