import Derived.Test.YtadolbhmdimbkaaM2RuleFinds
set_option linter.unusedVariables false
set_option linter.unusedSimpArgs false
set_option maxRecDepth 100000
set_option maxHeartbeats 4000000
namespace Go.Proofs.Ytadolbhmdimbkaa
open Go.Sh
/-! ### cube.Has: function 31 -/
noncomputable def cube_Has_F : Go.Sh.Fn := ⟨31, bodyOf Try.f31, 30⟩
def cube_Has_k1 : List Kd := [.pure, .pure, .pure, .pure, .read, .pure, .pure, .pure, .pure, .read, .pure]
def cube_Has_k0 : List Kd := [.pure, .pure, .pure, .pure]
def cube_Has_k2 : List Kd := [.read, .pure, .pure, .read, .pure, .pure, .pure]
def cube_Has_l0s (c : Cube) (h1 : List Int) : Nat → Nat → Sum (Unit) (Bool)
  | 0, t8 =>
    (.inl ())
  | rest + 1, t8 =>
    (bif ((IntKind.u64.wrap ((BitVec.ofInt 64 (h1.getD t8 0) &&& BitVec.ofInt 64 (c.Care.getD (t8) 0)).toNat)) != (c.Value.getD (t8) 0)) then
      (.inr false)
    else
      cube_Has_l0s c h1 rest (t8 + 1) )
theorem cube_Has_l0_walk (c : Cube) (h1 : List Int) (r : Bool) (c0 : Ctx) (hc0 : c0.m.length = 0) (res : Sum (Unit) (Bool)) (J : ∀ w : Unit, res = .inl w → AR Try.prog tab cube_Has_F c0 (Rp tab.S c0 (.sc (.bool r)) []) [.code [1, 1]] [(2, .ptr 0 0 none), (3, .ptr 1 0 none)] [.box 31 (Cube.ch c), .box 25 [.arr .u64 12 h1]]) (Jr : ∀ w, res = .inr w → w = r) :
    ∀ (rest : Nat) (t8 : Nat) (hd : t8 + rest = 12) (H : cube_Has_l0s c h1 rest t8 = res), AR Try.prog tab cube_Has_F c0 (Rp tab.S c0 (.sc (.bool r)) []) [.code [1, 0, 1, 0, 0], .loop [1, 0, 1, 0], .blk 0, .code [1, 1]] [(2, .ptr 0 0 none), (3, .ptr 1 0 none), (7, .arr .u64 12 h1), (8, .sc (.int .i64 ((t8 : Nat) : Int)))] [.box 31 (Cube.ch c), .box 25 [.arr .u64 12 h1]] := by
  have hG := tab_ok
  have hm := mixed
  intro rest
  induction rest with
  | zero =>
    intro t8 hd  H
    rw [cube_Has_l0s] at H
    have hc : (decide (((t8 : Nat) : Int) < 12)) = false := decide_eq_false (by omega)
    refine AR.seg hG hm 3 [2, 3, 7, 8, 9] (k' := [.code [1, 0, 1, 0, 0, 1, 0], .code [1, 0, 1, 0, 0, 1, 1], .loop [1, 0, 1, 0], .blk 0, .code [1, 1]]) (t' := [(2, .ptr 0 0 none), (3, .ptr 1 0 none), (7, .arr .u64 12 h1), (8, .sc (.int .i64 ((t8 : Nat) : Int))), (9, .sc (.bool (decide (((t8 : Nat) : Int) < 12))))]) (h' := [.box 31 (Cube.ch c), .box 25 [.arr .u64 12 h1]]) (by kernel_rfl) ?_
    refine AR.cond (.tmp 9) (decide (((t8 : Nat) : Int) < 12)) (by kernel_rfl) (by kernel_rfl) (fun hb => ?ht7) (fun hb => ?hf7)
    case ht7 => exact absurd (hb.symm.trans hc) (by decide)
    case hf7 =>
      refine AR.seg hG hm 1 [2, 3] (k' := [.code [1, 1]]) (t' := [(2, .ptr 0 0 none), (3, .ptr 1 0 none)]) (h' := [.box 31 (Cube.ch c), .box 25 [.arr .u64 12 h1]]) (by kernel_rfl) ?_
      refine AR.keep [2, 3] (t' := [(2, .ptr 0 0 none), (3, .ptr 1 0 none)]) (by kernel_rfl) ?_
      exact J () H.symm
  | succ rest ih =>
    intro t8 hd  H
    rw [cube_Has_l0s] at H
    have hlt_t8 : t8 < 12 := by omega
    have hc : (decide (((t8 : Nat) : Int) < 12)) = true := decide_eq_true (by omega)
    have hw : IntKind.i64.wrap (((t8 : Nat) : Int) + 1) = ((t8 + 1 : Nat) : Int) := wrapI_succ (by omega)
    refine AR.seg hG hm 3 [2, 3, 7, 8, 9] (k' := [.code [1, 0, 1, 0, 0, 1, 0], .code [1, 0, 1, 0, 0, 1, 1], .loop [1, 0, 1, 0], .blk 0, .code [1, 1]]) (t' := [(2, .ptr 0 0 none), (3, .ptr 1 0 none), (7, .arr .u64 12 h1), (8, .sc (.int .i64 ((t8 : Nat) : Int))), (9, .sc (.bool (decide (((t8 : Nat) : Int) < 12))))]) (h' := [.box 31 (Cube.ch c), .box 25 [.arr .u64 12 h1]]) (by kernel_rfl) ?_
    refine AR.cond (.tmp 9) (decide (((t8 : Nat) : Int) < 12)) (by kernel_rfl) (by kernel_rfl) (fun hb => ?ht8) (fun hb => ?hf8)
    case ht8 =>
      refine AR.seg hG hm 4 [2, 3, 7, 8] (k' := [.code [1, 0, 1, 0, 0, 1, 1, 0, 0, 0], .code [1, 0, 1, 0, 0, 1, 1, 0, 0, 1], .blk 1, .code [1, 0, 1, 0, 0, 1, 1, 1], .loop [1, 0, 1, 0], .blk 0, .code [1, 1]]) (t' := [(2, .ptr 0 0 none), (3, .ptr 1 0 none), (7, .arr .u64 12 h1), (8, .sc (.int .i64 ((t8 : Nat) : Int)))]) (h' := [.box 31 (Cube.ch c), .box 25 [.arr .u64 12 h1]]) (by kernel_rfl) ?_
      refine AR.reg hm cube_Has_k0 (by kernel_rfl) ?_
      refine DK.seg hG 1 [2, 3, 7, 8, 10] (t' := [(2, .ptr 0 0 none), (3, .ptr 1 0 none), (7, .arr .u64 12 h1), (8, .sc (.int .i64 ((t8 : Nat) : Int))), (10, .sc (.int .i64 ((t8 : Nat) : Int)))]) (h' := [.box 31 (Cube.ch c), .box 25 [.arr .u64 12 h1]]) (by kernel_rfl) rfl ?_
      have hreq := idx_in 12 hlt_t8 (by decide)
      refine DK.op' [2, 3, 7, 8, 10, 11] (t' := [(2, .ptr 0 0 none), (3, .ptr 1 0 none), (7, .arr .u64 12 h1), (8, .sc (.int .i64 ((t8 : Nat) : Int))), (10, .sc (.int .i64 ((t8 : Nat) : Int))), (11, .sc (.int .u64 (h1.getD t8 0)))]) (h' := [.box 31 (Cube.ch c), .box 25 [.arr .u64 12 h1]]) (LSpec.idxVal (k := .u64) (m := 12) (j := ((t8 : Nat) : Int)) (xs := h1) hG hreq (by kernel_rfl)) (by kernel_rfl) rfl (by kernel_rfl) rfl ?_
      refine DK.seg hG 2 [2, 3, 5, 6, 7, 8] (t' := [(2, .ptr 0 0 none), (3, .ptr 1 0 none), (5, .sc (.int .i64 ((t8 : Nat) : Int))), (6, .sc (.int .u64 (h1.getD t8 0))), (7, .arr .u64 12 h1), (8, .sc (.int .i64 ((t8 : Nat) : Int)))]) (h' := [.box 31 (Cube.ch c), .box 25 [.arr .u64 12 h1]]) (by kernel_rfl) rfl ?_
      refine DK.done (by kernel_rfl) (by kernel_rfl) ?_
      refine AR.seg hG hm 1 [2, 3, 5, 6, 7, 8] (k' := [.code [1, 0, 1, 0, 0, 1, 1, 0, 0, 1, 0], .code [1, 0, 1, 0, 0, 1, 1, 0, 0, 1, 1], .blk 1, .code [1, 0, 1, 0, 0, 1, 1, 1], .loop [1, 0, 1, 0], .blk 0, .code [1, 1]]) (t' := [(2, .ptr 0 0 none), (3, .ptr 1 0 none), (5, .sc (.int .i64 ((t8 : Nat) : Int))), (6, .sc (.int .u64 (h1.getD t8 0))), (7, .arr .u64 12 h1), (8, .sc (.int .i64 ((t8 : Nat) : Int)))]) (h' := [.box 31 (Cube.ch c), .box 25 [.arr .u64 12 h1]]) (by kernel_rfl) ?_
      refine AR.reg hm cube_Has_k1 (by kernel_rfl) ?_
      refine DK.seg hG 3 [2, 3, 5, 7, 8, 12, 13, 14] (t' := [(2, .ptr 0 0 none), (3, .ptr 1 0 none), (5, .sc (.int .i64 ((t8 : Nat) : Int))), (7, .arr .u64 12 h1), (8, .sc (.int .i64 ((t8 : Nat) : Int))), (12, .sc (.int .u64 (h1.getD t8 0))), (13, .sc (.int .i64 ((t8 : Nat) : Int))), (14, .ptr 0 12 none)]) (h' := [.box 31 (Cube.ch c), .box 25 [.arr .u64 12 h1]]) (by kernel_rfl) rfl ?_
      have hreq := idx_in 12 hlt_t8 (by decide)
      refine DK.op' [2, 3, 5, 7, 8, 12, 15] (t' := [(2, .ptr 0 0 none), (3, .ptr 1 0 none), (5, .sc (.int .i64 ((t8 : Nat) : Int))), (7, .arr .u64 12 h1), (8, .sc (.int .i64 ((t8 : Nat) : Int))), (12, .sc (.int .u64 (h1.getD t8 0))), (15, .ptr 0 12 (some (t8, 12)))]) (h' := [.box 31 (Cube.ch c), .box 25 [.arr .u64 12 h1]]) (LSpec.idxPtr (o := 0) (off := 12) (m := 12) (j := ((t8 : Nat) : Int)) hG hreq (by kernel_rfl)) (by kernel_rfl) rfl (by kernel_rfl) rfl ?_
      refine DK.seg hG 4 [2, 3, 7, 8, 17, 18, 19] (t' := [(2, .ptr 0 0 none), (3, .ptr 1 0 none), (7, .arr .u64 12 h1), (8, .sc (.int .i64 ((t8 : Nat) : Int))), (17, .sc (.int .u64 (IntKind.u64.wrap ((BitVec.ofInt 64 (h1.getD t8 0) &&& BitVec.ofInt 64 (c.Care.getD (t8) 0)).toNat)))), (18, .sc (.int .i64 ((t8 : Nat) : Int))), (19, .ptr 0 0 none)]) (h' := [.box 31 (Cube.ch c), .box 25 [.arr .u64 12 h1]]) (by kernel_rfl) rfl ?_
      have hreq := idx_in 12 hlt_t8 (by decide)
      refine DK.op' [2, 3, 7, 8, 17, 20] (t' := [(2, .ptr 0 0 none), (3, .ptr 1 0 none), (7, .arr .u64 12 h1), (8, .sc (.int .i64 ((t8 : Nat) : Int))), (17, .sc (.int .u64 (IntKind.u64.wrap ((BitVec.ofInt 64 (h1.getD t8 0) &&& BitVec.ofInt 64 (c.Care.getD (t8) 0)).toNat)))), (20, .ptr 0 0 (some (t8, 12)))]) (h' := [.box 31 (Cube.ch c), .box 25 [.arr .u64 12 h1]]) (LSpec.idxPtr (o := 0) (off := 0) (m := 12) (j := ((t8 : Nat) : Int)) hG hreq (by kernel_rfl)) (by kernel_rfl) rfl (by kernel_rfl) rfl ?_
      refine DK.seg hG 2 [2, 3, 7, 8, 22] (t' := [(2, .ptr 0 0 none), (3, .ptr 1 0 none), (7, .arr .u64 12 h1), (8, .sc (.int .i64 ((t8 : Nat) : Int))), (22, .sc (.bool ((IntKind.u64.wrap ((BitVec.ofInt 64 (h1.getD t8 0) &&& BitVec.ofInt 64 (c.Care.getD (t8) 0)).toNat)) != (c.Value.getD (t8) 0))))]) (h' := [.box 31 (Cube.ch c), .box 25 [.arr .u64 12 h1]]) (by kernel_rfl) rfl ?_
      refine DK.done (by kernel_rfl) (by kernel_rfl) ?_
      refine AR.cond (.tmp 22) ((IntKind.u64.wrap ((BitVec.ofInt 64 (h1.getD t8 0) &&& BitVec.ofInt 64 (c.Care.getD (t8) 0)).toNat)) != (c.Value.getD (t8) 0)) (by kernel_rfl) (by kernel_rfl) (fun hb => ?ht9) (fun hb => ?hf9)
      case ht9 =>
        replace H := cond_t hb H
        refine AR.seg hG hm 2 [4] (k' := [.code [1, 0, 1, 0, 0, 1, 1, 0, 0, 1, 1, 0, 1], .blk 1, .code [1, 0, 1, 0, 0, 1, 1, 1], .loop [1, 0, 1, 0], .blk 0, .code [1, 1]]) (t' := [(4, .sc (.bool false))]) (h' := [.box 31 (Cube.ch c), .box 25 [.arr .u64 12 h1]]) (by kernel_rfl) ?_
        subst H
        obtain rfl := Jr _ rfl
        exact AR.ret0 (fn := Try.f31) hG Try.func31 (by kernel_rfl) hc0 (r0 := .sc (.bool false)) (by kernel_rfl) (WkV.refl _)
      case hf9 =>
        replace H := cond_f hb H
        refine AR.seg hG hm 3 [2, 3, 7, 8] (k' := [.loop [1, 0, 1, 0], .blk 0, .code [1, 1]]) (t' := [(2, .ptr 0 0 none), (3, .ptr 1 0 none), (7, .arr .u64 12 h1), (8, .sc (.int .i64 (IntKind.i64.wrap (((t8 : Nat) : Int) + 1))))]) (h' := [.box 31 (Cube.ch c), .box 25 [.arr .u64 12 h1]]) (by kernel_rfl) ?_
        refine AR.keep [2, 3, 7, 8] (t' := [(2, .ptr 0 0 none), (3, .ptr 1 0 none), (7, .arr .u64 12 h1), (8, .sc (.int .i64 (IntKind.i64.wrap (((t8 : Nat) : Int) + 1))))]) (by kernel_rfl) ?_
        refine AR.loop_round ?_
        rw [hw]
        exact ih (t8 + 1) (by omega) H
    case hf8 => exact absurd (hc.symm.trans hb) (by decide)

def cube_Has (c : Cube) (h1 : List Int) : Bool :=
  sumG (fun q => q) (cube_Has_l0s c h1 12 0) fun v =>
  ((cube_Sound c) && (head_Sound h1))
theorem cube_Has_walk (c : Cube) (h1 : List Int) (r : Bool) (H : cube_Has c h1 = r) :
    ACalls Try.prog tab.S 31 [Cube.av c, .arr .u64 12 h1] [] (.sc (.bool r)) [] := by
  have hG := tab_ok
  have hm := mixed
  refine ACalls.of_AR (G := tab) cube_Has_F (fn := Try.f31) Try.func31 (by kernel_rfl) (by kernel_rfl) (by kernel_rfl) (Nat.le_of_ble_eq_true (by kernel_rfl)) ?_
  intro c0 hc0
  replace hc0 : c0.m.length = 0 := hc0
  rw [cube_Has] at H
  refine AR.seg hG hm 6 [2, 3, 7, 8] (k' := [.code [1, 0, 1, 0], .blk 0, .code [1, 1]]) (t' := [(2, .ptr 0 0 none), (3, .ptr 1 0 none), (7, .arr .u64 12 h1), (8, .sc (.int .i64 0))]) (h' := [.box 31 (Cube.ch c), .box 25 [.arr .u64 12 h1]]) (by kernel_rfl) ?_
  rcases sumG_eq H with ⟨v, hv, H⟩ | ⟨r1, hv, hr1⟩
  case inr =>
    refine AR.into (by kernel_rfl) ?_
    replace hr1 : r1 = r := hr1
    subst hr1
    exact cube_Has_l0_walk c h1 _ c0 hc0 (.inr _) (fun _ e => by cases e) (fun _ e => (Sum.inr.inj e).symm) 12 0 rfl hv
  refine AR.into (by kernel_rfl) ?_
  refine cube_Has_l0_walk c h1 r c0 hc0 (.inl v) (fun w e => ?_) (fun _ e => by cases e) 12 0 rfl hv
  have e := Sum.inl.inj e
  subst e
  refine AR.seg hG hm 1 [2, 3] (k' := [.code [1, 1, 0], .code [1, 1, 1]]) (t' := [(2, .ptr 0 0 none), (3, .ptr 1 0 none)]) (h' := [.box 31 (Cube.ch c), .box 25 [.arr .u64 12 h1]]) (by kernel_rfl) ?_
  refine AR.reg hm cube_Has_k2 (by kernel_rfl) ?_
  refine DK.seg hG 1 [3, 24] (t' := [(3, .ptr 1 0 none), (24, Cube.av c)]) (h' := [.box 31 (Cube.ch c), .box 25 [.arr .u64 12 h1]]) (by kernel_rfl) rfl ?_
  refine DK.op' [3, 25] (t' := [(3, .ptr 1 0 none), (25, .sc (.bool (cube_Sound c)))]) (h' := [.box 31 (Cube.ch c), .box 25 [.arr .u64 12 h1]]) (LSpec.callP' (cube_Sound_calls c) (by kernel_rfl)) (by kernel_rfl) rfl (by kernel_rfl) rfl ?_
  refine DK.seg hG 1 [3, 26] (t' := [(3, .ptr 1 0 none), (26, .sc (.bool (cube_Sound c)))]) (h' := [.box 31 (Cube.ch c), .box 25 [.arr .u64 12 h1]]) (by kernel_rfl) rfl ?_
  refine DK.mux 26 (cube_Sound c) (j := 6) (h' := [.box 31 (Cube.ch c), .box 25 [.arr .u64 12 h1]]) (by kernel_rfl) (fun z => [(29, .sc (.bool (z && (head_Sound h1))))]) ?J10 (fun hb J => ?ht10) (fun hb J => ?hf10)
  case ht10 =>
    refine DK.seg hG 1 [26, 27] (t' := [(26, .sc (.bool true)), (27, .arr .u64 12 h1)]) (h' := [.box 31 (Cube.ch c), .box 25 [.arr .u64 12 h1]]) (by kernel_rfl) rfl ?_
    refine DK.op' [26, 28] (t' := [(26, .sc (.bool true)), (28, .sc (.bool (head_Sound h1)))]) (h' := [.box 31 (Cube.ch c), .box 25 [.arr .u64 12 h1]]) (LSpec.callP' (head_Sound_calls h1) (by kernel_rfl)) (by kernel_rfl) rfl (by kernel_rfl) rfl ?_
    exact DK.seg hG 1 [29] (by kernel_rfl) rfl J
  case hf10 =>
    exact DK.seg hG 3 [29] (by kernel_rfl) rfl J
  refine DK.seg hG 1 [4] (t' := [(4, .sc (.bool ((cube_Sound c) && (head_Sound h1))))]) (h' := [.box 31 (Cube.ch c), .box 25 [.arr .u64 12 h1]]) (by kernel_rfl) rfl ?_
  refine DK.done (by kernel_rfl) (by kernel_rfl) ?_
  subst H
  exact AR.ret0 (fn := Try.f31) hG Try.func31 (by kernel_rfl) hc0 (r0 := .sc (.bool ((cube_Sound c) && (head_Sound h1)))) (by kernel_rfl) (WkV.refl _)
theorem cube_Has_calls (c : Cube) (h1 : List Int) : ACalls Try.prog tab.S 31 [Cube.av c, .arr .u64 12 h1] [] (.sc (.bool (cube_Has c h1))) [] := cube_Has_walk c h1 _ rfl

/-! ### slices.IndexFunc: function 29 -/
noncomputable def slices_IndexFunc__api_Rule_F : Go.Sh.Fn := ⟨29, bodyOf Try.f29, 19⟩
def slices_IndexFunc__api_Rule_k0 : List Kd := [.pure, .pure, .pure, .pure, .pure, .pure]
def slices_IndexFunc__api_Rule_l0s (f : Rule → Bool) : List Rule → Nat → Sum (Unit) (Int)
  | [], t8 =>
    (.inl ())
  | x :: rest, t8 =>
    (bif (f x) then
      (.inr ((t8 : Nat) : Int))
    else
      slices_IndexFunc__api_Rule_l0s f rest (t8 + 1) )
theorem slices_IndexFunc__api_Rule_l0_walk (s : List Rule) (F_f : FuncId) (C_f : List AV) (f : Rule → Bool) (P_f : plainL C_f = true) (O_f : C_f.all oneA = true) (H_f : ∀ (y0 : Rule), ACalls Try.prog tab.S F_f ([Rule.av y0] ++ C_f) [] (.sc (.bool (f y0))) []) (f_s : Bool) (r : Int) (c0 : Ctx) (hc0 : c0.m.length = 0) (res : Sum (Unit) (Int)) (J : ∀ w : Unit, res = .inl w → AR Try.prog tab slices_IndexFunc__api_Rule_F c0 (Rp tab.S c0 (.sc (.int .i64 r)) []) [.code [1, 1]] [] []) (Jr : ∀ w, res = .inr w → w = r) :
    ∀ (rest : List Rule) (t8 : Nat) (hd : s.drop t8 = rest) (H : slices_IndexFunc__api_Rule_l0s f rest t8 = res), AR Try.prog tab slices_IndexFunc__api_Rule_F c0 (Rp tab.S c0 (.sc (.int .i64 r)) []) [.code [1, 0, 1, 0, 0], .loop [1, 0, 1, 0], .blk 0, .code [1, 1]] [(0, .sl 34 (List.map Rule.av s) f_s), (1, .fn F_f C_f), (7, .sc (.int .i64 (((List.map Rule.av s).length : Nat) : Int))), (8, .sc (.int .i64 ((t8 : Nat) : Int)))] [] := by
  have hG := tab_ok
  have hm := mixed
  intro rest
  induction rest with
  | nil =>
    intro t8 hd  H
    rw [slices_IndexFunc__api_Rule_l0s] at H
    refine AR.facts 0 rfl fun hf => ?_
    have hlen : s.length ≤ 9223372036854775807 := by have hq := len_ok hf.2.1; rw [List.length_map] at hq; exact hq
    have hge : s.length ≤ t8 := List.drop_eq_nil_iff.1 hd
    have hc : (decide (((t8 : Nat) : Int) < (((List.map Rule.av s).length : Nat) : Int))) = false := by rw [List.length_map]; exact decide_eq_false (by omega)
    refine AR.seg hG hm 3 [0, 1, 7, 8, 9] (k' := [.code [1, 0, 1, 0, 0, 1, 0], .code [1, 0, 1, 0, 0, 1, 1], .loop [1, 0, 1, 0], .blk 0, .code [1, 1]]) (t' := [(0, .sl 34 (List.map Rule.av s) f_s), (1, .fn F_f C_f), (7, .sc (.int .i64 (((List.map Rule.av s).length : Nat) : Int))), (8, .sc (.int .i64 ((t8 : Nat) : Int))), (9, .sc (.bool (decide (((t8 : Nat) : Int) < (((List.map Rule.av s).length : Nat) : Int)))))]) (h' := []) (by kernel_rfl) ?_
    refine AR.cond (.tmp 9) (decide (((t8 : Nat) : Int) < (((List.map Rule.av s).length : Nat) : Int))) (by kernel_rfl) (by kernel_rfl) (fun hb => ?ht7) (fun hb => ?hf7)
    case ht7 => exact absurd (hb.symm.trans hc) (by decide)
    case hf7 =>
      refine AR.seg hG hm 1 [] (k' := [.code [1, 1]]) (t' := []) (h' := []) (by kernel_rfl) ?_
      refine AR.keep [] (t' := []) (by kernel_rfl) ?_
      exact J () H.symm
  | cons x rest ih =>
    intro t8 hd  H
    rw [slices_IndexFunc__api_Rule_l0s] at H
    refine AR.facts 0 rfl fun hf => ?_
    have hlen : s.length ≤ 9223372036854775807 := by have hq := len_ok hf.2.1; rw [List.length_map] at hq; exact hq
    obtain ⟨hlt, hv_t8, hd2⟩ := drop_cons hd
    have hc : (decide (((t8 : Nat) : Int) < (((List.map Rule.av s).length : Nat) : Int))) = true := by rw [List.length_map]; exact decide_eq_true (by omega)
    have hw : IntKind.i64.wrap (((t8 : Nat) : Int) + 1) = ((t8 + 1 : Nat) : Int) := wrapI_succ (by omega)
    refine AR.seg hG hm 3 [0, 1, 7, 8, 9] (k' := [.code [1, 0, 1, 0, 0, 1, 0], .code [1, 0, 1, 0, 0, 1, 1], .loop [1, 0, 1, 0], .blk 0, .code [1, 1]]) (t' := [(0, .sl 34 (List.map Rule.av s) f_s), (1, .fn F_f C_f), (7, .sc (.int .i64 (((List.map Rule.av s).length : Nat) : Int))), (8, .sc (.int .i64 ((t8 : Nat) : Int))), (9, .sc (.bool (decide (((t8 : Nat) : Int) < (((List.map Rule.av s).length : Nat) : Int)))))]) (h' := []) (by kernel_rfl) ?_
    refine AR.cond (.tmp 9) (decide (((t8 : Nat) : Int) < (((List.map Rule.av s).length : Nat) : Int))) (by kernel_rfl) (by kernel_rfl) (fun hb => ?ht8) (fun hb => ?hf8)
    case ht8 =>
      refine AR.seg hG hm 6 [0, 1, 5, 7, 8] (k' := [.code [1, 0, 1, 0, 0, 1, 1, 0, 0, 1, 0], .code [1, 0, 1, 0, 0, 1, 1, 0, 0, 1, 1], .blk 1, .code [1, 0, 1, 0, 0, 1, 1, 1], .loop [1, 0, 1, 0], .blk 0, .code [1, 1]]) (t' := [(0, .sl 34 (List.map Rule.av s) f_s), (1, .fn F_f C_f), (5, .sc (.int .i64 ((t8 : Nat) : Int))), (7, .sc (.int .i64 (((List.map Rule.av s).length : Nat) : Int))), (8, .sc (.int .i64 ((t8 : Nat) : Int)))]) (h' := []) (by kernel_rfl) ?_
      refine AR.reg hm slices_IndexFunc__api_Rule_k0 (by kernel_rfl) ?_
      refine DK.seg hG 3 [0, 1, 5, 7, 8, 11, 12, 13] (t' := [(0, .sl 34 (List.map Rule.av s) f_s), (1, .fn F_f C_f), (5, .sc (.int .i64 ((t8 : Nat) : Int))), (7, .sc (.int .i64 (((List.map Rule.av s).length : Nat) : Int))), (8, .sc (.int .i64 ((t8 : Nat) : Int))), (11, .fn F_f C_f), (12, .sl 34 (List.map Rule.av s) f_s), (13, .sc (.int .i64 ((t8 : Nat) : Int)))]) (h' := []) (by kernel_rfl) rfl ?_
      refine DK.op' [0, 1, 5, 7, 8, 11, 14] (t' := [(0, .sl 34 (List.map Rule.av s) f_s), (1, .fn F_f C_f), (5, .sc (.int .i64 ((t8 : Nat) : Int))), (7, .sc (.int .i64 (((List.map Rule.av s).length : Nat) : Int))), (8, .sc (.int .i64 ((t8 : Nat) : Int))), (11, .fn F_f C_f), (14, .ep [.arr .u64 12 x.Match.Value, .arr .u64 12 x.Match.Care, .sc (.int .i64 x.Prio), .sl 42 (List.map Act.av x.Acts) false, .sc (.int .i64 x.Idle), .sc (.int .i64 x.Hard), .sc (.int .i64 x.Owner), .sc (.int .i64 x.Hits), .sc (.int .i64 x.Quiet), .sc (.int .i64 x.Age)] 0 none)]) (h' := []) (LSpec.index' (r := Rule.av x) (fs := [.arr .u64 12 x.Match.Value, .arr .u64 12 x.Match.Care, .sc (.int .i64 x.Prio), .sl 42 (List.map Act.av x.Acts) false, .sc (.int .i64 x.Idle), .sc (.int .i64 x.Hard), .sc (.int .i64 x.Owner), .sc (.int .i64 x.Hits), .sc (.int .i64 x.Quiet), .sc (.int .i64 x.Age)]) hG (rows := List.map Rule.av s) (j := ((t8 : Nat) : Int)) (by kernel_rfl) (ixO_map hv_t8 _) (by kernel_rfl)) (by kernel_rfl) rfl (by kernel_rfl) rfl ?_
      refine DK.seg hG 1 [0, 1, 5, 7, 8, 11, 15] (t' := [(0, .sl 34 (List.map Rule.av s) f_s), (1, .fn F_f C_f), (5, .sc (.int .i64 ((t8 : Nat) : Int))), (7, .sc (.int .i64 (((List.map Rule.av s).length : Nat) : Int))), (8, .sc (.int .i64 ((t8 : Nat) : Int))), (11, .fn F_f C_f), (15, Rule.av x)]) (h' := []) (by kernel_rfl) rfl ?_
      refine DK.op' [0, 1, 5, 7, 8, 16] (t' := [(0, .sl 34 (List.map Rule.av s) f_s), (1, .fn F_f C_f), (5, .sc (.int .i64 ((t8 : Nat) : Int))), (7, .sc (.int .i64 (((List.map Rule.av s).length : Nat) : Int))), (8, .sc (.int .i64 ((t8 : Nat) : Int))), (16, .sc (.bool (f x)))]) (h' := []) (LSpec.callFP' (H_f x) (by kernel_rfl) P_f O_f) (by kernel_rfl) rfl (by kernel_rfl) rfl ?_
      refine DK.done (by kernel_rfl) (by kernel_rfl) ?_
      refine AR.cond (.tmp 16) (f x) (by kernel_rfl) (by kernel_rfl) (fun hb => ?ht9) (fun hb => ?hf9)
      case ht9 =>
        replace H := cond_t hb H
        refine AR.seg hG hm 2 [4] (k' := [.code [1, 0, 1, 0, 0, 1, 1, 0, 0, 1, 1, 0, 1], .blk 1, .code [1, 0, 1, 0, 0, 1, 1, 1], .loop [1, 0, 1, 0], .blk 0, .code [1, 1]]) (t' := [(4, .sc (.int .i64 ((t8 : Nat) : Int)))]) (h' := []) (by kernel_rfl) ?_
        subst H
        obtain rfl := Jr _ rfl
        exact AR.ret0 (fn := Try.f29) hG Try.func29 (by kernel_rfl) hc0 (r0 := .sc (.int .i64 ((t8 : Nat) : Int))) (by kernel_rfl) (WkV.refl _)
      case hf9 =>
        replace H := cond_f hb H
        refine AR.seg hG hm 3 [0, 1, 7, 8] (k' := [.loop [1, 0, 1, 0], .blk 0, .code [1, 1]]) (t' := [(0, .sl 34 (List.map Rule.av s) f_s), (1, .fn F_f C_f), (7, .sc (.int .i64 (((List.map Rule.av s).length : Nat) : Int))), (8, .sc (.int .i64 (IntKind.i64.wrap (((t8 : Nat) : Int) + 1))))]) (h' := []) (by kernel_rfl) ?_
        refine AR.keep [0, 1, 7, 8] (t' := [(0, .sl 34 (List.map Rule.av s) f_s), (1, .fn F_f C_f), (7, .sc (.int .i64 (((List.map Rule.av s).length : Nat) : Int))), (8, .sc (.int .i64 (IntKind.i64.wrap (((t8 : Nat) : Int) + 1))))]) (by kernel_rfl) ?_
        refine AR.loop_round ?_
        rw [hw]
        exact ih (t8 + 1) hd2 H
    case hf8 => exact absurd (hc.symm.trans hb) (by decide)

def slices_IndexFunc__api_Rule (s : List Rule) (f : Rule → Bool) : Int :=
  sumG (fun q => q) (slices_IndexFunc__api_Rule_l0s f s 0) fun v =>
  (-1)
theorem slices_IndexFunc__api_Rule_walk (s : List Rule) (F_f : FuncId) (C_f : List AV) (f : Rule → Bool) (P_f : plainL C_f = true) (O_f : C_f.all oneA = true) (H_f : ∀ (y0 : Rule), ACalls Try.prog tab.S F_f ([Rule.av y0] ++ C_f) [] (.sc (.bool (f y0))) []) (f_s : Bool) (r : Int) (H : slices_IndexFunc__api_Rule s f = r) :
    ACalls Try.prog tab.S 29 [.sl 34 (List.map Rule.av s) f_s, .fn F_f C_f] [] (.sc (.int .i64 r)) [] := by
  have hG := tab_ok
  have hm := mixed
  refine ACalls.of_AR (G := tab) slices_IndexFunc__api_Rule_F (fn := Try.f29) Try.func29 (by kernel_rfl) (by kernel_rfl) (by kernel_rfl) (Nat.le_of_ble_eq_true (by kernel_rfl)) ?_
  intro c0 hc0
  replace hc0 : c0.m.length = 0 := hc0
  rw [slices_IndexFunc__api_Rule] at H
  refine AR.seg hG hm 6 [0, 1, 7, 8] (k' := [.code [1, 0, 1, 0], .blk 0, .code [1, 1]]) (t' := [(0, .sl 34 (List.map Rule.av s) f_s), (1, .fn F_f C_f), (7, .sc (.int .i64 (((List.map Rule.av s).length : Nat) : Int))), (8, .sc (.int .i64 0))]) (h' := []) (by kernel_rfl) ?_
  rcases sumG_eq H with ⟨v, hv, H⟩ | ⟨r1, hv, hr1⟩
  case inr =>
    refine AR.into (by kernel_rfl) ?_
    replace hr1 : r1 = r := hr1
    subst hr1
    exact slices_IndexFunc__api_Rule_l0_walk s F_f C_f f P_f O_f H_f f_s _ c0 hc0 (.inr _) (fun _ e => by cases e) (fun _ e => (Sum.inr.inj e).symm) s 0 rfl hv
  refine AR.into (by kernel_rfl) ?_
  refine slices_IndexFunc__api_Rule_l0_walk s F_f C_f f P_f O_f H_f f_s r c0 hc0 (.inl v) (fun w e => ?_) (fun _ e => by cases e) s 0 rfl hv
  have e := Sum.inl.inj e
  subst e
  refine AR.seg hG hm 2 [4] (k' := [.code [1, 1, 1]]) (t' := [(4, .sc (.int .i64 (-1)))]) (h' := []) (by kernel_rfl) ?_
  subst H
  exact AR.ret0 (fn := Try.f29) hG Try.func29 (by kernel_rfl) hc0 (r0 := .sc (.int .i64 (-1))) (by kernel_rfl) (WkV.refl _)
theorem slices_IndexFunc__api_Rule_calls (s : List Rule) (F_f : FuncId) (C_f : List AV) (f : Rule → Bool) (P_f : plainL C_f = true) (O_f : C_f.all oneA = true) (H_f : ∀ (y0 : Rule), ACalls Try.prog tab.S F_f ([Rule.av y0] ++ C_f) [] (.sc (.bool (f y0))) []) (f_s : Bool) : ACalls Try.prog tab.S 29 [.sl 34 (List.map Rule.av s) f_s, .fn F_f C_f] [] (.sc (.int .i64 (slices_IndexFunc__api_Rule s f))) [] := slices_IndexFunc__api_Rule_walk s F_f C_f f P_f O_f H_f f_s _ rfl

theorem slices_IndexFunc__api_Rule_l0s_eq (f : Rule → Bool) : ∀ (l : List Rule) (i : Nat), slices_IndexFunc__api_Rule_l0s f l i = match l.findIdx? f with | some k => .inr ((i + k : Nat) : Int) | none => .inl ()
  | [], i => rfl
  | x :: l, i => by
      rw [slices_IndexFunc__api_Rule_l0s, List.findIdx?_cons, slices_IndexFunc__api_Rule_l0s_eq f l (i + 1)]
      cases f x
      · simp only [cond_false, Bool.false_eq_true, if_false]
        cases l.findIdx? f with
        | none => rfl
        | some k => simp only [Option.map_some]; rw [show i + 1 + k = i + (k + 1) by omega]
      · rfl
theorem slices_IndexFunc__api_Rule_idx (s : List Rule) (f : Rule → Bool) : slices_IndexFunc__api_Rule s f = idxF f s := by
  rw [slices_IndexFunc__api_Rule, slices_IndexFunc__api_Rule_l0s_eq]
  unfold idxF sumG
  cases s.findIdx? f with
  | none => rfl
  | some k => simp only [Nat.zero_add]

/-! ### rule.Find$1: function 30 -/
noncomputable def rule_Find_1_F : Go.Sh.Fn := ⟨30, bodyOf Try.f30, 8⟩
def rule_Find_1_k0 : List Kd := [.pure, .read, .pure, .pure, .pure]
def rule_Find_1 (r2 : Rule) (c : List Int) : Bool :=
  (cube_Has r2.Match c)
theorem rule_Find_1_walk (r2 : Rule) (c : List Int) (r : Bool) (H : rule_Find_1 r2 c = r) :
    ACalls Try.prog tab.S 30 [Rule.av r2, .ep [.arr .u64 12 c] 0 none] [] (.sc (.bool r)) [] := by
  have hG := tab_ok
  have hm := mixed
  refine ACalls.of_AR (G := tab) rule_Find_1_F (fn := Try.f30) Try.func30 (by kernel_rfl) (by kernel_rfl) (by kernel_rfl) (Nat.le_of_ble_eq_true (by kernel_rfl)) ?_
  intro c0 hc0
  replace hc0 : c0.m.length = 0 := hc0
  rw [rule_Find_1] at H
  refine AR.seg hG hm 3 [1, 2] (k' := [.code [1, 0], .code [1, 1]]) (t' := [(1, .ep [.arr .u64 12 c] 0 none), (2, .ptr 0 0 none)]) (h' := [.box 34 (Rule.ch r2)]) (by kernel_rfl) ?_
  refine AR.reg hm rule_Find_1_k0 (by kernel_rfl) ?_
  refine DK.seg hG 3 [5, 6] (t' := [(5, Cube.av r2.Match), (6, .arr .u64 12 c)]) (h' := [.box 34 (Rule.ch r2)]) (by kernel_rfl) rfl ?_
  refine DK.op' [7] (t' := [(7, .sc (.bool (cube_Has r2.Match c)))]) (h' := [.box 34 (Rule.ch r2)]) (LSpec.callP' (cube_Has_calls r2.Match c) (by kernel_rfl)) (by kernel_rfl) rfl (by kernel_rfl) rfl ?_
  refine DK.seg hG 1 [3] (t' := [(3, .sc (.bool (cube_Has r2.Match c)))]) (h' := [.box 34 (Rule.ch r2)]) (by kernel_rfl) rfl ?_
  refine DK.done (by kernel_rfl) (by kernel_rfl) ?_
  subst H
  exact AR.ret0 (fn := Try.f30) hG Try.func30 (by kernel_rfl) hc0 (r0 := .sc (.bool (cube_Has r2.Match c))) (by kernel_rfl) (WkV.refl _)
theorem rule_Find_1_calls (r2 : Rule) (c : List Int) : ACalls Try.prog tab.S 30 [Rule.av r2, .ep [.arr .u64 12 c] 0 none] [] (.sc (.bool (rule_Find_1 r2 c))) [] := rule_Find_1_walk r2 c _ rfl

/-! ### rule.Find: function 11 -/
noncomputable def rule_Find_F : Go.Sh.Fn := ⟨11, bodyOf Try.f11, 14⟩
def rule_Find_k0 : List Kd := [.pure, .pure, .read, .pure]
def rule_Find (list : List Rule) (h1 : List Int) : Int × Bool :=
  ((if 0 > (slices_IndexFunc__api_Rule list (fun y0 => rule_Find_1 y0 h1)) then 0 else (slices_IndexFunc__api_Rule list (fun y0 => rule_Find_1 y0 h1))), (decide ((slices_IndexFunc__api_Rule list (fun y0 => rule_Find_1 y0 h1)) ≥ 0)))
theorem rule_Find_walk (list : List Rule) (h1 : List Int) (f_list : Bool) (r : Int × Bool) (H : rule_Find list h1 = r) :
    ACalls Try.prog tab.S 11 [.sl 34 (List.map Rule.av list) f_list, .arr .u64 12 h1] [] (.tup [.sc (.int .i64 r.1), .sc (.bool r.2)]) [] := by
  have hG := tab_ok
  have hm := mixed
  refine ACalls.of_AR (G := tab) rule_Find_F (fn := Try.f11) Try.func11 (by kernel_rfl) (by kernel_rfl) (by kernel_rfl) (Nat.le_of_ble_eq_true (by kernel_rfl)) ?_
  intro c0 hc0
  replace hc0 : c0.m.length = 0 := hc0
  rw [rule_Find] at H
  refine AR.seg hG hm 3 [0, 3] (k' := [.code [1, 0], .code [1, 1]]) (t' := [(0, .sl 34 (List.map Rule.av list) f_list), (3, .ptr 0 0 none)]) (h' := [.box 25 [.arr .u64 12 h1]]) (by kernel_rfl) ?_
  refine AR.reg hm rule_Find_k0 (by kernel_rfl) ?_
  refine DK.seg hG 2 [7, 8] (t' := [(7, .sl 34 (List.map Rule.av list) f_list), (8, .fn 30 [.ptr 0 0 none])]) (h' := [.box 25 [.arr .u64 12 h1]]) (by kernel_rfl) rfl ?_
  refine DK.op' [9] (t' := [(9, .sc (.int .i64 (slices_IndexFunc__api_Rule list (fun y0 => rule_Find_1 y0 h1))))]) (h' := [.box 25 [.arr .u64 12 h1]]) (LSpec.callF' (caps := []) (slices_IndexFunc__api_Rule_calls list 30 [.ep [.arr .u64 12 h1] 0 none] (fun y0 => rule_Find_1 y0 h1) rfl rfl (fun y0 => rule_Find_1_calls y0 h1) f_list) (by kernel_rfl) (.same rfl (.fn (caps := [.ptr 0 0 none]) (by kernel_rfl) .nil)) (by kernel_rfl) rfl rfl) (by kernel_rfl) rfl (by kernel_rfl) rfl ?_
  refine DK.seg hG 1 [6] (t' := [(6, .sc (.int .i64 (slices_IndexFunc__api_Rule list (fun y0 => rule_Find_1 y0 h1))))]) (h' := [.box 25 [.arr .u64 12 h1]]) (by kernel_rfl) rfl ?_
  refine DK.done (by kernel_rfl) (by kernel_rfl) ?_
  refine AR.seg hG hm 2 [4, 5] (k' := [.code [1, 1, 1]]) (t' := [(4, .sc (.int .i64 (if 0 > (slices_IndexFunc__api_Rule list (fun y0 => rule_Find_1 y0 h1)) then 0 else (slices_IndexFunc__api_Rule list (fun y0 => rule_Find_1 y0 h1))))), (5, .sc (.bool (decide ((slices_IndexFunc__api_Rule list (fun y0 => rule_Find_1 y0 h1)) ≥ 0))))]) (h' := [.box 25 [.arr .u64 12 h1]]) (by kernel_rfl) ?_
  subst H
  exact AR.ret0 (fn := Try.f11) hG Try.func11 (by kernel_rfl) hc0 (r0 := .tup [.sc (.int .i64 (if 0 > (slices_IndexFunc__api_Rule list (fun y0 => rule_Find_1 y0 h1)) then 0 else (slices_IndexFunc__api_Rule list (fun y0 => rule_Find_1 y0 h1)))), .sc (.bool (decide ((slices_IndexFunc__api_Rule list (fun y0 => rule_Find_1 y0 h1)) ≥ 0)))]) (by kernel_rfl) (WkV.refl _)
theorem rule_Find_calls (list : List Rule) (h1 : List Int) (f_list : Bool) : ACalls Try.prog tab.S 11 [.sl 34 (List.map Rule.av list) f_list, .arr .u64 12 h1] [] (.tup [.sc (.int .i64 ((rule_Find list h1).1)), .sc (.bool ((rule_Find list h1).2))]) [] := rule_Find_walk list h1 f_list _ rfl

end Go.Proofs.Ytadolbhmdimbkaa

set_option linter.unusedVariables false
set_option linter.unusedSimpArgs false
set_option maxRecDepth 100000
set_option maxHeartbeats 4000000
namespace Go.Proofs.Ytadolbhmdimbkaa
open Go.Sh
set_option maxRecDepth 100000
open Go.ChangeShapes Go.WideShapes Go.ChangeAt Go.RowKit
def Act.wf (x : Act) : Prop := intW .i64 x.Kind ∧ intW .i64 x.Port ∧ intW .i64 x.Field ∧ intW .u64 x.Value
theorem Act.shaped {gs : List AV} (h : Shaped tab 42 gs) : ∃ x : Act, gs = [.sc (.int .i64 x.Kind), .sc (.int .i64 x.Port), .sc (.int .i64 x.Field), .sc (.int .u64 x.Value)] ∧ x.wf := by
  obtain ⟨gss, rfl, hl, hf⟩ := Shaped.struct_inv (fl := [(0, 3), (1, 3), (2, 3), (3, 23)]) (by kernel_rfl) h
  match gss, hl, hf with
  | [g0, g1, g2, g3], _, hf =>
    obtain ⟨x0, rfl, w0⟩ := Shaped.int_inv (k := .i64) (by kernel_rfl) (hf 0 _ _ rfl rfl)
    obtain ⟨x1, rfl, w1⟩ := Shaped.int_inv (k := .i64) (by kernel_rfl) (hf 1 _ _ rfl rfl)
    obtain ⟨x2, rfl, w2⟩ := Shaped.int_inv (k := .i64) (by kernel_rfl) (hf 2 _ _ rfl rfl)
    obtain ⟨x3, rfl, w3⟩ := Shaped.int_inv (k := .u64) (by kernel_rfl) (hf 3 _ _ rfl rfl)
    exact ⟨⟨x0, x1, x2, x3⟩, rfl, ⟨w0, w1, w2, w3⟩⟩
def Cube.wf (x : Cube) : Prop := arrW .u64 12 x.Value ∧ arrW .u64 12 x.Care
theorem Cube.shaped {gs : List AV} (h : Shaped tab 31 gs) : ∃ x : Cube, gs = [.arr .u64 12 x.Value, .arr .u64 12 x.Care] ∧ x.wf := by
  obtain ⟨gss, rfl, hl, hf⟩ := Shaped.struct_inv (fl := [(0, 25), (12, 25)]) (by kernel_rfl) h
  match gss, hl, hf with
  | [g0, g1], _, hf =>
    obtain ⟨x0, rfl, w0⟩ := Shaped.arr_inv (n := 12) (e := 23) (k := .u64) (by kernel_rfl) (by kernel_rfl) (hf 0 _ _ rfl rfl)
    obtain ⟨x1, rfl, w1⟩ := Shaped.arr_inv (n := 12) (e := 23) (k := .u64) (by kernel_rfl) (by kernel_rfl) (hf 1 _ _ rfl rfl)
    exact ⟨⟨x0, x1⟩, rfl, ⟨w0, w1⟩⟩
def Rule.wf (x : Rule) : Prop := Cube.wf x.Match ∧ intW .i64 x.Prio ∧ (∀ y ∈ x.Acts, Act.wf y) ∧ intW .i64 x.Idle ∧ intW .i64 x.Hard ∧ intW .i64 x.Owner ∧ intW .i64 x.Hits ∧ intW .i64 x.Quiet ∧ intW .i64 x.Age
theorem Rule.shaped {gs : List AV} (h : Shaped tab 34 gs) : ∃ x : Rule, gs = [.arr .u64 12 x.Match.Value, .arr .u64 12 x.Match.Care, .sc (.int .i64 x.Prio), .sl 42 (List.map Act.av x.Acts) false, .sc (.int .i64 x.Idle), .sc (.int .i64 x.Hard), .sc (.int .i64 x.Owner), .sc (.int .i64 x.Hits), .sc (.int .i64 x.Quiet), .sc (.int .i64 x.Age)] ∧ x.wf := by
  obtain ⟨gss, rfl, hl, hf⟩ := Shaped.struct_inv (fl := [(0, 31), (24, 3), (25, 32), (26, 3), (27, 3), (28, 3), (29, 3), (30, 3), (31, 3)]) (by kernel_rfl) h
  match gss, hl, hf with
  | [g0, g1, g2, g3, g4, g5, g6, g7, g8], _, hf =>
    obtain ⟨x0, rfl, w0⟩ := Cube.shaped (hf 0 _ _ rfl rfl)
    obtain ⟨x1, rfl, w1⟩ := Shaped.int_inv (k := .i64) (by kernel_rfl) (hf 1 _ _ rfl rfl)
    obtain ⟨q2, rfl, hq2⟩ := Shaped.slice_inv (e := 42) (by kernel_rfl) (hf 2 _ _ rfl rfl)
    obtain ⟨x2, hx2, w2⟩ := rows_typedW (G := tab) (e := 42) (av := Act.av) (wf := fun y => Act.wf y) q2 (fun g hg => by obtain ⟨x, rfl, w⟩ := Act.shaped (hq2 g hg); exact ⟨x, (by kernel_rfl), w⟩)
    obtain ⟨x3, rfl, w3⟩ := Shaped.int_inv (k := .i64) (by kernel_rfl) (hf 3 _ _ rfl rfl)
    obtain ⟨x4, rfl, w4⟩ := Shaped.int_inv (k := .i64) (by kernel_rfl) (hf 4 _ _ rfl rfl)
    obtain ⟨x5, rfl, w5⟩ := Shaped.int_inv (k := .i64) (by kernel_rfl) (hf 5 _ _ rfl rfl)
    obtain ⟨x6, rfl, w6⟩ := Shaped.int_inv (k := .i64) (by kernel_rfl) (hf 6 _ _ rfl rfl)
    obtain ⟨x7, rfl, w7⟩ := Shaped.int_inv (k := .i64) (by kernel_rfl) (hf 7 _ _ rfl rfl)
    obtain ⟨x8, rfl, w8⟩ := Shaped.int_inv (k := .i64) (by kernel_rfl) (hf 8 _ _ rfl rfl)
    rw [hx2]; exact ⟨⟨x0, x1, x2, x3, x4, x5, x6, x7, x8⟩, rfl, ⟨w0, w1, w2, w3, w4, w5, w6, w7, w8⟩⟩

end Go.Proofs.Ytadolbhmdimbkaa

set_option linter.unusedVariables false
set_option linter.unusedSimpArgs false
set_option maxRecDepth 100000
set_option maxHeartbeats 4000000
namespace Go.Proofs.Ytadolbhmdimbkaa
open Go.Sh
/-! ### podestalaw05.answers: function 10 -/
noncomputable def podestalaw05_answers_F : Go.Sh.Fn := ⟨10, bodyOf Try.f10, 37⟩
def podestalaw05_answers_k2 : List Kd := [.pure, .pure, .pure, .pure, .pure, .pure, .pure, .pure, .pure, .pure, .pure, .pure, .pure, .pure, .pure, .pure, .pure, .pure, .pure, .pure, .pure, .pure, .pure, .pure]
def podestalaw05_answers_k1 : List Kd := [.pure, .pure, .pure, .pure, .pure, .pure, .pure, .pure]
def podestalaw05_answers_k0 : List Kd := [.pure, .pure, .pure, .pure, .pure]
def podestalaw05_answers_raw : Option (Bool) :=
  (bif ((((((List.map Rule.av (sortR [({ Match := ({ Value := [0, 0, 0, 0, 0, 0, 0, 0, 0, 0, 0, 0], Care := [0, 0, 0, 0, 0, 0, 0, 0, 0, 0, 0, 0] } : Cube), Prio := 1, Acts := [], Idle := 0, Hard := 0, Owner := 0, Hits := 0, Quiet := 0, Age := 0 } : Rule), ({ Match := ({ Value := [0, 0, 0, 0, 0, 0, 0, 0, 0, 0, 0, 0], Care := [0, 0, 0, 0, 0, 0, 0, 0, 0, 0, 0, 0] } : Cube), Prio := 2, Acts := [], Idle := 0, Hard := 0, Owner := 0, Hits := 0, Quiet := 0, Age := 0 } : Rule)])).length : Nat) : Int) == 2) && (rule_Find (sortR [({ Match := ({ Value := [0, 0, 0, 0, 0, 0, 0, 0, 0, 0, 0, 0], Care := [0, 0, 0, 0, 0, 0, 0, 0, 0, 0, 0, 0] } : Cube), Prio := 1, Acts := [], Idle := 0, Hard := 0, Owner := 0, Hits := 0, Quiet := 0, Age := 0 } : Rule), ({ Match := ({ Value := [0, 0, 0, 0, 0, 0, 0, 0, 0, 0, 0, 0], Care := [0, 0, 0, 0, 0, 0, 0, 0, 0, 0, 0, 0] } : Cube), Prio := 2, Acts := [], Idle := 0, Hard := 0, Owner := 0, Hits := 0, Quiet := 0, Age := 0 } : Rule)]) [0, 0, 0, 0, 0, 0, 0, 0, 0, 0, 0, 0]).2) && ((rule_Find (sortR [({ Match := ({ Value := [0, 0, 0, 0, 0, 0, 0, 0, 0, 0, 0, 0], Care := [0, 0, 0, 0, 0, 0, 0, 0, 0, 0, 0, 0] } : Cube), Prio := 1, Acts := [], Idle := 0, Hard := 0, Owner := 0, Hits := 0, Quiet := 0, Age := 0 } : Rule), ({ Match := ({ Value := [0, 0, 0, 0, 0, 0, 0, 0, 0, 0, 0, 0], Care := [0, 0, 0, 0, 0, 0, 0, 0, 0, 0, 0, 0] } : Cube), Prio := 2, Acts := [], Idle := 0, Hard := 0, Owner := 0, Hits := 0, Quiet := 0, Age := 0 } : Rule)]) [0, 0, 0, 0, 0, 0, 0, 0, 0, 0, 0, 0]).1 == 0)) then
    (ixO (sortR [({ Match := ({ Value := [0, 0, 0, 0, 0, 0, 0, 0, 0, 0, 0, 0], Care := [0, 0, 0, 0, 0, 0, 0, 0, 0, 0, 0, 0] } : Cube), Prio := 1, Acts := [], Idle := 0, Hard := 0, Owner := 0, Hits := 0, Quiet := 0, Age := 0 } : Rule), ({ Match := ({ Value := [0, 0, 0, 0, 0, 0, 0, 0, 0, 0, 0, 0], Care := [0, 0, 0, 0, 0, 0, 0, 0, 0, 0, 0, 0] } : Cube), Prio := 2, Acts := [], Idle := 0, Hard := 0, Owner := 0, Hits := 0, Quiet := 0, Age := 0 } : Rule)]) 0).bind fun x =>
    (bif (x.Prio == 2) then
      (ixO (sortR [({ Match := ({ Value := [0, 0, 0, 0, 0, 0, 0, 0, 0, 0, 0, 0], Care := [0, 0, 0, 0, 0, 0, 0, 0, 0, 0, 0, 0] } : Cube), Prio := 1, Acts := [], Idle := 0, Hard := 0, Owner := 0, Hits := 0, Quiet := 0, Age := 0 } : Rule), ({ Match := ({ Value := [0, 0, 0, 0, 0, 0, 0, 0, 0, 0, 0, 0], Care := [0, 0, 0, 0, 0, 0, 0, 0, 0, 0, 0, 0] } : Cube), Prio := 2, Acts := [], Idle := 0, Hard := 0, Owner := 0, Hits := 0, Quiet := 0, Age := 0 } : Rule)]) 0).bind fun x1 =>
      some (rule_Sound x1)
    else
      some false)
  else
    some false)
theorem podestalaw05_answers_walk (r : Bool) (H : podestalaw05_answers_raw = some r) :
    ACalls Try.prog tab.S 10 [] [] (.sc (.bool r)) [] := by
  have hG := tab_ok
  have hm := mixed
  refine ACalls.of_AR (G := tab) podestalaw05_answers_F (fn := Try.f10) Try.func10 (by kernel_rfl) (by kernel_rfl) (by kernel_rfl) (Nat.le_of_ble_eq_true (by kernel_rfl)) ?_
  intro c0 hc0
  replace hc0 : c0.m.length = 0 := hc0
  rw [podestalaw05_answers_raw] at H
  refine AR.seg hG hm 3 [] (k' := [.code [1, 0], .code [1, 1]]) (t' := []) (h' := []) (by kernel_rfl) ?_
  refine AR.reg hm podestalaw05_answers_k0 (by kernel_rfl) ?_
  refine DK.seg hG 2 [4, 5] (t' := [(4, .agg [.arr .u64 12 [0, 0, 0, 0, 0, 0, 0, 0, 0, 0, 0, 0], .arr .u64 12 [0, 0, 0, 0, 0, 0, 0, 0, 0, 0, 0, 0], .sc (.int .i64 1), .sl 0 [] true, .sc (.int .i64 0), .sc (.int .i64 0), .sc (.int .i64 0), .sc (.int .i64 0), .sc (.int .i64 0), .sc (.int .i64 0)]), (5, .agg [.arr .u64 12 [0, 0, 0, 0, 0, 0, 0, 0, 0, 0, 0, 0], .arr .u64 12 [0, 0, 0, 0, 0, 0, 0, 0, 0, 0, 0, 0], .sc (.int .i64 2), .sl 0 [] true, .sc (.int .i64 0), .sc (.int .i64 0), .sc (.int .i64 0), .sc (.int .i64 0), .sc (.int .i64 0), .sc (.int .i64 0)])]) (h' := []) (by kernel_rfl) rfl ?_
  refine DK.wk 4 (.agg [.arr .u64 12 [0, 0, 0, 0, 0, 0, 0, 0, 0, 0, 0, 0], .arr .u64 12 [0, 0, 0, 0, 0, 0, 0, 0, 0, 0, 0, 0], .sc (.int .i64 1), .sl 42 (List.map Act.av []) false, .sc (.int .i64 0), .sc (.int .i64 0), .sc (.int .i64 0), .sc (.int .i64 0), .sc (.int .i64 0), .sc (.int .i64 0)]) rfl (WkV.agg (WkL.cons (Wk1.refl _) (WkL.cons (Wk1.refl _) (WkL.cons (Wk1.refl _) (WkL.cons (Wk1.nil 42 false) (WkL.cons (Wk1.refl _) (WkL.cons (Wk1.refl _) (WkL.cons (Wk1.refl _) (WkL.cons (Wk1.refl _) (WkL.cons (Wk1.refl _) (WkL.cons (Wk1.refl _) WkL.nil))))))))))) (t' := [(4, .agg [.arr .u64 12 [0, 0, 0, 0, 0, 0, 0, 0, 0, 0, 0, 0], .arr .u64 12 [0, 0, 0, 0, 0, 0, 0, 0, 0, 0, 0, 0], .sc (.int .i64 1), .sl 42 (List.map Act.av []) false, .sc (.int .i64 0), .sc (.int .i64 0), .sc (.int .i64 0), .sc (.int .i64 0), .sc (.int .i64 0), .sc (.int .i64 0)]), (5, .agg [.arr .u64 12 [0, 0, 0, 0, 0, 0, 0, 0, 0, 0, 0, 0], .arr .u64 12 [0, 0, 0, 0, 0, 0, 0, 0, 0, 0, 0, 0], .sc (.int .i64 2), .sl 0 [] true, .sc (.int .i64 0), .sc (.int .i64 0), .sc (.int .i64 0), .sc (.int .i64 0), .sc (.int .i64 0), .sc (.int .i64 0)])]) (by kernel_rfl) ?_
  refine DK.wk 5 (.agg [.arr .u64 12 [0, 0, 0, 0, 0, 0, 0, 0, 0, 0, 0, 0], .arr .u64 12 [0, 0, 0, 0, 0, 0, 0, 0, 0, 0, 0, 0], .sc (.int .i64 2), .sl 42 (List.map Act.av []) false, .sc (.int .i64 0), .sc (.int .i64 0), .sc (.int .i64 0), .sc (.int .i64 0), .sc (.int .i64 0), .sc (.int .i64 0)]) rfl (WkV.agg (WkL.cons (Wk1.refl _) (WkL.cons (Wk1.refl _) (WkL.cons (Wk1.refl _) (WkL.cons (Wk1.nil 42 false) (WkL.cons (Wk1.refl _) (WkL.cons (Wk1.refl _) (WkL.cons (Wk1.refl _) (WkL.cons (Wk1.refl _) (WkL.cons (Wk1.refl _) (WkL.cons (Wk1.refl _) WkL.nil))))))))))) (t' := [(5, .agg [.arr .u64 12 [0, 0, 0, 0, 0, 0, 0, 0, 0, 0, 0, 0], .arr .u64 12 [0, 0, 0, 0, 0, 0, 0, 0, 0, 0, 0, 0], .sc (.int .i64 2), .sl 42 (List.map Act.av []) false, .sc (.int .i64 0), .sc (.int .i64 0), .sc (.int .i64 0), .sc (.int .i64 0), .sc (.int .i64 0), .sc (.int .i64 0)]), (4, .agg [.arr .u64 12 [0, 0, 0, 0, 0, 0, 0, 0, 0, 0, 0, 0], .arr .u64 12 [0, 0, 0, 0, 0, 0, 0, 0, 0, 0, 0, 0], .sc (.int .i64 1), .sl 42 (List.map Act.av []) false, .sc (.int .i64 0), .sc (.int .i64 0), .sc (.int .i64 0), .sc (.int .i64 0), .sc (.int .i64 0), .sc (.int .i64 0)])]) (by kernel_rfl) ?_
  refine DK.seg hG 1 [6] (t' := [(6, .sl 34 (List.map Rule.av [({ Match := ({ Value := [0, 0, 0, 0, 0, 0, 0, 0, 0, 0, 0, 0], Care := [0, 0, 0, 0, 0, 0, 0, 0, 0, 0, 0, 0] } : Cube), Prio := 1, Acts := [], Idle := 0, Hard := 0, Owner := 0, Hits := 0, Quiet := 0, Age := 0 } : Rule), ({ Match := ({ Value := [0, 0, 0, 0, 0, 0, 0, 0, 0, 0, 0, 0], Care := [0, 0, 0, 0, 0, 0, 0, 0, 0, 0, 0, 0] } : Cube), Prio := 2, Acts := [], Idle := 0, Hard := 0, Owner := 0, Hits := 0, Quiet := 0, Age := 0 } : Rule)]) true)]) (h' := []) (by kernel_rfl) rfl ?_
  refine DK.op' [7] (t' := [(7, .sl 34 (List.map Rule.av (sortR [({ Match := ({ Value := [0, 0, 0, 0, 0, 0, 0, 0, 0, 0, 0, 0], Care := [0, 0, 0, 0, 0, 0, 0, 0, 0, 0, 0, 0] } : Cube), Prio := 1, Acts := [], Idle := 0, Hard := 0, Owner := 0, Hits := 0, Quiet := 0, Age := 0 } : Rule), ({ Match := ({ Value := [0, 0, 0, 0, 0, 0, 0, 0, 0, 0, 0, 0], Care := [0, 0, 0, 0, 0, 0, 0, 0, 0, 0, 0, 0] } : Cube), Prio := 2, Acts := [], Idle := 0, Hard := 0, Owner := 0, Hits := 0, Quiet := 0, Age := 0 } : Rule)])) true)]) (h' := []) (LSpec.callP' (rule_Sort_ok [({ Match := ({ Value := [0, 0, 0, 0, 0, 0, 0, 0, 0, 0, 0, 0], Care := [0, 0, 0, 0, 0, 0, 0, 0, 0, 0, 0, 0] } : Cube), Prio := 1, Acts := [], Idle := 0, Hard := 0, Owner := 0, Hits := 0, Quiet := 0, Age := 0 } : Rule), ({ Match := ({ Value := [0, 0, 0, 0, 0, 0, 0, 0, 0, 0, 0, 0], Care := [0, 0, 0, 0, 0, 0, 0, 0, 0, 0, 0, 0] } : Cube), Prio := 2, Acts := [], Idle := 0, Hard := 0, Owner := 0, Hits := 0, Quiet := 0, Age := 0 } : Rule)] true) (by kernel_rfl)) (by kernel_rfl) rfl (by kernel_rfl) rfl ?_
  refine DK.seg hG 1 [1] (t' := [(1, .sl 34 (List.map Rule.av (sortR [({ Match := ({ Value := [0, 0, 0, 0, 0, 0, 0, 0, 0, 0, 0, 0], Care := [0, 0, 0, 0, 0, 0, 0, 0, 0, 0, 0, 0] } : Cube), Prio := 1, Acts := [], Idle := 0, Hard := 0, Owner := 0, Hits := 0, Quiet := 0, Age := 0 } : Rule), ({ Match := ({ Value := [0, 0, 0, 0, 0, 0, 0, 0, 0, 0, 0, 0], Care := [0, 0, 0, 0, 0, 0, 0, 0, 0, 0, 0, 0] } : Cube), Prio := 2, Acts := [], Idle := 0, Hard := 0, Owner := 0, Hits := 0, Quiet := 0, Age := 0 } : Rule)])) true)]) (h' := []) (by kernel_rfl) rfl ?_
  refine DK.done (by kernel_rfl) (by kernel_rfl) ?_
  refine AR.seg hG hm 1 [1] (k' := [.code [1, 1, 0], .code [1, 1, 1]]) (t' := [(1, .sl 34 (List.map Rule.av (sortR [({ Match := ({ Value := [0, 0, 0, 0, 0, 0, 0, 0, 0, 0, 0, 0], Care := [0, 0, 0, 0, 0, 0, 0, 0, 0, 0, 0, 0] } : Cube), Prio := 1, Acts := [], Idle := 0, Hard := 0, Owner := 0, Hits := 0, Quiet := 0, Age := 0 } : Rule), ({ Match := ({ Value := [0, 0, 0, 0, 0, 0, 0, 0, 0, 0, 0, 0], Care := [0, 0, 0, 0, 0, 0, 0, 0, 0, 0, 0, 0] } : Cube), Prio := 2, Acts := [], Idle := 0, Hard := 0, Owner := 0, Hits := 0, Quiet := 0, Age := 0 } : Rule)])) true)]) (h' := []) (by kernel_rfl) ?_
  refine AR.reg hm podestalaw05_answers_k1 (by kernel_rfl) ?_
  refine DK.seg hG 2 [1, 9, 10] (t' := [(1, .sl 34 (List.map Rule.av (sortR [({ Match := ({ Value := [0, 0, 0, 0, 0, 0, 0, 0, 0, 0, 0, 0], Care := [0, 0, 0, 0, 0, 0, 0, 0, 0, 0, 0, 0] } : Cube), Prio := 1, Acts := [], Idle := 0, Hard := 0, Owner := 0, Hits := 0, Quiet := 0, Age := 0 } : Rule), ({ Match := ({ Value := [0, 0, 0, 0, 0, 0, 0, 0, 0, 0, 0, 0], Care := [0, 0, 0, 0, 0, 0, 0, 0, 0, 0, 0, 0] } : Cube), Prio := 2, Acts := [], Idle := 0, Hard := 0, Owner := 0, Hits := 0, Quiet := 0, Age := 0 } : Rule)])) true), (9, .sl 34 (List.map Rule.av (sortR [({ Match := ({ Value := [0, 0, 0, 0, 0, 0, 0, 0, 0, 0, 0, 0], Care := [0, 0, 0, 0, 0, 0, 0, 0, 0, 0, 0, 0] } : Cube), Prio := 1, Acts := [], Idle := 0, Hard := 0, Owner := 0, Hits := 0, Quiet := 0, Age := 0 } : Rule), ({ Match := ({ Value := [0, 0, 0, 0, 0, 0, 0, 0, 0, 0, 0, 0], Care := [0, 0, 0, 0, 0, 0, 0, 0, 0, 0, 0, 0] } : Cube), Prio := 2, Acts := [], Idle := 0, Hard := 0, Owner := 0, Hits := 0, Quiet := 0, Age := 0 } : Rule)])) true), (10, .arr .u64 12 [0, 0, 0, 0, 0, 0, 0, 0, 0, 0, 0, 0])]) (h' := []) (by kernel_rfl) rfl ?_
  refine DK.op' [1, 11] (t' := [(1, .sl 34 (List.map Rule.av (sortR [({ Match := ({ Value := [0, 0, 0, 0, 0, 0, 0, 0, 0, 0, 0, 0], Care := [0, 0, 0, 0, 0, 0, 0, 0, 0, 0, 0, 0] } : Cube), Prio := 1, Acts := [], Idle := 0, Hard := 0, Owner := 0, Hits := 0, Quiet := 0, Age := 0 } : Rule), ({ Match := ({ Value := [0, 0, 0, 0, 0, 0, 0, 0, 0, 0, 0, 0], Care := [0, 0, 0, 0, 0, 0, 0, 0, 0, 0, 0, 0] } : Cube), Prio := 2, Acts := [], Idle := 0, Hard := 0, Owner := 0, Hits := 0, Quiet := 0, Age := 0 } : Rule)])) true), (11, .tup [.sc (.int .i64 ((rule_Find (sortR [({ Match := ({ Value := [0, 0, 0, 0, 0, 0, 0, 0, 0, 0, 0, 0], Care := [0, 0, 0, 0, 0, 0, 0, 0, 0, 0, 0, 0] } : Cube), Prio := 1, Acts := [], Idle := 0, Hard := 0, Owner := 0, Hits := 0, Quiet := 0, Age := 0 } : Rule), ({ Match := ({ Value := [0, 0, 0, 0, 0, 0, 0, 0, 0, 0, 0, 0], Care := [0, 0, 0, 0, 0, 0, 0, 0, 0, 0, 0, 0] } : Cube), Prio := 2, Acts := [], Idle := 0, Hard := 0, Owner := 0, Hits := 0, Quiet := 0, Age := 0 } : Rule)]) [0, 0, 0, 0, 0, 0, 0, 0, 0, 0, 0, 0]).1)), .sc (.bool ((rule_Find (sortR [({ Match := ({ Value := [0, 0, 0, 0, 0, 0, 0, 0, 0, 0, 0, 0], Care := [0, 0, 0, 0, 0, 0, 0, 0, 0, 0, 0, 0] } : Cube), Prio := 1, Acts := [], Idle := 0, Hard := 0, Owner := 0, Hits := 0, Quiet := 0, Age := 0 } : Rule), ({ Match := ({ Value := [0, 0, 0, 0, 0, 0, 0, 0, 0, 0, 0, 0], Care := [0, 0, 0, 0, 0, 0, 0, 0, 0, 0, 0, 0] } : Cube), Prio := 2, Acts := [], Idle := 0, Hard := 0, Owner := 0, Hits := 0, Quiet := 0, Age := 0 } : Rule)]) [0, 0, 0, 0, 0, 0, 0, 0, 0, 0, 0, 0]).2))])]) (h' := []) (LSpec.callP' (rule_Find_calls (sortR [({ Match := ({ Value := [0, 0, 0, 0, 0, 0, 0, 0, 0, 0, 0, 0], Care := [0, 0, 0, 0, 0, 0, 0, 0, 0, 0, 0, 0] } : Cube), Prio := 1, Acts := [], Idle := 0, Hard := 0, Owner := 0, Hits := 0, Quiet := 0, Age := 0 } : Rule), ({ Match := ({ Value := [0, 0, 0, 0, 0, 0, 0, 0, 0, 0, 0, 0], Care := [0, 0, 0, 0, 0, 0, 0, 0, 0, 0, 0, 0] } : Cube), Prio := 2, Acts := [], Idle := 0, Hard := 0, Owner := 0, Hits := 0, Quiet := 0, Age := 0 } : Rule)]) [0, 0, 0, 0, 0, 0, 0, 0, 0, 0, 0, 0] true) (by kernel_rfl)) (by kernel_rfl) rfl (by kernel_rfl) rfl ?_
  refine DK.seg hG 5 [1, 2, 3] (t' := [(1, .sl 34 (List.map Rule.av (sortR [({ Match := ({ Value := [0, 0, 0, 0, 0, 0, 0, 0, 0, 0, 0, 0], Care := [0, 0, 0, 0, 0, 0, 0, 0, 0, 0, 0, 0] } : Cube), Prio := 1, Acts := [], Idle := 0, Hard := 0, Owner := 0, Hits := 0, Quiet := 0, Age := 0 } : Rule), ({ Match := ({ Value := [0, 0, 0, 0, 0, 0, 0, 0, 0, 0, 0, 0], Care := [0, 0, 0, 0, 0, 0, 0, 0, 0, 0, 0, 0] } : Cube), Prio := 2, Acts := [], Idle := 0, Hard := 0, Owner := 0, Hits := 0, Quiet := 0, Age := 0 } : Rule)])) true), (2, .sc (.int .i64 ((rule_Find (sortR [({ Match := ({ Value := [0, 0, 0, 0, 0, 0, 0, 0, 0, 0, 0, 0], Care := [0, 0, 0, 0, 0, 0, 0, 0, 0, 0, 0, 0] } : Cube), Prio := 1, Acts := [], Idle := 0, Hard := 0, Owner := 0, Hits := 0, Quiet := 0, Age := 0 } : Rule), ({ Match := ({ Value := [0, 0, 0, 0, 0, 0, 0, 0, 0, 0, 0, 0], Care := [0, 0, 0, 0, 0, 0, 0, 0, 0, 0, 0, 0] } : Cube), Prio := 2, Acts := [], Idle := 0, Hard := 0, Owner := 0, Hits := 0, Quiet := 0, Age := 0 } : Rule)]) [0, 0, 0, 0, 0, 0, 0, 0, 0, 0, 0, 0]).1))), (3, .sc (.bool ((rule_Find (sortR [({ Match := ({ Value := [0, 0, 0, 0, 0, 0, 0, 0, 0, 0, 0, 0], Care := [0, 0, 0, 0, 0, 0, 0, 0, 0, 0, 0, 0] } : Cube), Prio := 1, Acts := [], Idle := 0, Hard := 0, Owner := 0, Hits := 0, Quiet := 0, Age := 0 } : Rule), ({ Match := ({ Value := [0, 0, 0, 0, 0, 0, 0, 0, 0, 0, 0, 0], Care := [0, 0, 0, 0, 0, 0, 0, 0, 0, 0, 0, 0] } : Cube), Prio := 2, Acts := [], Idle := 0, Hard := 0, Owner := 0, Hits := 0, Quiet := 0, Age := 0 } : Rule)]) [0, 0, 0, 0, 0, 0, 0, 0, 0, 0, 0, 0]).2)))]) (h' := []) (by kernel_rfl) rfl ?_
  refine DK.done (by kernel_rfl) (by kernel_rfl) ?_
  refine AR.seg hG hm 1 [1, 2, 3] (k' := [.code [1, 1, 1, 0], .code [1, 1, 1, 1]]) (t' := [(1, .sl 34 (List.map Rule.av (sortR [({ Match := ({ Value := [0, 0, 0, 0, 0, 0, 0, 0, 0, 0, 0, 0], Care := [0, 0, 0, 0, 0, 0, 0, 0, 0, 0, 0, 0] } : Cube), Prio := 1, Acts := [], Idle := 0, Hard := 0, Owner := 0, Hits := 0, Quiet := 0, Age := 0 } : Rule), ({ Match := ({ Value := [0, 0, 0, 0, 0, 0, 0, 0, 0, 0, 0, 0], Care := [0, 0, 0, 0, 0, 0, 0, 0, 0, 0, 0, 0] } : Cube), Prio := 2, Acts := [], Idle := 0, Hard := 0, Owner := 0, Hits := 0, Quiet := 0, Age := 0 } : Rule)])) true), (2, .sc (.int .i64 ((rule_Find (sortR [({ Match := ({ Value := [0, 0, 0, 0, 0, 0, 0, 0, 0, 0, 0, 0], Care := [0, 0, 0, 0, 0, 0, 0, 0, 0, 0, 0, 0] } : Cube), Prio := 1, Acts := [], Idle := 0, Hard := 0, Owner := 0, Hits := 0, Quiet := 0, Age := 0 } : Rule), ({ Match := ({ Value := [0, 0, 0, 0, 0, 0, 0, 0, 0, 0, 0, 0], Care := [0, 0, 0, 0, 0, 0, 0, 0, 0, 0, 0, 0] } : Cube), Prio := 2, Acts := [], Idle := 0, Hard := 0, Owner := 0, Hits := 0, Quiet := 0, Age := 0 } : Rule)]) [0, 0, 0, 0, 0, 0, 0, 0, 0, 0, 0, 0]).1))), (3, .sc (.bool ((rule_Find (sortR [({ Match := ({ Value := [0, 0, 0, 0, 0, 0, 0, 0, 0, 0, 0, 0], Care := [0, 0, 0, 0, 0, 0, 0, 0, 0, 0, 0, 0] } : Cube), Prio := 1, Acts := [], Idle := 0, Hard := 0, Owner := 0, Hits := 0, Quiet := 0, Age := 0 } : Rule), ({ Match := ({ Value := [0, 0, 0, 0, 0, 0, 0, 0, 0, 0, 0, 0], Care := [0, 0, 0, 0, 0, 0, 0, 0, 0, 0, 0, 0] } : Cube), Prio := 2, Acts := [], Idle := 0, Hard := 0, Owner := 0, Hits := 0, Quiet := 0, Age := 0 } : Rule)]) [0, 0, 0, 0, 0, 0, 0, 0, 0, 0, 0, 0]).2)))]) (h' := []) (by kernel_rfl) ?_
  refine AR.reg hm podestalaw05_answers_k2 (by kernel_rfl) ?_
  refine DK.seg hG 4 [1, 2, 3, 17] (t' := [(1, .sl 34 (List.map Rule.av (sortR [({ Match := ({ Value := [0, 0, 0, 0, 0, 0, 0, 0, 0, 0, 0, 0], Care := [0, 0, 0, 0, 0, 0, 0, 0, 0, 0, 0, 0] } : Cube), Prio := 1, Acts := [], Idle := 0, Hard := 0, Owner := 0, Hits := 0, Quiet := 0, Age := 0 } : Rule), ({ Match := ({ Value := [0, 0, 0, 0, 0, 0, 0, 0, 0, 0, 0, 0], Care := [0, 0, 0, 0, 0, 0, 0, 0, 0, 0, 0, 0] } : Cube), Prio := 2, Acts := [], Idle := 0, Hard := 0, Owner := 0, Hits := 0, Quiet := 0, Age := 0 } : Rule)])) true), (2, .sc (.int .i64 ((rule_Find (sortR [({ Match := ({ Value := [0, 0, 0, 0, 0, 0, 0, 0, 0, 0, 0, 0], Care := [0, 0, 0, 0, 0, 0, 0, 0, 0, 0, 0, 0] } : Cube), Prio := 1, Acts := [], Idle := 0, Hard := 0, Owner := 0, Hits := 0, Quiet := 0, Age := 0 } : Rule), ({ Match := ({ Value := [0, 0, 0, 0, 0, 0, 0, 0, 0, 0, 0, 0], Care := [0, 0, 0, 0, 0, 0, 0, 0, 0, 0, 0, 0] } : Cube), Prio := 2, Acts := [], Idle := 0, Hard := 0, Owner := 0, Hits := 0, Quiet := 0, Age := 0 } : Rule)]) [0, 0, 0, 0, 0, 0, 0, 0, 0, 0, 0, 0]).1))), (3, .sc (.bool ((rule_Find (sortR [({ Match := ({ Value := [0, 0, 0, 0, 0, 0, 0, 0, 0, 0, 0, 0], Care := [0, 0, 0, 0, 0, 0, 0, 0, 0, 0, 0, 0] } : Cube), Prio := 1, Acts := [], Idle := 0, Hard := 0, Owner := 0, Hits := 0, Quiet := 0, Age := 0 } : Rule), ({ Match := ({ Value := [0, 0, 0, 0, 0, 0, 0, 0, 0, 0, 0, 0], Care := [0, 0, 0, 0, 0, 0, 0, 0, 0, 0, 0, 0] } : Cube), Prio := 2, Acts := [], Idle := 0, Hard := 0, Owner := 0, Hits := 0, Quiet := 0, Age := 0 } : Rule)]) [0, 0, 0, 0, 0, 0, 0, 0, 0, 0, 0, 0]).2))), (17, .sc (.bool ((((List.map Rule.av (sortR [({ Match := ({ Value := [0, 0, 0, 0, 0, 0, 0, 0, 0, 0, 0, 0], Care := [0, 0, 0, 0, 0, 0, 0, 0, 0, 0, 0, 0] } : Cube), Prio := 1, Acts := [], Idle := 0, Hard := 0, Owner := 0, Hits := 0, Quiet := 0, Age := 0 } : Rule), ({ Match := ({ Value := [0, 0, 0, 0, 0, 0, 0, 0, 0, 0, 0, 0], Care := [0, 0, 0, 0, 0, 0, 0, 0, 0, 0, 0, 0] } : Cube), Prio := 2, Acts := [], Idle := 0, Hard := 0, Owner := 0, Hits := 0, Quiet := 0, Age := 0 } : Rule)])).length : Nat) : Int) == 2)))]) (h' := []) (by kernel_rfl) rfl ?_
  refine DK.mux 17 ((((List.map Rule.av (sortR [({ Match := ({ Value := [0, 0, 0, 0, 0, 0, 0, 0, 0, 0, 0, 0], Care := [0, 0, 0, 0, 0, 0, 0, 0, 0, 0, 0, 0] } : Cube), Prio := 1, Acts := [], Idle := 0, Hard := 0, Owner := 0, Hits := 0, Quiet := 0, Age := 0 } : Rule), ({ Match := ({ Value := [0, 0, 0, 0, 0, 0, 0, 0, 0, 0, 0, 0], Care := [0, 0, 0, 0, 0, 0, 0, 0, 0, 0, 0, 0] } : Cube), Prio := 2, Acts := [], Idle := 0, Hard := 0, Owner := 0, Hits := 0, Quiet := 0, Age := 0 } : Rule)])).length : Nat) : Int) == 2) (j := 6) (h' := []) (by kernel_rfl) (fun z => [(1, .sl 34 (List.map Rule.av (sortR [({ Match := ({ Value := [0, 0, 0, 0, 0, 0, 0, 0, 0, 0, 0, 0], Care := [0, 0, 0, 0, 0, 0, 0, 0, 0, 0, 0, 0] } : Cube), Prio := 1, Acts := [], Idle := 0, Hard := 0, Owner := 0, Hits := 0, Quiet := 0, Age := 0 } : Rule), ({ Match := ({ Value := [0, 0, 0, 0, 0, 0, 0, 0, 0, 0, 0, 0], Care := [0, 0, 0, 0, 0, 0, 0, 0, 0, 0, 0, 0] } : Cube), Prio := 2, Acts := [], Idle := 0, Hard := 0, Owner := 0, Hits := 0, Quiet := 0, Age := 0 } : Rule)])) true), (2, .sc (.int .i64 ((rule_Find (sortR [({ Match := ({ Value := [0, 0, 0, 0, 0, 0, 0, 0, 0, 0, 0, 0], Care := [0, 0, 0, 0, 0, 0, 0, 0, 0, 0, 0, 0] } : Cube), Prio := 1, Acts := [], Idle := 0, Hard := 0, Owner := 0, Hits := 0, Quiet := 0, Age := 0 } : Rule), ({ Match := ({ Value := [0, 0, 0, 0, 0, 0, 0, 0, 0, 0, 0, 0], Care := [0, 0, 0, 0, 0, 0, 0, 0, 0, 0, 0, 0] } : Cube), Prio := 2, Acts := [], Idle := 0, Hard := 0, Owner := 0, Hits := 0, Quiet := 0, Age := 0 } : Rule)]) [0, 0, 0, 0, 0, 0, 0, 0, 0, 0, 0, 0]).1))), (19, .sc (.bool (z && (rule_Find (sortR [({ Match := ({ Value := [0, 0, 0, 0, 0, 0, 0, 0, 0, 0, 0, 0], Care := [0, 0, 0, 0, 0, 0, 0, 0, 0, 0, 0, 0] } : Cube), Prio := 1, Acts := [], Idle := 0, Hard := 0, Owner := 0, Hits := 0, Quiet := 0, Age := 0 } : Rule), ({ Match := ({ Value := [0, 0, 0, 0, 0, 0, 0, 0, 0, 0, 0, 0], Care := [0, 0, 0, 0, 0, 0, 0, 0, 0, 0, 0, 0] } : Cube), Prio := 2, Acts := [], Idle := 0, Hard := 0, Owner := 0, Hits := 0, Quiet := 0, Age := 0 } : Rule)]) [0, 0, 0, 0, 0, 0, 0, 0, 0, 0, 0, 0]).2)))]) ?J1 (fun hb J => ?ht1) (fun hb J => ?hf1)
  case ht1 =>
    exact DK.seg hG 2 [1, 2, 19] (by kernel_rfl) rfl J
  case hf1 =>
    exact DK.seg hG 2 [1, 2, 19] (by kernel_rfl) rfl J
  refine DK.seg hG 1 [1, 2, 20] (t' := [(1, .sl 34 (List.map Rule.av (sortR [({ Match := ({ Value := [0, 0, 0, 0, 0, 0, 0, 0, 0, 0, 0, 0], Care := [0, 0, 0, 0, 0, 0, 0, 0, 0, 0, 0, 0] } : Cube), Prio := 1, Acts := [], Idle := 0, Hard := 0, Owner := 0, Hits := 0, Quiet := 0, Age := 0 } : Rule), ({ Match := ({ Value := [0, 0, 0, 0, 0, 0, 0, 0, 0, 0, 0, 0], Care := [0, 0, 0, 0, 0, 0, 0, 0, 0, 0, 0, 0] } : Cube), Prio := 2, Acts := [], Idle := 0, Hard := 0, Owner := 0, Hits := 0, Quiet := 0, Age := 0 } : Rule)])) true), (2, .sc (.int .i64 ((rule_Find (sortR [({ Match := ({ Value := [0, 0, 0, 0, 0, 0, 0, 0, 0, 0, 0, 0], Care := [0, 0, 0, 0, 0, 0, 0, 0, 0, 0, 0, 0] } : Cube), Prio := 1, Acts := [], Idle := 0, Hard := 0, Owner := 0, Hits := 0, Quiet := 0, Age := 0 } : Rule), ({ Match := ({ Value := [0, 0, 0, 0, 0, 0, 0, 0, 0, 0, 0, 0], Care := [0, 0, 0, 0, 0, 0, 0, 0, 0, 0, 0, 0] } : Cube), Prio := 2, Acts := [], Idle := 0, Hard := 0, Owner := 0, Hits := 0, Quiet := 0, Age := 0 } : Rule)]) [0, 0, 0, 0, 0, 0, 0, 0, 0, 0, 0, 0]).1))), (20, .sc (.bool (((((List.map Rule.av (sortR [({ Match := ({ Value := [0, 0, 0, 0, 0, 0, 0, 0, 0, 0, 0, 0], Care := [0, 0, 0, 0, 0, 0, 0, 0, 0, 0, 0, 0] } : Cube), Prio := 1, Acts := [], Idle := 0, Hard := 0, Owner := 0, Hits := 0, Quiet := 0, Age := 0 } : Rule), ({ Match := ({ Value := [0, 0, 0, 0, 0, 0, 0, 0, 0, 0, 0, 0], Care := [0, 0, 0, 0, 0, 0, 0, 0, 0, 0, 0, 0] } : Cube), Prio := 2, Acts := [], Idle := 0, Hard := 0, Owner := 0, Hits := 0, Quiet := 0, Age := 0 } : Rule)])).length : Nat) : Int) == 2) && (rule_Find (sortR [({ Match := ({ Value := [0, 0, 0, 0, 0, 0, 0, 0, 0, 0, 0, 0], Care := [0, 0, 0, 0, 0, 0, 0, 0, 0, 0, 0, 0] } : Cube), Prio := 1, Acts := [], Idle := 0, Hard := 0, Owner := 0, Hits := 0, Quiet := 0, Age := 0 } : Rule), ({ Match := ({ Value := [0, 0, 0, 0, 0, 0, 0, 0, 0, 0, 0, 0], Care := [0, 0, 0, 0, 0, 0, 0, 0, 0, 0, 0, 0] } : Cube), Prio := 2, Acts := [], Idle := 0, Hard := 0, Owner := 0, Hits := 0, Quiet := 0, Age := 0 } : Rule)]) [0, 0, 0, 0, 0, 0, 0, 0, 0, 0, 0, 0]).2)))]) (h' := []) (by kernel_rfl) rfl ?_
  refine DK.mux 20 (((((List.map Rule.av (sortR [({ Match := ({ Value := [0, 0, 0, 0, 0, 0, 0, 0, 0, 0, 0, 0], Care := [0, 0, 0, 0, 0, 0, 0, 0, 0, 0, 0, 0] } : Cube), Prio := 1, Acts := [], Idle := 0, Hard := 0, Owner := 0, Hits := 0, Quiet := 0, Age := 0 } : Rule), ({ Match := ({ Value := [0, 0, 0, 0, 0, 0, 0, 0, 0, 0, 0, 0], Care := [0, 0, 0, 0, 0, 0, 0, 0, 0, 0, 0, 0] } : Cube), Prio := 2, Acts := [], Idle := 0, Hard := 0, Owner := 0, Hits := 0, Quiet := 0, Age := 0 } : Rule)])).length : Nat) : Int) == 2) && (rule_Find (sortR [({ Match := ({ Value := [0, 0, 0, 0, 0, 0, 0, 0, 0, 0, 0, 0], Care := [0, 0, 0, 0, 0, 0, 0, 0, 0, 0, 0, 0] } : Cube), Prio := 1, Acts := [], Idle := 0, Hard := 0, Owner := 0, Hits := 0, Quiet := 0, Age := 0 } : Rule), ({ Match := ({ Value := [0, 0, 0, 0, 0, 0, 0, 0, 0, 0, 0, 0], Care := [0, 0, 0, 0, 0, 0, 0, 0, 0, 0, 0, 0] } : Cube), Prio := 2, Acts := [], Idle := 0, Hard := 0, Owner := 0, Hits := 0, Quiet := 0, Age := 0 } : Rule)]) [0, 0, 0, 0, 0, 0, 0, 0, 0, 0, 0, 0]).2) (j := 10) (h' := []) (by kernel_rfl) (fun z => [(1, .sl 34 (List.map Rule.av (sortR [({ Match := ({ Value := [0, 0, 0, 0, 0, 0, 0, 0, 0, 0, 0, 0], Care := [0, 0, 0, 0, 0, 0, 0, 0, 0, 0, 0, 0] } : Cube), Prio := 1, Acts := [], Idle := 0, Hard := 0, Owner := 0, Hits := 0, Quiet := 0, Age := 0 } : Rule), ({ Match := ({ Value := [0, 0, 0, 0, 0, 0, 0, 0, 0, 0, 0, 0], Care := [0, 0, 0, 0, 0, 0, 0, 0, 0, 0, 0, 0] } : Cube), Prio := 2, Acts := [], Idle := 0, Hard := 0, Owner := 0, Hits := 0, Quiet := 0, Age := 0 } : Rule)])) true), (23, .sc (.bool (z && ((rule_Find (sortR [({ Match := ({ Value := [0, 0, 0, 0, 0, 0, 0, 0, 0, 0, 0, 0], Care := [0, 0, 0, 0, 0, 0, 0, 0, 0, 0, 0, 0] } : Cube), Prio := 1, Acts := [], Idle := 0, Hard := 0, Owner := 0, Hits := 0, Quiet := 0, Age := 0 } : Rule), ({ Match := ({ Value := [0, 0, 0, 0, 0, 0, 0, 0, 0, 0, 0, 0], Care := [0, 0, 0, 0, 0, 0, 0, 0, 0, 0, 0, 0] } : Cube), Prio := 2, Acts := [], Idle := 0, Hard := 0, Owner := 0, Hits := 0, Quiet := 0, Age := 0 } : Rule)]) [0, 0, 0, 0, 0, 0, 0, 0, 0, 0, 0, 0]).1 == 0))))]) ?J2 (fun hb J => ?ht2) (fun hb J => ?hf2)
  case ht2 =>
    exact DK.seg hG 3 [1, 23] (by kernel_rfl) rfl J
  case hf2 =>
    exact DK.seg hG 3 [1, 23] (by kernel_rfl) rfl J
  refine DK.seg hG 1 [1, 24] (t' := [(1, .sl 34 (List.map Rule.av (sortR [({ Match := ({ Value := [0, 0, 0, 0, 0, 0, 0, 0, 0, 0, 0, 0], Care := [0, 0, 0, 0, 0, 0, 0, 0, 0, 0, 0, 0] } : Cube), Prio := 1, Acts := [], Idle := 0, Hard := 0, Owner := 0, Hits := 0, Quiet := 0, Age := 0 } : Rule), ({ Match := ({ Value := [0, 0, 0, 0, 0, 0, 0, 0, 0, 0, 0, 0], Care := [0, 0, 0, 0, 0, 0, 0, 0, 0, 0, 0, 0] } : Cube), Prio := 2, Acts := [], Idle := 0, Hard := 0, Owner := 0, Hits := 0, Quiet := 0, Age := 0 } : Rule)])) true), (24, .sc (.bool ((((((List.map Rule.av (sortR [({ Match := ({ Value := [0, 0, 0, 0, 0, 0, 0, 0, 0, 0, 0, 0], Care := [0, 0, 0, 0, 0, 0, 0, 0, 0, 0, 0, 0] } : Cube), Prio := 1, Acts := [], Idle := 0, Hard := 0, Owner := 0, Hits := 0, Quiet := 0, Age := 0 } : Rule), ({ Match := ({ Value := [0, 0, 0, 0, 0, 0, 0, 0, 0, 0, 0, 0], Care := [0, 0, 0, 0, 0, 0, 0, 0, 0, 0, 0, 0] } : Cube), Prio := 2, Acts := [], Idle := 0, Hard := 0, Owner := 0, Hits := 0, Quiet := 0, Age := 0 } : Rule)])).length : Nat) : Int) == 2) && (rule_Find (sortR [({ Match := ({ Value := [0, 0, 0, 0, 0, 0, 0, 0, 0, 0, 0, 0], Care := [0, 0, 0, 0, 0, 0, 0, 0, 0, 0, 0, 0] } : Cube), Prio := 1, Acts := [], Idle := 0, Hard := 0, Owner := 0, Hits := 0, Quiet := 0, Age := 0 } : Rule), ({ Match := ({ Value := [0, 0, 0, 0, 0, 0, 0, 0, 0, 0, 0, 0], Care := [0, 0, 0, 0, 0, 0, 0, 0, 0, 0, 0, 0] } : Cube), Prio := 2, Acts := [], Idle := 0, Hard := 0, Owner := 0, Hits := 0, Quiet := 0, Age := 0 } : Rule)]) [0, 0, 0, 0, 0, 0, 0, 0, 0, 0, 0, 0]).2) && ((rule_Find (sortR [({ Match := ({ Value := [0, 0, 0, 0, 0, 0, 0, 0, 0, 0, 0, 0], Care := [0, 0, 0, 0, 0, 0, 0, 0, 0, 0, 0, 0] } : Cube), Prio := 1, Acts := [], Idle := 0, Hard := 0, Owner := 0, Hits := 0, Quiet := 0, Age := 0 } : Rule), ({ Match := ({ Value := [0, 0, 0, 0, 0, 0, 0, 0, 0, 0, 0, 0], Care := [0, 0, 0, 0, 0, 0, 0, 0, 0, 0, 0, 0] } : Cube), Prio := 2, Acts := [], Idle := 0, Hard := 0, Owner := 0, Hits := 0, Quiet := 0, Age := 0 } : Rule)]) [0, 0, 0, 0, 0, 0, 0, 0, 0, 0, 0, 0]).1 == 0))))]) (h' := []) (by kernel_rfl) rfl ?_
  refine DK.split 24 ((((((List.map Rule.av (sortR [({ Match := ({ Value := [0, 0, 0, 0, 0, 0, 0, 0, 0, 0, 0, 0], Care := [0, 0, 0, 0, 0, 0, 0, 0, 0, 0, 0, 0] } : Cube), Prio := 1, Acts := [], Idle := 0, Hard := 0, Owner := 0, Hits := 0, Quiet := 0, Age := 0 } : Rule), ({ Match := ({ Value := [0, 0, 0, 0, 0, 0, 0, 0, 0, 0, 0, 0], Care := [0, 0, 0, 0, 0, 0, 0, 0, 0, 0, 0, 0] } : Cube), Prio := 2, Acts := [], Idle := 0, Hard := 0, Owner := 0, Hits := 0, Quiet := 0, Age := 0 } : Rule)])).length : Nat) : Int) == 2) && (rule_Find (sortR [({ Match := ({ Value := [0, 0, 0, 0, 0, 0, 0, 0, 0, 0, 0, 0], Care := [0, 0, 0, 0, 0, 0, 0, 0, 0, 0, 0, 0] } : Cube), Prio := 1, Acts := [], Idle := 0, Hard := 0, Owner := 0, Hits := 0, Quiet := 0, Age := 0 } : Rule), ({ Match := ({ Value := [0, 0, 0, 0, 0, 0, 0, 0, 0, 0, 0, 0], Care := [0, 0, 0, 0, 0, 0, 0, 0, 0, 0, 0, 0] } : Cube), Prio := 2, Acts := [], Idle := 0, Hard := 0, Owner := 0, Hits := 0, Quiet := 0, Age := 0 } : Rule)]) [0, 0, 0, 0, 0, 0, 0, 0, 0, 0, 0, 0]).2) && ((rule_Find (sortR [({ Match := ({ Value := [0, 0, 0, 0, 0, 0, 0, 0, 0, 0, 0, 0], Care := [0, 0, 0, 0, 0, 0, 0, 0, 0, 0, 0, 0] } : Cube), Prio := 1, Acts := [], Idle := 0, Hard := 0, Owner := 0, Hits := 0, Quiet := 0, Age := 0 } : Rule), ({ Match := ({ Value := [0, 0, 0, 0, 0, 0, 0, 0, 0, 0, 0, 0], Care := [0, 0, 0, 0, 0, 0, 0, 0, 0, 0, 0, 0] } : Cube), Prio := 2, Acts := [], Idle := 0, Hard := 0, Owner := 0, Hits := 0, Quiet := 0, Age := 0 } : Rule)]) [0, 0, 0, 0, 0, 0, 0, 0, 0, 0, 0, 0]).1 == 0)) (by kernel_rfl) (fun hb => ?ht3) (fun hb => ?hf3)
  case ht3 =>
    replace H := cond_t hb H
    refine DK.seg hG 1 [1, 24, 25] (t' := [(1, .sl 34 (List.map Rule.av (sortR [({ Match := ({ Value := [0, 0, 0, 0, 0, 0, 0, 0, 0, 0, 0, 0], Care := [0, 0, 0, 0, 0, 0, 0, 0, 0, 0, 0, 0] } : Cube), Prio := 1, Acts := [], Idle := 0, Hard := 0, Owner := 0, Hits := 0, Quiet := 0, Age := 0 } : Rule), ({ Match := ({ Value := [0, 0, 0, 0, 0, 0, 0, 0, 0, 0, 0, 0], Care := [0, 0, 0, 0, 0, 0, 0, 0, 0, 0, 0, 0] } : Cube), Prio := 2, Acts := [], Idle := 0, Hard := 0, Owner := 0, Hits := 0, Quiet := 0, Age := 0 } : Rule)])) true), (24, .sc (.bool true)), (25, .sl 34 (List.map Rule.av (sortR [({ Match := ({ Value := [0, 0, 0, 0, 0, 0, 0, 0, 0, 0, 0, 0], Care := [0, 0, 0, 0, 0, 0, 0, 0, 0, 0, 0, 0] } : Cube), Prio := 1, Acts := [], Idle := 0, Hard := 0, Owner := 0, Hits := 0, Quiet := 0, Age := 0 } : Rule), ({ Match := ({ Value := [0, 0, 0, 0, 0, 0, 0, 0, 0, 0, 0, 0], Care := [0, 0, 0, 0, 0, 0, 0, 0, 0, 0, 0, 0] } : Cube), Prio := 2, Acts := [], Idle := 0, Hard := 0, Owner := 0, Hits := 0, Quiet := 0, Age := 0 } : Rule)])) true)]) (h' := []) (by kernel_rfl) rfl ?_
    obtain ⟨x, hv, H⟩ := Option.bind_eq_some_iff.1 H
    refine DK.op' [1, 24, 26] (t' := [(1, .sl 34 (List.map Rule.av (sortR [({ Match := ({ Value := [0, 0, 0, 0, 0, 0, 0, 0, 0, 0, 0, 0], Care := [0, 0, 0, 0, 0, 0, 0, 0, 0, 0, 0, 0] } : Cube), Prio := 1, Acts := [], Idle := 0, Hard := 0, Owner := 0, Hits := 0, Quiet := 0, Age := 0 } : Rule), ({ Match := ({ Value := [0, 0, 0, 0, 0, 0, 0, 0, 0, 0, 0, 0], Care := [0, 0, 0, 0, 0, 0, 0, 0, 0, 0, 0, 0] } : Cube), Prio := 2, Acts := [], Idle := 0, Hard := 0, Owner := 0, Hits := 0, Quiet := 0, Age := 0 } : Rule)])) true), (24, .sc (.bool true)), (26, .ep [.arr .u64 12 x.Match.Value, .arr .u64 12 x.Match.Care, .sc (.int .i64 x.Prio), .sl 42 (List.map Act.av x.Acts) false, .sc (.int .i64 x.Idle), .sc (.int .i64 x.Hard), .sc (.int .i64 x.Owner), .sc (.int .i64 x.Hits), .sc (.int .i64 x.Quiet), .sc (.int .i64 x.Age)] 0 none)]) (h' := []) (LSpec.index' (r := Rule.av x) (fs := [.arr .u64 12 x.Match.Value, .arr .u64 12 x.Match.Care, .sc (.int .i64 x.Prio), .sl 42 (List.map Act.av x.Acts) false, .sc (.int .i64 x.Idle), .sc (.int .i64 x.Hard), .sc (.int .i64 x.Owner), .sc (.int .i64 x.Hits), .sc (.int .i64 x.Quiet), .sc (.int .i64 x.Age)]) hG (rows := List.map Rule.av (sortR [({ Match := ({ Value := [0, 0, 0, 0, 0, 0, 0, 0, 0, 0, 0, 0], Care := [0, 0, 0, 0, 0, 0, 0, 0, 0, 0, 0, 0] } : Cube), Prio := 1, Acts := [], Idle := 0, Hard := 0, Owner := 0, Hits := 0, Quiet := 0, Age := 0 } : Rule), ({ Match := ({ Value := [0, 0, 0, 0, 0, 0, 0, 0, 0, 0, 0, 0], Care := [0, 0, 0, 0, 0, 0, 0, 0, 0, 0, 0, 0] } : Cube), Prio := 2, Acts := [], Idle := 0, Hard := 0, Owner := 0, Hits := 0, Quiet := 0, Age := 0 } : Rule)])) (j := 0) (by kernel_rfl) (ixO_map hv _) (by kernel_rfl)) (by kernel_rfl) rfl (by kernel_rfl) rfl ?_
    refine DK.seg hG 5 [1, 31] (t' := [(1, .sl 34 (List.map Rule.av (sortR [({ Match := ({ Value := [0, 0, 0, 0, 0, 0, 0, 0, 0, 0, 0, 0], Care := [0, 0, 0, 0, 0, 0, 0, 0, 0, 0, 0, 0] } : Cube), Prio := 1, Acts := [], Idle := 0, Hard := 0, Owner := 0, Hits := 0, Quiet := 0, Age := 0 } : Rule), ({ Match := ({ Value := [0, 0, 0, 0, 0, 0, 0, 0, 0, 0, 0, 0], Care := [0, 0, 0, 0, 0, 0, 0, 0, 0, 0, 0, 0] } : Cube), Prio := 2, Acts := [], Idle := 0, Hard := 0, Owner := 0, Hits := 0, Quiet := 0, Age := 0 } : Rule)])) true), (31, .sc (.bool (x.Prio == 2)))]) (h' := []) (by kernel_rfl) rfl ?_
    refine DK.split 31 (x.Prio == 2) (by kernel_rfl) (fun hb => ?ht4) (fun hb => ?hf4)
    case ht4 =>
      replace H := cond_t hb H
      refine DK.seg hG 1 [31, 32] (t' := [(31, .sc (.bool true)), (32, .sl 34 (List.map Rule.av (sortR [({ Match := ({ Value := [0, 0, 0, 0, 0, 0, 0, 0, 0, 0, 0, 0], Care := [0, 0, 0, 0, 0, 0, 0, 0, 0, 0, 0, 0] } : Cube), Prio := 1, Acts := [], Idle := 0, Hard := 0, Owner := 0, Hits := 0, Quiet := 0, Age := 0 } : Rule), ({ Match := ({ Value := [0, 0, 0, 0, 0, 0, 0, 0, 0, 0, 0, 0], Care := [0, 0, 0, 0, 0, 0, 0, 0, 0, 0, 0, 0] } : Cube), Prio := 2, Acts := [], Idle := 0, Hard := 0, Owner := 0, Hits := 0, Quiet := 0, Age := 0 } : Rule)])) true)]) (h' := []) (by kernel_rfl) rfl ?_
      obtain ⟨x1, hv, H⟩ := Option.bind_eq_some_iff.1 H
      refine DK.op' [31, 33] (t' := [(31, .sc (.bool true)), (33, .ep [.arr .u64 12 x1.Match.Value, .arr .u64 12 x1.Match.Care, .sc (.int .i64 x1.Prio), .sl 42 (List.map Act.av x1.Acts) false, .sc (.int .i64 x1.Idle), .sc (.int .i64 x1.Hard), .sc (.int .i64 x1.Owner), .sc (.int .i64 x1.Hits), .sc (.int .i64 x1.Quiet), .sc (.int .i64 x1.Age)] 0 none)]) (h' := []) (LSpec.index' (r := Rule.av x1) (fs := [.arr .u64 12 x1.Match.Value, .arr .u64 12 x1.Match.Care, .sc (.int .i64 x1.Prio), .sl 42 (List.map Act.av x1.Acts) false, .sc (.int .i64 x1.Idle), .sc (.int .i64 x1.Hard), .sc (.int .i64 x1.Owner), .sc (.int .i64 x1.Hits), .sc (.int .i64 x1.Quiet), .sc (.int .i64 x1.Age)]) hG (rows := List.map Rule.av (sortR [({ Match := ({ Value := [0, 0, 0, 0, 0, 0, 0, 0, 0, 0, 0, 0], Care := [0, 0, 0, 0, 0, 0, 0, 0, 0, 0, 0, 0] } : Cube), Prio := 1, Acts := [], Idle := 0, Hard := 0, Owner := 0, Hits := 0, Quiet := 0, Age := 0 } : Rule), ({ Match := ({ Value := [0, 0, 0, 0, 0, 0, 0, 0, 0, 0, 0, 0], Care := [0, 0, 0, 0, 0, 0, 0, 0, 0, 0, 0, 0] } : Cube), Prio := 2, Acts := [], Idle := 0, Hard := 0, Owner := 0, Hits := 0, Quiet := 0, Age := 0 } : Rule)])) (j := 0) (by kernel_rfl) (ixO_map hv _) (by kernel_rfl)) (by kernel_rfl) rfl (by kernel_rfl) rfl ?_
      refine DK.seg hG 1 [31, 34] (t' := [(31, .sc (.bool true)), (34, Rule.av x1)]) (h' := []) (by kernel_rfl) rfl ?_
      refine DK.op' [31, 35] (t' := [(31, .sc (.bool true)), (35, .sc (.bool (rule_Sound x1)))]) (h' := []) (LSpec.callP' (rule_Sound_calls x1) (by kernel_rfl)) (by kernel_rfl) rfl (by kernel_rfl) rfl ?_
      refine DK.seg hG 2 [0] (t' := [(0, .sc (.bool (rule_Sound x1)))]) (h' := []) (by kernel_rfl) rfl ?_
      refine DK.done (by kernel_rfl) (by kernel_rfl) ?_
      obtain rfl := Option.some.inj H
      exact AR.ret0 (fn := Try.f10) hG Try.func10 (by kernel_rfl) hc0 (r0 := .sc (.bool (rule_Sound x1))) (by kernel_rfl) (WkV.refl _)
    case hf4 =>
      replace H := cond_f hb H
      refine DK.seg hG 6 [0] (t' := [(0, .sc (.bool false))]) (h' := []) (by kernel_rfl) rfl ?_
      refine DK.done (by kernel_rfl) (by kernel_rfl) ?_
      obtain rfl := Option.some.inj H
      exact AR.ret0 (fn := Try.f10) hG Try.func10 (by kernel_rfl) hc0 (r0 := .sc (.bool false)) (by kernel_rfl) (WkV.refl _)
  case hf3 =>
    replace H := cond_f hb H
    refine DK.seg hG 13 [0] (t' := [(0, .sc (.bool false))]) (h' := []) (by kernel_rfl) rfl ?_
    refine DK.done (by kernel_rfl) (by kernel_rfl) ?_
    obtain rfl := Option.some.inj H
    exact AR.ret0 (fn := Try.f10) hG Try.func10 (by kernel_rfl) hc0 (r0 := .sc (.bool false)) (by kernel_rfl) (WkV.refl _)

theorem podestalaw05_answers_ok : ACalls Try.prog tab.S 10 [] [] (.sc (.bool true)) [] := podestalaw05_answers_walk true (by kernel_rfl)
end Go.Proofs.Ytadolbhmdimbkaa

set_option linter.unusedVariables false
set_option linter.unusedSimpArgs false
set_option maxRecDepth 100000
set_option maxHeartbeats 4000000
namespace Go.Proofs.Ytadolbhmdimbkaa
open Go.Sh
/-! ### podestalaw05.RuleOrder: function 4 -/
noncomputable def podestalaw05_RuleOrder_F : Go.Sh.Fn := ⟨4, bodyOf Try.f4, 45⟩
def podestalaw05_RuleOrder_k1 : List Kd := [.pure, .pure, .pure, .pure, .pure, .pure, .pure, .pure, .pure, .pure, .pure, .pure, .pure, .pure, .pure, .pure, .read, .read, .pure, .pure, .pure, .read, .read, .pure, .pure, .pure, .pure]
def podestalaw05_RuleOrder_k0 : List Kd := [.read, .read, .pure, .read, .read, .pure, .read, .read, .pure, .pure, .pure, .pure]
def podestalaw05_RuleOrder (a : Rule) (b : Rule) (c : Rule) : Bool :=
  ((((!(rule_Before a b)) || (!(rule_Before b c))) || (rule_Before a c)) && (((!(rule_Before a b)) && (!(rule_Before b a))) == (rule_Key a b)))
theorem podestalaw05_RuleOrder_walk (a : Rule) (b : Rule) (c : Rule) (r : Bool) (H : podestalaw05_RuleOrder a b c = r) :
    ACalls Try.prog tab.S 4 [Rule.av a, Rule.av b, Rule.av c] [] (.sc (.bool r)) [] := by
  have hG := tab_ok
  have hm := mixed
  refine ACalls.of_AR (G := tab) podestalaw05_RuleOrder_F (fn := Try.f4) Try.func4 (by kernel_rfl) (by kernel_rfl) (by kernel_rfl) (Nat.le_of_ble_eq_true (by kernel_rfl)) ?_
  intro c0 hc0
  replace hc0 : c0.m.length = 0 := hc0
  rw [podestalaw05_RuleOrder] at H
  refine AR.seg hG hm 3 [3, 4, 5] (k' := [.code [1, 0], .code [1, 1]]) (t' := [(3, .ptr 0 0 none), (4, .ptr 1 0 none), (5, .ptr 2 0 none)]) (h' := [.box 34 (Rule.ch a), .box 34 (Rule.ch b), .box 34 (Rule.ch c)]) (by kernel_rfl) ?_
  refine AR.reg hm podestalaw05_RuleOrder_k0 (by kernel_rfl) ?_
  refine DK.seg hG 2 [3, 4, 5, 10, 11] (t' := [(3, .ptr 0 0 none), (4, .ptr 1 0 none), (5, .ptr 2 0 none), (10, Rule.av a), (11, Rule.av b)]) (h' := [.box 34 (Rule.ch a), .box 34 (Rule.ch b), .box 34 (Rule.ch c)]) (by kernel_rfl) rfl ?_
  refine DK.op' [3, 4, 5, 12] (t' := [(3, .ptr 0 0 none), (4, .ptr 1 0 none), (5, .ptr 2 0 none), (12, .sc (.bool (rule_Before a b)))]) (h' := [.box 34 (Rule.ch a), .box 34 (Rule.ch b), .box 34 (Rule.ch c)]) (LSpec.callP' (rule_Before_calls a b) (by kernel_rfl)) (by kernel_rfl) rfl (by kernel_rfl) rfl ?_
  refine DK.seg hG 2 [3, 4, 5, 12, 13, 14] (t' := [(3, .ptr 0 0 none), (4, .ptr 1 0 none), (5, .ptr 2 0 none), (12, .sc (.bool (rule_Before a b))), (13, Rule.av b), (14, Rule.av c)]) (h' := [.box 34 (Rule.ch a), .box 34 (Rule.ch b), .box 34 (Rule.ch c)]) (by kernel_rfl) rfl ?_
  refine DK.op' [3, 4, 5, 12, 15] (t' := [(3, .ptr 0 0 none), (4, .ptr 1 0 none), (5, .ptr 2 0 none), (12, .sc (.bool (rule_Before a b))), (15, .sc (.bool (rule_Before b c)))]) (h' := [.box 34 (Rule.ch a), .box 34 (Rule.ch b), .box 34 (Rule.ch c)]) (LSpec.callP' (rule_Before_calls b c) (by kernel_rfl)) (by kernel_rfl) rfl (by kernel_rfl) rfl ?_
  refine DK.seg hG 2 [3, 4, 12, 15, 16, 17] (t' := [(3, .ptr 0 0 none), (4, .ptr 1 0 none), (12, .sc (.bool (rule_Before a b))), (15, .sc (.bool (rule_Before b c))), (16, Rule.av a), (17, Rule.av c)]) (h' := [.box 34 (Rule.ch a), .box 34 (Rule.ch b), .box 34 (Rule.ch c)]) (by kernel_rfl) rfl ?_
  refine DK.op' [3, 4, 12, 15, 18] (t' := [(3, .ptr 0 0 none), (4, .ptr 1 0 none), (12, .sc (.bool (rule_Before a b))), (15, .sc (.bool (rule_Before b c))), (18, .sc (.bool (rule_Before a c)))]) (h' := [.box 34 (Rule.ch a), .box 34 (Rule.ch b), .box 34 (Rule.ch c)]) (LSpec.callP' (rule_Before_calls a c) (by kernel_rfl)) (by kernel_rfl) rfl (by kernel_rfl) rfl ?_
  refine DK.seg hG 3 [3, 4, 7, 8, 9] (t' := [(3, .ptr 0 0 none), (4, .ptr 1 0 none), (7, .sc (.bool (rule_Before a b))), (8, .sc (.bool (rule_Before b c))), (9, .sc (.bool (rule_Before a c)))]) (h' := [.box 34 (Rule.ch a), .box 34 (Rule.ch b), .box 34 (Rule.ch c)]) (by kernel_rfl) rfl ?_
  refine DK.done (by kernel_rfl) (by kernel_rfl) ?_
  refine AR.seg hG hm 1 [3, 4, 7, 8, 9] (k' := [.code [1, 1, 0], .code [1, 1, 1]]) (t' := [(3, .ptr 0 0 none), (4, .ptr 1 0 none), (7, .sc (.bool (rule_Before a b))), (8, .sc (.bool (rule_Before b c))), (9, .sc (.bool (rule_Before a c)))]) (h' := [.box 34 (Rule.ch a), .box 34 (Rule.ch b), .box 34 (Rule.ch c)]) (by kernel_rfl) ?_
  refine AR.reg hm podestalaw05_RuleOrder_k1 (by kernel_rfl) ?_
  refine DK.op' [3, 4, 7, 8, 9, 19] (t' := [(3, .ptr 0 0 none), (4, .ptr 1 0 none), (7, .sc (.bool (rule_Before a b))), (8, .sc (.bool (rule_Before b c))), (9, .sc (.bool (rule_Before a c))), (19, .sc (.bool true))]) (h' := [.box 34 (Rule.ch a), .box 34 (Rule.ch b), .box 34 (Rule.ch c)]) (LSpec.callP' (podestalaw05_answers_ok) (by kernel_rfl)) (by kernel_rfl) rfl (by kernel_rfl) rfl ?_
  refine DK.seg hG 4 [3, 4, 7, 8, 9, 20, 23] (t' := [(3, .ptr 0 0 none), (4, .ptr 1 0 none), (7, .sc (.bool (rule_Before a b))), (8, .sc (.bool (rule_Before b c))), (9, .sc (.bool (rule_Before a c))), (20, .sc (.bool true)), (23, .sc (.bool (!(rule_Before a b))))]) (h' := [.box 34 (Rule.ch a), .box 34 (Rule.ch b), .box 34 (Rule.ch c)]) (by kernel_rfl) rfl ?_
  refine DK.mux 23 (!(rule_Before a b)) (j := 8) (h' := [.box 34 (Rule.ch a), .box 34 (Rule.ch b), .box 34 (Rule.ch c)]) (by kernel_rfl) (fun z => [(3, .ptr 0 0 none), (4, .ptr 1 0 none), (7, .sc (.bool (rule_Before a b))), (9, .sc (.bool (rule_Before a c))), (20, .sc (.bool true)), (26, .sc (.bool (z || (!(rule_Before b c)))))]) ?J1 (fun hb J => ?ht1) (fun hb J => ?hf1)
  case ht1 =>
    exact DK.seg hG 3 [3, 4, 7, 9, 20, 26] (by kernel_rfl) rfl J
  case hf1 =>
    exact DK.seg hG 3 [3, 4, 7, 9, 20, 26] (by kernel_rfl) rfl J
  refine DK.seg hG 1 [3, 4, 7, 9, 20, 27] (t' := [(3, .ptr 0 0 none), (4, .ptr 1 0 none), (7, .sc (.bool (rule_Before a b))), (9, .sc (.bool (rule_Before a c))), (20, .sc (.bool true)), (27, .sc (.bool ((!(rule_Before a b)) || (!(rule_Before b c)))))]) (h' := [.box 34 (Rule.ch a), .box 34 (Rule.ch b), .box 34 (Rule.ch c)]) (by kernel_rfl) rfl ?_
  refine DK.mux 27 ((!(rule_Before a b)) || (!(rule_Before b c))) (j := 11) (h' := [.box 34 (Rule.ch a), .box 34 (Rule.ch b), .box 34 (Rule.ch c)]) (by kernel_rfl) (fun z => [(3, .ptr 0 0 none), (4, .ptr 1 0 none), (7, .sc (.bool (rule_Before a b))), (20, .sc (.bool true)), (29, .sc (.bool (z || (rule_Before a c))))]) ?J2 (fun hb J => ?ht2) (fun hb J => ?hf2)
  case ht2 =>
    exact DK.seg hG 2 [3, 4, 7, 20, 29] (by kernel_rfl) rfl J
  case hf2 =>
    exact DK.seg hG 2 [3, 4, 7, 20, 29] (by kernel_rfl) rfl J
  refine DK.seg hG 2 [3, 4, 7, 31] (t' := [(3, .ptr 0 0 none), (4, .ptr 1 0 none), (7, .sc (.bool (rule_Before a b))), (31, .sc (.bool (((!(rule_Before a b)) || (!(rule_Before b c))) || (rule_Before a c))))]) (h' := [.box 34 (Rule.ch a), .box 34 (Rule.ch b), .box 34 (Rule.ch c)]) (by kernel_rfl) rfl ?_
  refine DK.mux 31 (((!(rule_Before a b)) || (!(rule_Before b c))) || (rule_Before a c)) (j := 26) (h' := [.box 34 (Rule.ch a), .box 34 (Rule.ch b), .box 34 (Rule.ch c)]) (by kernel_rfl) (fun z => [(44, .sc (.bool (z && (((!(rule_Before a b)) && (!(rule_Before b a))) == (rule_Key a b)))))]) ?J4 (fun hb J => ?ht4) (fun hb J => ?hf4)
  case ht4 =>
    refine DK.seg hG 3 [3, 4, 31, 34] (t' := [(3, .ptr 0 0 none), (4, .ptr 1 0 none), (31, .sc (.bool true)), (34, .sc (.bool (!(rule_Before a b))))]) (h' := [.box 34 (Rule.ch a), .box 34 (Rule.ch b), .box 34 (Rule.ch c)]) (by kernel_rfl) rfl ?_
    refine DK.mux 34 (!(rule_Before a b)) (j := 21) (h' := [.box 34 (Rule.ch a), .box 34 (Rule.ch b), .box 34 (Rule.ch c)]) (by kernel_rfl) (fun z => [(3, .ptr 0 0 none), (4, .ptr 1 0 none), (31, .sc (.bool true)), (39, .sc (.bool (z && (!(rule_Before b a)))))]) ?J5 (fun hb J => ?ht5) (fun hb J => ?hf5)
    case ht5 =>
      refine DK.seg hG 2 [3, 4, 31, 34, 35, 36] (t' := [(3, .ptr 0 0 none), (4, .ptr 1 0 none), (31, .sc (.bool true)), (34, .sc (.bool true)), (35, Rule.av b), (36, Rule.av a)]) (h' := [.box 34 (Rule.ch a), .box 34 (Rule.ch b), .box 34 (Rule.ch c)]) (by kernel_rfl) rfl ?_
      refine DK.op' [3, 4, 31, 34, 37] (t' := [(3, .ptr 0 0 none), (4, .ptr 1 0 none), (31, .sc (.bool true)), (34, .sc (.bool true)), (37, .sc (.bool (rule_Before b a)))]) (h' := [.box 34 (Rule.ch a), .box 34 (Rule.ch b), .box 34 (Rule.ch c)]) (LSpec.callP' (rule_Before_calls b a) (by kernel_rfl)) (by kernel_rfl) rfl (by kernel_rfl) rfl ?_
      exact DK.seg hG 2 [3, 4, 31, 39] (by kernel_rfl) rfl J
    case hf5 =>
      exact DK.seg hG 5 [3, 4, 31, 39] (by kernel_rfl) rfl J
    refine DK.seg hG 2 [31, 39, 40, 41] (t' := [(31, .sc (.bool true)), (39, .sc (.bool ((!(rule_Before a b)) && (!(rule_Before b a))))), (40, Rule.av a), (41, Rule.av b)]) (h' := [.box 34 (Rule.ch a), .box 34 (Rule.ch b), .box 34 (Rule.ch c)]) (by kernel_rfl) rfl ?_
    refine DK.op' [31, 39, 42] (t' := [(31, .sc (.bool true)), (39, .sc (.bool ((!(rule_Before a b)) && (!(rule_Before b a))))), (42, .sc (.bool (rule_Key a b)))]) (h' := [.box 34 (Rule.ch a), .box 34 (Rule.ch b), .box 34 (Rule.ch c)]) (LSpec.callP' (rule_Key_calls a b) (by kernel_rfl)) (by kernel_rfl) rfl (by kernel_rfl) rfl ?_
    exact DK.seg hG 2 [44] (by kernel_rfl) rfl J
  case hf4 =>
    exact DK.seg hG 13 [44] (by kernel_rfl) rfl J
  refine DK.seg hG 1 [6] (t' := [(6, .sc (.bool ((((!(rule_Before a b)) || (!(rule_Before b c))) || (rule_Before a c)) && (((!(rule_Before a b)) && (!(rule_Before b a))) == (rule_Key a b)))))]) (h' := [.box 34 (Rule.ch a), .box 34 (Rule.ch b), .box 34 (Rule.ch c)]) (by kernel_rfl) rfl ?_
  refine DK.done (by kernel_rfl) (by kernel_rfl) ?_
  subst H
  exact AR.ret0 (fn := Try.f4) hG Try.func4 (by kernel_rfl) hc0 (r0 := .sc (.bool ((((!(rule_Before a b)) || (!(rule_Before b c))) || (rule_Before a c)) && (((!(rule_Before a b)) && (!(rule_Before b a))) == (rule_Key a b))))) (by kernel_rfl) (WkV.refl _)
theorem podestalaw05_RuleOrder_calls (a : Rule) (b : Rule) (c : Rule) : ACalls Try.prog tab.S 4 [Rule.av a, Rule.av b, Rule.av c] [] (.sc (.bool (podestalaw05_RuleOrder a b c))) [] := podestalaw05_RuleOrder_walk a b c _ rfl

/-! ### A comparison that orders -/
structure Good {α : Type} (c : α → α → Int) : Prop where
  eq : ∀ a b, c a b = 0 ↔ a = b
  anti : ∀ a b, 0 < c b a ↔ c a b < 0
  trans : ∀ a b d, c a b < 0 → c b d < 0 → c a d < 0
theorem good_u64 : Good cmp_Compare_uint64 := by
  have e : ∀ x y, cmp_Compare_uint64 x y = if x < y then -1 else if x > y then 1 else 0 := by
    intro x y
    have h : ∀ z, cmp_isNaN_uint64 z = false := fun z => by simp [cmp_isNaN_uint64]
    rw [cmp_Compare_uint64, h, h]
    by_cases h1 : x < y
    · simp [h1]
    · by_cases h2 : x > y
      · simp [h1, h2]
      · simp [h1, h2]
  refine ⟨fun a b => ?_, fun a b => ?_, fun a b d => ?_⟩
  · rw [e]; split
    · constructor <;> intro <;> omega
    · split <;> constructor <;> intro <;> omega
  · rw [e, e]
    (repeat' split) <;> constructor <;> intro <;> omega
  · rw [e, e, e]
    (repeat' split) <;> intro <;> intro <;> omega
theorem cmpL_cons {α : Type} (c : α → α → Int) (x y : α) (l r : List α) : cmpL c (x :: l) (y :: r) = if c x y = 0 then cmpL c l r else c x y := by
  rw [cmpL]
  by_cases h : c x y = 0
  · rw [if_pos h, h]; rfl
  · have : (c x y != 0) = true := by simp [h]
    rw [if_neg h, this]; rfl
theorem good_list {α : Type} {c : α → α → Int} (g : Good c) : Good (cmpL c) := by
  have eq : ∀ a b, cmpL c a b = 0 ↔ a = b := by
    intro a
    induction a with
    | nil => intro b; cases b <;> simp [cmpL]
    | cons x l ih =>
      intro b
      cases b with
      | nil => simp [cmpL]
      | cons y r =>
        rw [cmpL_cons, List.cons.injEq, ← g.eq x y, ← ih r]
        split
        · rename_i h; simp [h]
        · rename_i h; simp [h]
  have anti : ∀ a b, 0 < cmpL c b a ↔ cmpL c a b < 0 := by
    intro a
    induction a with
    | nil => intro b; cases b <;> simp [cmpL]
    | cons x l ih =>
      intro b
      cases b with
      | nil => simp [cmpL]
      | cons y r =>
        rw [cmpL_cons, cmpL_cons]
        have h1 := g.anti x y
        have h2 := g.anti y x
        have h3 := ih r
        by_cases h : c x y = 0
        · have h' : c y x = 0 := by omega
          rw [if_pos h, if_pos h']; exact h3
        · have h' : c y x ≠ 0 := by omega
          rw [if_neg h, if_neg h']; exact h1
  refine ⟨eq, anti, ?_⟩
  intro a
  induction a with
  | nil =>
    intro b d h1 h2
    cases d with
    | nil =>
      cases b with
      | nil => simp [cmpL] at h1
      | cons y r => simp [cmpL] at h2
    | cons z s => simp [cmpL]
  | cons x l ih =>
    intro b d h1 h2
    cases b with
    | nil => simp [cmpL] at h1
    | cons y r =>
      cases d with
      | nil => simp [cmpL] at h2
      | cons z s =>
        rw [cmpL_cons] at h1 h2 ⊢
        by_cases e1 : c x y = 0
        · rw [if_pos e1] at h1
          have hxy := (g.eq x y).1 e1
          subst hxy
          by_cases e2 : c x z = 0
          · rw [if_pos e2] at h2 ⊢
            exact ih r s h1 h2
          · rw [if_neg e2] at h2 ⊢
            exact h2
        · rw [if_neg e1] at h1
          by_cases e2 : c y z = 0
          · have hyz := (g.eq y z).1 e2
            subst hyz
            rw [if_neg e1]; exact h1
          · rw [if_neg e2] at h2
            have h3 := g.trans x y z h1 h2
            rw [if_neg (by omega)]; exact h3
theorem good_pair {α β : Type} {c : α → α → Int} {d : β → β → Int} (g : Good c) (k : Good d) : Good (fun (a b : α × β) => if c a.1 b.1 = 0 then d a.2 b.2 else c a.1 b.1) := by
  refine ⟨fun a b => ?_, fun a b => ?_, fun a b e h1 h2 => ?_⟩
  · obtain ⟨a1, a2⟩ := a
    obtain ⟨b1, b2⟩ := b
    rw [Prod.mk.injEq, ← g.eq a1 b1, ← k.eq a2 b2]
    split
    · rename_i h; simp [h]
    · rename_i h; simp [h]
  · have h1 := g.anti a.1 b.1
    have h2 := g.anti b.1 a.1
    have h3 := k.anti a.2 b.2
    by_cases h : c a.1 b.1 = 0
    · rw [if_pos h, if_pos (by omega)]; exact h3
    · rw [if_neg h, if_neg (by omega)]; exact h1
  · by_cases e1 : c a.1 b.1 = 0
    · rw [if_pos e1] at h1
      rw [(g.eq _ _).1 e1]
      by_cases e2 : c b.1 e.1 = 0
      · rw [if_pos e2] at h2 ⊢; exact k.trans _ _ _ h1 h2
      · rw [if_neg e2] at h2 ⊢; exact h2
    · rw [if_neg e1] at h1
      by_cases e2 : c b.1 e.1 = 0
      · rw [← (g.eq _ _).1 e2, if_neg e1]; exact h1
      · rw [if_neg e2] at h2
        have h3 := g.trans _ _ _ h1 h2
        rw [if_neg (by omega)]; exact h3
def downI (a b : Int) : Int := if a = b then 0 else if a > b then -1 else 1
theorem good_down : Good downI := by
  refine ⟨fun a b => ?_, fun a b => ?_, fun a b d => ?_⟩ <;> unfold downI <;> (repeat' split) <;> first | (constructor <;> intro <;> omega) | (intro _ _; omega)
def keyC (a b : Int × List Int × List Int) : Int := if downI a.1 b.1 = 0 then (if cmpL cmp_Compare_uint64 a.2.1 b.2.1 = 0 then cmpL cmp_Compare_uint64 a.2.2 b.2.2 else cmpL cmp_Compare_uint64 a.2.1 b.2.1) else downI a.1 b.1
theorem good_key : Good keyC := good_pair good_down (good_pair (good_list good_u64) (good_list good_u64))
def Rule.key (r : Rule) : Int × List Int × List Int := (r.Prio, r.Match.Care, r.Match.Value)
theorem head_Compare_eq (a b : List Int) : head_Compare a b = cmpL cmp_Compare_uint64 a b := rfl
theorem cmp_Or_two (a b : Int) : cmp_Or_int [a, b] = if a = 0 then b else a := by
  rw [cmp_Or_int, cmp_Or_int_l0s, cmp_Or_int_l0s, cmp_Or_int_l0s]
  by_cases h : a = 0
  · subst h
    by_cases k : b = 0
    · subst k; rfl
    · have : (b != 0) = true := by simp [k]
      rw [if_pos rfl, this]; rfl
  · have : (a != 0) = true := by simp [h]
    rw [if_neg h, this]; rfl
theorem compare_key (a b : Rule) : rule_compare a b = keyC a.key b.key := by
  rw [rule_compare, cube_Compare, cmp_Or_two, head_Compare_eq, head_Compare_eq]
  unfold keyC Rule.key downI
  by_cases h : a.Prio = b.Prio
  · simp [h]
  · by_cases k : a.Prio > b.Prio
    · have k' : b.Prio < a.Prio := k
      have hb : (a.Prio != b.Prio) = true := by simp [h]
      rw [hb]; simp [h, k']
    · have k' : ¬ b.Prio < a.Prio := k
      have hb : (a.Prio != b.Prio) = true := by simp [h]
      rw [hb]; simp [h, k']
theorem Key_key (a b : Rule) : rule_Key a b = decide (a.key = b.key) := by
  rw [rule_Key]
  unfold Rule.key
  rw [Bool.eq_iff_iff]
  simp only [Bool.and_eq_true, beq_iff_eq, decide_eq_true_eq, Prod.mk.injEq]
  constructor
  · rintro ⟨⟨h1, h2⟩, h3⟩; exact ⟨h3, h2, h1⟩
  · rintro ⟨h1, h2, h3⟩; exact ⟨⟨h3, h2⟩, h1⟩
theorem Before_key (a b : Rule) : rule_Before a b = decide (keyC a.key b.key < 0) := by rw [rule_Before, compare_key]

theorem RuleOrder_true (a b c : Rule) (_ : Rule.wf a) (_ : Rule.wf b) (_ : Rule.wf c) : podestalaw05_RuleOrder a b c = true := by
  rw [podestalaw05_RuleOrder, Before_key, Before_key, Before_key, Before_key, Key_key]
  have g := good_key
  have t := g.trans a.key b.key c.key
  have e := g.eq a.key b.key
  have n := g.anti a.key b.key
  have n' := g.anti b.key a.key
  rw [Bool.and_eq_true]
  refine ⟨?_, ?_⟩
  · by_cases h1 : keyC a.key b.key < 0
    · by_cases h2 : keyC b.key c.key < 0
      · simp [h1, h2, t h1 h2]
      · simp [h2]
    · simp [h1]
  · rw [beq_iff_eq, Bool.eq_iff_iff]
    simp only [Bool.and_eq_true, Bool.not_eq_true', decide_eq_false_iff_not, decide_eq_true_eq]
    rw [← e]
    omega

end Go.Proofs.Ytadolbhmdimbkaa

set_option linter.unusedVariables false
set_option linter.unusedSimpArgs false
set_option maxRecDepth 100000
set_option maxHeartbeats 4000000
namespace Go.Proofs.Ytadolbhmdimbkaa
open Go.Sh
theorem Act.beq_eq (x y : Act) : ((x.Kind == y.Kind) && ((x.Port == y.Port) && ((x.Field == y.Field) && (x.Value == y.Value)))) = (x == y) := by
  rw [Bool.eq_iff_iff]
  simp only [Bool.and_eq_true, beq_iff_eq]
  cases x; cases y
  simp

theorem zipAll_ne {α β : Type} (f : α → β → Bool) {a : List α} {b : List β} (h : ¬ a.length = b.length) : zipAll f a b = false := by
  rw [Bool.eq_false_iff]
  exact fun q => h (zipAll_len q)

/-! ### slices.Equal: function 74 -/
noncomputable def slices_Equal__api_Act_F : Go.Sh.Fn := ⟨74, bodyOf Try.f74, 26⟩
def slices_Equal__api_Act_k0 : List Kd := [.pure, .pure, .pure, .pure, .pure, .pure, .pure, .pure, .pure]
def slices_Equal__api_Act_l0s (s2 : List Act) : List Act → Nat → Option (Sum (Unit) (Bool))
  | [], t13 =>
    some (.inl ())
  | x :: rest, t13 =>
    (ixO s2 ((t13 : Nat) : Int)).bind fun x1 =>
    (bif (!((x.Kind == x1.Kind) && ((x.Port == x1.Port) && ((x.Field == x1.Field) && (x.Value == x1.Value))))) then
      some (.inr false)
    else
      slices_Equal__api_Act_l0s s2 rest (t13 + 1) )
theorem slices_Equal__api_Act_l0_walk (s1 : List Act) (s2 : List Act) (f_s1 : Bool) (f_s2 : Bool) (r : Bool) (c0 : Ctx) (hc0 : c0.m.length = 0) (res : Sum (Unit) (Bool)) (J : ∀ w : Unit, res = .inl w → AR Try.prog tab slices_Equal__api_Act_F c0 (Rp tab.S c0 (.sc (.bool r)) []) [.code [1, 1, 1]] [] []) (Jr : ∀ w, res = .inr w → w = r) :
    ∀ (rest : List Act) (t13 : Nat) (hd : s1.drop t13 = rest) (H : slices_Equal__api_Act_l0s s2 rest t13 = some res), AR Try.prog tab slices_Equal__api_Act_F c0 (Rp tab.S c0 (.sc (.bool r)) []) [.code [1, 1, 0, 1, 0, 0], .loop [1, 1, 0, 1, 0], .blk 0, .code [1, 1, 1]] [(0, .sl 42 (List.map Act.av s1) f_s1), (1, .sl 42 (List.map Act.av s2) f_s2), (12, .sc (.int .i64 (((List.map Act.av s1).length : Nat) : Int))), (13, .sc (.int .i64 ((t13 : Nat) : Int)))] [] := by
  have hG := tab_ok
  have hm := mixed
  intro rest
  induction rest with
  | nil =>
    intro t13 hd  H
    rw [slices_Equal__api_Act_l0s] at H
    refine AR.facts 0 rfl fun hf => ?_
    have hlen : s1.length ≤ 9223372036854775807 := by have hq := len_ok hf.2.1; rw [List.length_map] at hq; exact hq
    have hge : s1.length ≤ t13 := List.drop_eq_nil_iff.1 hd
    have hc : (decide (((t13 : Nat) : Int) < (((List.map Act.av s1).length : Nat) : Int))) = false := by rw [List.length_map]; exact decide_eq_false (by omega)
    refine AR.seg hG hm 3 [0, 1, 12, 13, 14] (k' := [.code [1, 1, 0, 1, 0, 0, 1, 0], .code [1, 1, 0, 1, 0, 0, 1, 1], .loop [1, 1, 0, 1, 0], .blk 0, .code [1, 1, 1]]) (t' := [(0, .sl 42 (List.map Act.av s1) f_s1), (1, .sl 42 (List.map Act.av s2) f_s2), (12, .sc (.int .i64 (((List.map Act.av s1).length : Nat) : Int))), (13, .sc (.int .i64 ((t13 : Nat) : Int))), (14, .sc (.bool (decide (((t13 : Nat) : Int) < (((List.map Act.av s1).length : Nat) : Int)))))]) (h' := []) (by kernel_rfl) ?_
    refine AR.cond (.tmp 14) (decide (((t13 : Nat) : Int) < (((List.map Act.av s1).length : Nat) : Int))) (by kernel_rfl) (by kernel_rfl) (fun hb => ?ht8) (fun hb => ?hf8)
    case ht8 => exact absurd (hb.symm.trans hc) (by decide)
    case hf8 =>
      refine AR.seg hG hm 1 [] (k' := [.code [1, 1, 1]]) (t' := []) (h' := []) (by kernel_rfl) ?_
      refine AR.keep [] (t' := []) (by kernel_rfl) ?_
      exact J () (Option.some.inj H).symm
  | cons x rest ih =>
    intro t13 hd  H
    rw [slices_Equal__api_Act_l0s] at H
    refine AR.facts 0 rfl fun hf => ?_
    have hlen : s1.length ≤ 9223372036854775807 := by have hq := len_ok hf.2.1; rw [List.length_map] at hq; exact hq
    obtain ⟨hlt, hv_t13, hd2⟩ := drop_cons hd
    have hc : (decide (((t13 : Nat) : Int) < (((List.map Act.av s1).length : Nat) : Int))) = true := by rw [List.length_map]; exact decide_eq_true (by omega)
    have hw : IntKind.i64.wrap (((t13 : Nat) : Int) + 1) = ((t13 + 1 : Nat) : Int) := wrapI_succ (by omega)
    refine AR.seg hG hm 3 [0, 1, 12, 13, 14] (k' := [.code [1, 1, 0, 1, 0, 0, 1, 0], .code [1, 1, 0, 1, 0, 0, 1, 1], .loop [1, 1, 0, 1, 0], .blk 0, .code [1, 1, 1]]) (t' := [(0, .sl 42 (List.map Act.av s1) f_s1), (1, .sl 42 (List.map Act.av s2) f_s2), (12, .sc (.int .i64 (((List.map Act.av s1).length : Nat) : Int))), (13, .sc (.int .i64 ((t13 : Nat) : Int))), (14, .sc (.bool (decide (((t13 : Nat) : Int) < (((List.map Act.av s1).length : Nat) : Int)))))]) (h' := []) (by kernel_rfl) ?_
    refine AR.cond (.tmp 14) (decide (((t13 : Nat) : Int) < (((List.map Act.av s1).length : Nat) : Int))) (by kernel_rfl) (by kernel_rfl) (fun hb => ?ht9) (fun hb => ?hf9)
    case ht9 =>
      refine AR.seg hG hm 6 [0, 1, 5, 12, 13] (k' := [.code [1, 1, 0, 1, 0, 0, 1, 1, 0, 0, 1, 0], .code [1, 1, 0, 1, 0, 0, 1, 1, 0, 0, 1, 1], .blk 1, .code [1, 1, 0, 1, 0, 0, 1, 1, 1], .loop [1, 1, 0, 1, 0], .blk 0, .code [1, 1, 1]]) (t' := [(0, .sl 42 (List.map Act.av s1) f_s1), (1, .sl 42 (List.map Act.av s2) f_s2), (5, .sc (.int .i64 ((t13 : Nat) : Int))), (12, .sc (.int .i64 (((List.map Act.av s1).length : Nat) : Int))), (13, .sc (.int .i64 ((t13 : Nat) : Int)))]) (h' := []) (by kernel_rfl) ?_
      refine AR.reg hm slices_Equal__api_Act_k0 (by kernel_rfl) ?_
      refine DK.seg hG 2 [0, 1, 5, 12, 13, 16, 17] (t' := [(0, .sl 42 (List.map Act.av s1) f_s1), (1, .sl 42 (List.map Act.av s2) f_s2), (5, .sc (.int .i64 ((t13 : Nat) : Int))), (12, .sc (.int .i64 (((List.map Act.av s1).length : Nat) : Int))), (13, .sc (.int .i64 ((t13 : Nat) : Int))), (16, .sl 42 (List.map Act.av s1) f_s1), (17, .sc (.int .i64 ((t13 : Nat) : Int)))]) (h' := []) (by kernel_rfl) rfl ?_
      refine DK.op' [0, 1, 5, 12, 13, 18] (t' := [(0, .sl 42 (List.map Act.av s1) f_s1), (1, .sl 42 (List.map Act.av s2) f_s2), (5, .sc (.int .i64 ((t13 : Nat) : Int))), (12, .sc (.int .i64 (((List.map Act.av s1).length : Nat) : Int))), (13, .sc (.int .i64 ((t13 : Nat) : Int))), (18, .ep [.sc (.int .i64 x.Kind), .sc (.int .i64 x.Port), .sc (.int .i64 x.Field), .sc (.int .u64 x.Value)] 0 none)]) (h' := []) (LSpec.index' (r := Act.av x) (fs := [.sc (.int .i64 x.Kind), .sc (.int .i64 x.Port), .sc (.int .i64 x.Field), .sc (.int .u64 x.Value)]) hG (rows := List.map Act.av s1) (j := ((t13 : Nat) : Int)) (by kernel_rfl) (ixO_map hv_t13 _) (by kernel_rfl)) (by kernel_rfl) rfl (by kernel_rfl) rfl ?_
      refine DK.seg hG 3 [0, 1, 12, 13, 19, 20, 21] (t' := [(0, .sl 42 (List.map Act.av s1) f_s1), (1, .sl 42 (List.map Act.av s2) f_s2), (12, .sc (.int .i64 (((List.map Act.av s1).length : Nat) : Int))), (13, .sc (.int .i64 ((t13 : Nat) : Int))), (19, Act.av x), (20, .sl 42 (List.map Act.av s2) f_s2), (21, .sc (.int .i64 ((t13 : Nat) : Int)))]) (h' := []) (by kernel_rfl) rfl ?_
      obtain ⟨x1, hv, H⟩ := Option.bind_eq_some_iff.1 H
      refine DK.op' [0, 1, 12, 13, 19, 22] (t' := [(0, .sl 42 (List.map Act.av s1) f_s1), (1, .sl 42 (List.map Act.av s2) f_s2), (12, .sc (.int .i64 (((List.map Act.av s1).length : Nat) : Int))), (13, .sc (.int .i64 ((t13 : Nat) : Int))), (19, Act.av x), (22, .ep [.sc (.int .i64 x1.Kind), .sc (.int .i64 x1.Port), .sc (.int .i64 x1.Field), .sc (.int .u64 x1.Value)] 0 none)]) (h' := []) (LSpec.index' (r := Act.av x1) (fs := [.sc (.int .i64 x1.Kind), .sc (.int .i64 x1.Port), .sc (.int .i64 x1.Field), .sc (.int .u64 x1.Value)]) hG (rows := List.map Act.av s2) (j := ((t13 : Nat) : Int)) (by kernel_rfl) (ixO_map hv _) (by kernel_rfl)) (by kernel_rfl) rfl (by kernel_rfl) rfl ?_
      refine DK.seg hG 1 [0, 1, 12, 13, 19, 23] (t' := [(0, .sl 42 (List.map Act.av s1) f_s1), (1, .sl 42 (List.map Act.av s2) f_s2), (12, .sc (.int .i64 (((List.map Act.av s1).length : Nat) : Int))), (13, .sc (.int .i64 ((t13 : Nat) : Int))), (19, Act.av x), (23, Act.av x1)]) (h' := []) (by kernel_rfl) rfl ?_
      refine DK.op' [0, 1, 12, 13, 24] (t' := [(0, .sl 42 (List.map Act.av s1) f_s1), (1, .sl 42 (List.map Act.av s2) f_s2), (12, .sc (.int .i64 (((List.map Act.av s1).length : Nat) : Int))), (13, .sc (.int .i64 ((t13 : Nat) : Int))), (24, .sc (.bool (!((x.Kind == x1.Kind) && ((x.Port == x1.Port) && ((x.Field == x1.Field) && (x.Value == x1.Value)))))))]) (h' := []) (LSpec.eq' 9 (r := (!((x.Kind == x1.Kind) && ((x.Port == x1.Port) && ((x.Field == x1.Field) && (x.Value == x1.Value)))))) (by kernel_rfl)) (by kernel_rfl) rfl (by kernel_rfl) rfl ?_
      refine DK.done (by kernel_rfl) (by kernel_rfl) ?_
      refine AR.cond (.tmp 24) (!((x.Kind == x1.Kind) && ((x.Port == x1.Port) && ((x.Field == x1.Field) && (x.Value == x1.Value))))) (by kernel_rfl) (by kernel_rfl) (fun hb => ?ht10) (fun hb => ?hf10)
      case ht10 =>
        replace H := cond_t hb H
        refine AR.seg hG hm 2 [4] (k' := [.code [1, 1, 0, 1, 0, 0, 1, 1, 0, 0, 1, 1, 0, 1], .blk 1, .code [1, 1, 0, 1, 0, 0, 1, 1, 1], .loop [1, 1, 0, 1, 0], .blk 0, .code [1, 1, 1]]) (t' := [(4, .sc (.bool false))]) (h' := []) (by kernel_rfl) ?_
        obtain rfl := Option.some.inj H
        obtain rfl := Jr _ rfl
        exact AR.ret0 (fn := Try.f74) hG Try.func74 (by kernel_rfl) hc0 (r0 := .sc (.bool false)) (by kernel_rfl) (WkV.refl _)
      case hf10 =>
        replace H := cond_f hb H
        refine AR.seg hG hm 3 [0, 1, 12, 13] (k' := [.loop [1, 1, 0, 1, 0], .blk 0, .code [1, 1, 1]]) (t' := [(0, .sl 42 (List.map Act.av s1) f_s1), (1, .sl 42 (List.map Act.av s2) f_s2), (12, .sc (.int .i64 (((List.map Act.av s1).length : Nat) : Int))), (13, .sc (.int .i64 (IntKind.i64.wrap (((t13 : Nat) : Int) + 1))))]) (h' := []) (by kernel_rfl) ?_
        refine AR.keep [0, 1, 12, 13] (t' := [(0, .sl 42 (List.map Act.av s1) f_s1), (1, .sl 42 (List.map Act.av s2) f_s2), (12, .sc (.int .i64 (((List.map Act.av s1).length : Nat) : Int))), (13, .sc (.int .i64 (IntKind.i64.wrap (((t13 : Nat) : Int) + 1))))]) (by kernel_rfl) ?_
        refine AR.loop_round ?_
        rw [hw]
        exact ih (t13 + 1) hd2 H
    case hf9 => exact absurd (hc.symm.trans hb) (by decide)

def slices_Equal__api_Act_raw (s1 : List Act) (s2 : List Act) : Option (Bool) :=
  (bif ((((List.map Act.av s1).length : Nat) : Int) != (((List.map Act.av s2).length : Nat) : Int)) then
    some false
  else
    loopO (slices_Equal__api_Act_l0s s2 s1 0) fun v =>
    some true)
theorem slices_Equal__api_Act_walk (s1 : List Act) (s2 : List Act) (f_s1 : Bool) (f_s2 : Bool) (r : Bool) (H : slices_Equal__api_Act_raw s1 s2 = some r) :
    ACalls Try.prog tab.S 74 [.sl 42 (List.map Act.av s1) f_s1, .sl 42 (List.map Act.av s2) f_s2] [] (.sc (.bool r)) [] := by
  have hG := tab_ok
  have hm := mixed
  refine ACalls.of_AR (G := tab) slices_Equal__api_Act_F (fn := Try.f74) Try.func74 (by kernel_rfl) (by kernel_rfl) (by kernel_rfl) (Nat.le_of_ble_eq_true (by kernel_rfl)) ?_
  intro c0 hc0
  replace hc0 : c0.m.length = 0 := hc0
  rw [slices_Equal__api_Act_raw] at H
  refine AR.seg hG hm 5 [0, 1, 10] (k' := [.code [1, 0, 1], .code [1, 1]]) (t' := [(0, .sl 42 (List.map Act.av s1) f_s1), (1, .sl 42 (List.map Act.av s2) f_s2), (10, .sc (.bool ((((List.map Act.av s1).length : Nat) : Int) != (((List.map Act.av s2).length : Nat) : Int))))]) (h' := []) (by kernel_rfl) ?_
  refine AR.cond (.tmp 10) ((((List.map Act.av s1).length : Nat) : Int) != (((List.map Act.av s2).length : Nat) : Int)) (by kernel_rfl) (by kernel_rfl) (fun hb => ?ht1) (fun hb => ?hf1)
  case ht1 =>
    replace H := cond_t hb H
    refine AR.seg hG hm 2 [4] (k' := [.code [1, 0, 1, 0, 1], .code [1, 1]]) (t' := [(4, .sc (.bool false))]) (h' := []) (by kernel_rfl) ?_
    obtain rfl := Option.some.inj H
    exact AR.ret0 (fn := Try.f74) hG Try.func74 (by kernel_rfl) hc0 (r0 := .sc (.bool false)) (by kernel_rfl) (WkV.refl _)
  case hf1 =>
    replace H := cond_f hb H
    refine AR.seg hG hm 5 [0, 1, 12, 13] (k' := [.code [1, 1, 0, 1, 0], .blk 0, .code [1, 1, 1]]) (t' := [(0, .sl 42 (List.map Act.av s1) f_s1), (1, .sl 42 (List.map Act.av s2) f_s2), (12, .sc (.int .i64 (((List.map Act.av s1).length : Nat) : Int))), (13, .sc (.int .i64 0))]) (h' := []) (by kernel_rfl) ?_
    rcases loopO_some H with ⟨v, hv, H⟩ | hv
    case inr =>
      refine AR.into (by kernel_rfl) ?_
      exact slices_Equal__api_Act_l0_walk s1 s2 f_s1 f_s2 _ c0 hc0 (.inr _) (fun _ e => by cases e) (fun _ e => (Sum.inr.inj e).symm) s1 0 rfl hv
    refine AR.into (by kernel_rfl) ?_
    refine slices_Equal__api_Act_l0_walk s1 s2 f_s1 f_s2 r c0 hc0 (.inl v) (fun w e => ?_) (fun _ e => by cases e) s1 0 rfl hv
    have e := Sum.inl.inj e
    subst e
    refine AR.seg hG hm 2 [4] (k' := [.code [1, 1, 1, 1]]) (t' := [(4, .sc (.bool true))]) (h' := []) (by kernel_rfl) ?_
    obtain rfl := Option.some.inj H
    exact AR.ret0 (fn := Try.f74) hG Try.func74 (by kernel_rfl) hc0 (r0 := .sc (.bool true)) (by kernel_rfl) (WkV.refl _)

theorem slices_Equal__api_Act_ok (a b : List Act) (f_a f_b : Bool) : ACalls Try.prog tab.S 74 [.sl 42 (List.map Act.av a) f_a, .sl 42 (List.map Act.av b) f_b] [] (.sc (.bool (a == b))) [] := by
  refine slices_Equal__api_Act_walk a b f_a f_b _ ?_
  rw [slices_Equal__api_Act_raw, len_bne]
  by_cases h : a.length = b.length
  · simp only [h, decide_true, Bool.not_true, cond_false]
    rw [cmp_loop (v := false) (slices_Equal__api_Act_l0s b) b (fun x y => x == y) (fun _ => rfl) (fun x r i => by rw [slices_Equal__api_Act_l0s]; simp only [Act.beq_eq]) a 0 (by omega), List.drop_zero, zipAll_beq]
    cases a == b <;> rfl
  · have e : (a == b) = false := by
      rw [beq_eq_false_iff_ne]
      intro e
      exact h (by rw [e])
    rw [e]
    simp only [h, decide_false, Bool.not_false, cond_true]

/-! ### act.Same: function 63 -/
noncomputable def act_Same_F : Go.Sh.Fn := ⟨63, bodyOf Try.f63, 8⟩
def act_Same_k0 : List Kd := [.pure, .pure, .pure, .pure]
def act_Same (a : List Act) (b : List Act) : Bool :=
  (a == b)
theorem act_Same_walk (a : List Act) (b : List Act) (f_a : Bool) (f_b : Bool) (r : Bool) (H : act_Same a b = r) :
    ACalls Try.prog tab.S 63 [.sl 42 (List.map Act.av a) f_a, .sl 42 (List.map Act.av b) f_b] [] (.sc (.bool r)) [] := by
  have hG := tab_ok
  have hm := mixed
  refine ACalls.of_AR (G := tab) act_Same_F (fn := Try.f63) Try.func63 (by kernel_rfl) (by kernel_rfl) (by kernel_rfl) (Nat.le_of_ble_eq_true (by kernel_rfl)) ?_
  intro c0 hc0
  replace hc0 : c0.m.length = 0 := hc0
  rw [act_Same] at H
  refine AR.seg hG hm 3 [0, 1] (k' := [.code [1, 0], .code [1, 1]]) (t' := [(0, .sl 42 (List.map Act.av a) f_a), (1, .sl 42 (List.map Act.av b) f_b)]) (h' := []) (by kernel_rfl) ?_
  refine AR.reg hm act_Same_k0 (by kernel_rfl) ?_
  refine DK.seg hG 2 [5, 6] (t' := [(5, .sl 42 (List.map Act.av a) f_a), (6, .sl 42 (List.map Act.av b) f_b)]) (h' := []) (by kernel_rfl) rfl ?_
  refine DK.op' [7] (t' := [(7, .sc (.bool (a == b)))]) (h' := []) (LSpec.callP' (slices_Equal__api_Act_ok a b f_a f_b) (by kernel_rfl)) (by kernel_rfl) rfl (by kernel_rfl) rfl ?_
  refine DK.seg hG 1 [4] (t' := [(4, .sc (.bool (a == b)))]) (h' := []) (by kernel_rfl) rfl ?_
  refine DK.done (by kernel_rfl) (by kernel_rfl) ?_
  subst H
  exact AR.ret0 (fn := Try.f63) hG Try.func63 (by kernel_rfl) hc0 (r0 := .sc (.bool (a == b))) (by kernel_rfl) (WkV.refl _)
theorem act_Same_calls (a : List Act) (b : List Act) (f_a : Bool) (f_b : Bool) : ACalls Try.prog tab.S 63 [.sl 42 (List.map Act.av a) f_a, .sl 42 (List.map Act.av b) f_b] [] (.sc (.bool (act_Same a b))) [] := act_Same_walk a b f_a f_b _ rfl

/-! ### podestaref04.SameActs: function 64 -/
noncomputable def podestaref04_SameActs_F : Go.Sh.Fn := ⟨64, bodyOf Try.f64, 26⟩
def podestaref04_SameActs_k0 : List Kd := [.pure, .pure, .pure, .pure, .pure, .pure, .pure, .pure, .pure]
def podestaref04_SameActs_l0s (b : List Act) : List Act → Nat → Option (Sum (Unit) (Bool))
  | [], i =>
    some (.inl ())
  | x :: rest, i =>
    (ixO b ((i : Nat) : Int)).bind fun x1 =>
    (bif (!((x.Kind == x1.Kind) && ((x.Port == x1.Port) && ((x.Field == x1.Field) && (x.Value == x1.Value))))) then
      some (.inr false)
    else
      podestaref04_SameActs_l0s b rest (i + 1) )
theorem podestaref04_SameActs_l0_walk (a : List Act) (b : List Act) (f_a : Bool) (f_b : Bool) (r : Bool) (c0 : Ctx) (hc0 : c0.m.length = 0) (res : Sum (Unit) (Bool)) (J : ∀ w : Unit, res = .inl w → AR Try.prog tab podestaref04_SameActs_F c0 (Rp tab.S c0 (.sc (.bool r)) []) [.code [1, 1, 1]] [] []) (Jr : ∀ w, res = .inr w → w = r) :
    ∀ (rest : List Act) (i : Nat) (hd : a.drop i = rest) (H : podestaref04_SameActs_l0s b rest i = some res), AR Try.prog tab podestaref04_SameActs_F c0 (Rp tab.S c0 (.sc (.bool r)) []) [.code [1, 1, 0, 1, 0, 0], .loop [1, 1, 0, 1, 0], .blk 0, .code [1, 1, 1]] [(0, .sl 42 (List.map Act.av a) f_a), (1, .sl 42 (List.map Act.av b) f_b), (5, .sc (.int .i64 ((i : Nat) : Int)))] [] := by
  have hG := tab_ok
  have hm := mixed
  intro rest
  induction rest with
  | nil =>
    intro i hd  H
    rw [podestaref04_SameActs_l0s] at H
    refine AR.facts 0 rfl fun hf => ?_
    have hlen : a.length ≤ 9223372036854775807 := by have hq := len_ok hf.2.1; rw [List.length_map] at hq; exact hq
    have hge : a.length ≤ i := List.drop_eq_nil_iff.1 hd
    have hc : (decide (((i : Nat) : Int) < (((List.map Act.av a).length : Nat) : Int))) = false := by rw [List.length_map]; exact decide_eq_false (by omega)
    refine AR.seg hG hm 3 [0, 1, 5, 14] (k' := [.code [1, 1, 0, 1, 0, 0, 0, 1], .code [1, 1, 0, 1, 0, 0, 1], .loop [1, 1, 0, 1, 0], .blk 0, .code [1, 1, 1]]) (t' := [(0, .sl 42 (List.map Act.av a) f_a), (1, .sl 42 (List.map Act.av b) f_b), (5, .sc (.int .i64 ((i : Nat) : Int))), (14, .sc (.bool (decide (((i : Nat) : Int) < (((List.map Act.av a).length : Nat) : Int)))))]) (h' := []) (by kernel_rfl) ?_
    refine AR.cond (.tmp 14) (decide (((i : Nat) : Int) < (((List.map Act.av a).length : Nat) : Int))) (by kernel_rfl) (by kernel_rfl) (fun hb => ?ht8) (fun hb => ?hf8)
    case ht8 => exact absurd (hb.symm.trans hc) (by decide)
    case hf8 =>
      refine AR.seg hG hm 1 [] (k' := [.code [1, 1, 1]]) (t' := []) (h' := []) (by kernel_rfl) ?_
      refine AR.keep [] (t' := []) (by kernel_rfl) ?_
      exact J () (Option.some.inj H).symm
  | cons x rest ih =>
    intro i hd  H
    rw [podestaref04_SameActs_l0s] at H
    refine AR.facts 0 rfl fun hf => ?_
    have hlen : a.length ≤ 9223372036854775807 := by have hq := len_ok hf.2.1; rw [List.length_map] at hq; exact hq
    obtain ⟨hlt, hv_i, hd2⟩ := drop_cons hd
    have hc : (decide (((i : Nat) : Int) < (((List.map Act.av a).length : Nat) : Int))) = true := by rw [List.length_map]; exact decide_eq_true (by omega)
    have hw : IntKind.i64.wrap (((i : Nat) : Int) + 1) = ((i + 1 : Nat) : Int) := wrapI_succ (by omega)
    refine AR.seg hG hm 3 [0, 1, 5, 14] (k' := [.code [1, 1, 0, 1, 0, 0, 0, 1], .code [1, 1, 0, 1, 0, 0, 1], .loop [1, 1, 0, 1, 0], .blk 0, .code [1, 1, 1]]) (t' := [(0, .sl 42 (List.map Act.av a) f_a), (1, .sl 42 (List.map Act.av b) f_b), (5, .sc (.int .i64 ((i : Nat) : Int))), (14, .sc (.bool (decide (((i : Nat) : Int) < (((List.map Act.av a).length : Nat) : Int)))))]) (h' := []) (by kernel_rfl) ?_
    refine AR.cond (.tmp 14) (decide (((i : Nat) : Int) < (((List.map Act.av a).length : Nat) : Int))) (by kernel_rfl) (by kernel_rfl) (fun hb => ?ht9) (fun hb => ?hf9)
    case ht9 =>
      refine AR.seg hG hm 4 [0, 1, 5] (k' := [.code [1, 1, 0, 1, 0, 0, 1, 0, 0, 0], .code [1, 1, 0, 1, 0, 0, 1, 0, 0, 1], .blk 1, .code [1, 1, 0, 1, 0, 0, 1, 1], .loop [1, 1, 0, 1, 0], .blk 0, .code [1, 1, 1]]) (t' := [(0, .sl 42 (List.map Act.av a) f_a), (1, .sl 42 (List.map Act.av b) f_b), (5, .sc (.int .i64 ((i : Nat) : Int)))]) (h' := []) (by kernel_rfl) ?_
      refine AR.reg hm podestaref04_SameActs_k0 (by kernel_rfl) ?_
      refine DK.seg hG 2 [0, 1, 5, 17, 18] (t' := [(0, .sl 42 (List.map Act.av a) f_a), (1, .sl 42 (List.map Act.av b) f_b), (5, .sc (.int .i64 ((i : Nat) : Int))), (17, .sl 42 (List.map Act.av a) f_a), (18, .sc (.int .i64 ((i : Nat) : Int)))]) (h' := []) (by kernel_rfl) rfl ?_
      refine DK.op' [0, 1, 5, 19] (t' := [(0, .sl 42 (List.map Act.av a) f_a), (1, .sl 42 (List.map Act.av b) f_b), (5, .sc (.int .i64 ((i : Nat) : Int))), (19, .ep [.sc (.int .i64 x.Kind), .sc (.int .i64 x.Port), .sc (.int .i64 x.Field), .sc (.int .u64 x.Value)] 0 none)]) (h' := []) (LSpec.index' (r := Act.av x) (fs := [.sc (.int .i64 x.Kind), .sc (.int .i64 x.Port), .sc (.int .i64 x.Field), .sc (.int .u64 x.Value)]) hG (rows := List.map Act.av a) (j := ((i : Nat) : Int)) (by kernel_rfl) (ixO_map hv_i _) (by kernel_rfl)) (by kernel_rfl) rfl (by kernel_rfl) rfl ?_
      refine DK.seg hG 3 [0, 1, 5, 20, 21, 22] (t' := [(0, .sl 42 (List.map Act.av a) f_a), (1, .sl 42 (List.map Act.av b) f_b), (5, .sc (.int .i64 ((i : Nat) : Int))), (20, Act.av x), (21, .sl 42 (List.map Act.av b) f_b), (22, .sc (.int .i64 ((i : Nat) : Int)))]) (h' := []) (by kernel_rfl) rfl ?_
      obtain ⟨x1, hv, H⟩ := Option.bind_eq_some_iff.1 H
      refine DK.op' [0, 1, 5, 20, 23] (t' := [(0, .sl 42 (List.map Act.av a) f_a), (1, .sl 42 (List.map Act.av b) f_b), (5, .sc (.int .i64 ((i : Nat) : Int))), (20, Act.av x), (23, .ep [.sc (.int .i64 x1.Kind), .sc (.int .i64 x1.Port), .sc (.int .i64 x1.Field), .sc (.int .u64 x1.Value)] 0 none)]) (h' := []) (LSpec.index' (r := Act.av x1) (fs := [.sc (.int .i64 x1.Kind), .sc (.int .i64 x1.Port), .sc (.int .i64 x1.Field), .sc (.int .u64 x1.Value)]) hG (rows := List.map Act.av b) (j := ((i : Nat) : Int)) (by kernel_rfl) (ixO_map hv _) (by kernel_rfl)) (by kernel_rfl) rfl (by kernel_rfl) rfl ?_
      refine DK.seg hG 1 [0, 1, 5, 20, 24] (t' := [(0, .sl 42 (List.map Act.av a) f_a), (1, .sl 42 (List.map Act.av b) f_b), (5, .sc (.int .i64 ((i : Nat) : Int))), (20, Act.av x), (24, Act.av x1)]) (h' := []) (by kernel_rfl) rfl ?_
      refine DK.op' [0, 1, 5, 25] (t' := [(0, .sl 42 (List.map Act.av a) f_a), (1, .sl 42 (List.map Act.av b) f_b), (5, .sc (.int .i64 ((i : Nat) : Int))), (25, .sc (.bool (!((x.Kind == x1.Kind) && ((x.Port == x1.Port) && ((x.Field == x1.Field) && (x.Value == x1.Value)))))))]) (h' := []) (LSpec.eq' 9 (r := (!((x.Kind == x1.Kind) && ((x.Port == x1.Port) && ((x.Field == x1.Field) && (x.Value == x1.Value)))))) (by kernel_rfl)) (by kernel_rfl) rfl (by kernel_rfl) rfl ?_
      refine DK.done (by kernel_rfl) (by kernel_rfl) ?_
      refine AR.cond (.tmp 25) (!((x.Kind == x1.Kind) && ((x.Port == x1.Port) && ((x.Field == x1.Field) && (x.Value == x1.Value))))) (by kernel_rfl) (by kernel_rfl) (fun hb => ?ht10) (fun hb => ?hf10)
      case ht10 =>
        replace H := cond_t hb H
        refine AR.seg hG hm 2 [4] (k' := [.code [1, 1, 0, 1, 0, 0, 1, 0, 0, 1, 0, 1], .blk 1, .code [1, 1, 0, 1, 0, 0, 1, 1], .loop [1, 1, 0, 1, 0], .blk 0, .code [1, 1, 1]]) (t' := [(4, .sc (.bool false))]) (h' := []) (by kernel_rfl) ?_
        obtain rfl := Option.some.inj H
        obtain rfl := Jr _ rfl
        exact AR.ret0 (fn := Try.f64) hG Try.func64 (by kernel_rfl) hc0 (r0 := .sc (.bool false)) (by kernel_rfl) (WkV.refl _)
      case hf10 =>
        replace H := cond_f hb H
        refine AR.seg hG hm 3 [0, 1, 5] (k' := [.loop [1, 1, 0, 1, 0], .blk 0, .code [1, 1, 1]]) (t' := [(0, .sl 42 (List.map Act.av a) f_a), (1, .sl 42 (List.map Act.av b) f_b), (5, .sc (.int .i64 (IntKind.i64.wrap (((i : Nat) : Int) + 1))))]) (h' := []) (by kernel_rfl) ?_
        refine AR.keep [0, 1, 5] (t' := [(0, .sl 42 (List.map Act.av a) f_a), (1, .sl 42 (List.map Act.av b) f_b), (5, .sc (.int .i64 (IntKind.i64.wrap (((i : Nat) : Int) + 1))))]) (by kernel_rfl) ?_
        refine AR.loop_round ?_
        rw [hw]
        exact ih (i + 1) hd2 H
    case hf9 => exact absurd (hc.symm.trans hb) (by decide)

def podestaref04_SameActs_raw (a : List Act) (b : List Act) : Option (Bool) :=
  (bif ((((List.map Act.av a).length : Nat) : Int) != (((List.map Act.av b).length : Nat) : Int)) then
    some false
  else
    loopO (podestaref04_SameActs_l0s b a 0) fun v =>
    some true)
theorem podestaref04_SameActs_walk (a : List Act) (b : List Act) (f_a : Bool) (f_b : Bool) (r : Bool) (H : podestaref04_SameActs_raw a b = some r) :
    ACalls Try.prog tab.S 64 [.sl 42 (List.map Act.av a) f_a, .sl 42 (List.map Act.av b) f_b] [] (.sc (.bool r)) [] := by
  have hG := tab_ok
  have hm := mixed
  refine ACalls.of_AR (G := tab) podestaref04_SameActs_F (fn := Try.f64) Try.func64 (by kernel_rfl) (by kernel_rfl) (by kernel_rfl) (Nat.le_of_ble_eq_true (by kernel_rfl)) ?_
  intro c0 hc0
  replace hc0 : c0.m.length = 0 := hc0
  rw [podestaref04_SameActs_raw] at H
  refine AR.seg hG hm 5 [0, 1, 10] (k' := [.code [1, 0, 1], .code [1, 1]]) (t' := [(0, .sl 42 (List.map Act.av a) f_a), (1, .sl 42 (List.map Act.av b) f_b), (10, .sc (.bool ((((List.map Act.av a).length : Nat) : Int) != (((List.map Act.av b).length : Nat) : Int))))]) (h' := []) (by kernel_rfl) ?_
  refine AR.cond (.tmp 10) ((((List.map Act.av a).length : Nat) : Int) != (((List.map Act.av b).length : Nat) : Int)) (by kernel_rfl) (by kernel_rfl) (fun hb => ?ht1) (fun hb => ?hf1)
  case ht1 =>
    replace H := cond_t hb H
    refine AR.seg hG hm 2 [4] (k' := [.code [1, 0, 1, 0, 1], .code [1, 1]]) (t' := [(4, .sc (.bool false))]) (h' := []) (by kernel_rfl) ?_
    obtain rfl := Option.some.inj H
    exact AR.ret0 (fn := Try.f64) hG Try.func64 (by kernel_rfl) hc0 (r0 := .sc (.bool false)) (by kernel_rfl) (WkV.refl _)
  case hf1 =>
    replace H := cond_f hb H
    refine AR.seg hG hm 5 [0, 1, 5] (k' := [.code [1, 1, 0, 1, 0], .blk 0, .code [1, 1, 1]]) (t' := [(0, .sl 42 (List.map Act.av a) f_a), (1, .sl 42 (List.map Act.av b) f_b), (5, .sc (.int .i64 0))]) (h' := []) (by kernel_rfl) ?_
    rcases loopO_some H with ⟨v, hv, H⟩ | hv
    case inr =>
      refine AR.into (by kernel_rfl) ?_
      exact podestaref04_SameActs_l0_walk a b f_a f_b _ c0 hc0 (.inr _) (fun _ e => by cases e) (fun _ e => (Sum.inr.inj e).symm) a 0 rfl hv
    refine AR.into (by kernel_rfl) ?_
    refine podestaref04_SameActs_l0_walk a b f_a f_b r c0 hc0 (.inl v) (fun w e => ?_) (fun _ e => by cases e) a 0 rfl hv
    have e := Sum.inl.inj e
    subst e
    refine AR.seg hG hm 2 [4] (k' := [.code [1, 1, 1, 1]]) (t' := [(4, .sc (.bool true))]) (h' := []) (by kernel_rfl) ?_
    obtain rfl := Option.some.inj H
    exact AR.ret0 (fn := Try.f64) hG Try.func64 (by kernel_rfl) hc0 (r0 := .sc (.bool true)) (by kernel_rfl) (WkV.refl _)

theorem podestaref04_SameActs_ok (a b : List Act) (f_a f_b : Bool) : ACalls Try.prog tab.S 64 [.sl 42 (List.map Act.av a) f_a, .sl 42 (List.map Act.av b) f_b] [] (.sc (.bool (a == b))) [] := by
  refine podestaref04_SameActs_walk a b f_a f_b _ ?_
  rw [podestaref04_SameActs_raw, len_bne]
  by_cases h : a.length = b.length
  · simp only [h, decide_true, Bool.not_true, cond_false]
    rw [cmp_loop (v := false) (podestaref04_SameActs_l0s b) b (fun x y => x == y) (fun _ => rfl) (fun x r i => by rw [podestaref04_SameActs_l0s]; simp only [Act.beq_eq]) a 0 (by omega), List.drop_zero, zipAll_beq]
    cases a == b <;> rfl
  · have e : (a == b) = false := by
      rw [beq_eq_false_iff_ne]
      intro e
      exact h (by rw [e])
    rw [e]
    simp only [h, decide_false, Bool.not_false, cond_true]

/-! ### rule.Equal: function 46 -/
noncomputable def rule_Equal_F : Go.Sh.Fn := ⟨46, bodyOf Try.f46, 63⟩
def rule_Equal_k1 : List Kd := [.pure, .pure, .pure, .pure, .pure, .pure, .read, .read, .pure, .pure, .pure, .pure, .read, .pure, .read, .pure, .pure, .pure, .pure, .read, .pure, .read, .pure, .pure, .pure, .pure, .read, .pure, .read, .pure, .pure, .pure, .pure, .read, .pure, .read, .pure, .pure, .pure, .pure, .read, .pure, .read, .pure, .pure, .pure, .pure, .read, .pure, .read, .pure, .pure, .pure]
def rule_Equal_k2 : List Kd := [.pure, .pure, .pure, .pure, .pure, .pure, .read, .read, .pure, .pure, .pure, .pure, .read, .pure, .read, .pure, .pure, .pure, .pure, .read, .pure, .read, .pure, .pure, .pure, .pure, .read, .pure, .read, .pure, .pure, .pure, .pure, .read, .pure, .read, .pure, .pure, .pure, .pure, .read, .pure, .read, .pure, .pure, .pure, .pure, .read, .pure, .read, .pure, .pure, .pure]
def rule_Equal_k0 : List Kd := [.pure, .pure, .pure]
def rule_Equal (a : Rule) (b : Rule) : Bool :=
  ((((((((act_Same a.Acts b.Acts) && (rule_Key ({ a with Acts := [] } : Rule) ({ b with Acts := [] } : Rule))) && (a.Idle == b.Idle)) && (a.Hard == b.Hard)) && (a.Owner == b.Owner)) && (a.Hits == b.Hits)) && (a.Quiet == b.Quiet)) && (a.Age == b.Age))
theorem rule_Equal_walk (a : Rule) (b : Rule) (r : Bool) (H : rule_Equal a b = r) :
    ACalls Try.prog tab.S 46 [Rule.av a, Rule.av b] [] (.sc (.bool r)) [] := by
  have hG := tab_ok
  have hm := mixed
  refine ACalls.of_AR (G := tab) rule_Equal_F (fn := Try.f46) Try.func46 (by kernel_rfl) (by kernel_rfl) (by kernel_rfl) (Nat.le_of_ble_eq_true (by kernel_rfl)) ?_
  intro c0 hc0
  replace hc0 : c0.m.length = 0 := hc0
  rw [rule_Equal] at H
  refine AR.seg hG hm 1 [0, 1] (k' := [.code [0], .code [1]]) (t' := [(0, Rule.av a), (1, Rule.av b)]) (h' := []) (by kernel_rfl) ?_
  refine AR.reg hm rule_Equal_k0 (by kernel_rfl) ?_
  refine DK.op' [1, 2] (t' := [(1, Rule.av b), (2, .ep [.arr .u64 12 a.Match.Value, .arr .u64 12 a.Match.Care, .sc (.int .i64 a.Prio), .sl 42 (List.map Act.av a.Acts) false, .sc (.int .i64 a.Idle), .sc (.int .i64 a.Hard), .sc (.int .i64 a.Owner), .sc (.int .i64 a.Hits), .sc (.int .i64 a.Quiet), .sc (.int .i64 a.Age)] 0 none)]) (h' := []) (LSpec.boxP (fs := (Rule.ch a)) (by kernel_rfl)) (by kernel_rfl) rfl (by kernel_rfl) rfl ?_
  refine DK.op' [2, 3] (t' := [(2, .ep [.arr .u64 12 a.Match.Value, .arr .u64 12 a.Match.Care, .sc (.int .i64 a.Prio), .sl 42 (List.map Act.av a.Acts) false, .sc (.int .i64 a.Idle), .sc (.int .i64 a.Hard), .sc (.int .i64 a.Owner), .sc (.int .i64 a.Hits), .sc (.int .i64 a.Quiet), .sc (.int .i64 a.Age)] 0 none), (3, .ep [.arr .u64 12 b.Match.Value, .arr .u64 12 b.Match.Care, .sc (.int .i64 b.Prio), .sl 42 (List.map Act.av b.Acts) false, .sc (.int .i64 b.Idle), .sc (.int .i64 b.Hard), .sc (.int .i64 b.Owner), .sc (.int .i64 b.Hits), .sc (.int .i64 b.Quiet), .sc (.int .i64 b.Age)] 0 none)]) (h' := []) (LSpec.boxP (fs := (Rule.ch b)) (by kernel_rfl)) (by kernel_rfl) rfl (by kernel_rfl) rfl ?_
  refine DK.seg hG 1 [2, 3] (t' := [(2, .ep [.arr .u64 12 a.Match.Value, .arr .u64 12 a.Match.Care, .sc (.int .i64 a.Prio), .sl 42 (List.map Act.av a.Acts) false, .sc (.int .i64 a.Idle), .sc (.int .i64 a.Hard), .sc (.int .i64 a.Owner), .sc (.int .i64 a.Hits), .sc (.int .i64 a.Quiet), .sc (.int .i64 a.Age)] 0 none), (3, .ep [.arr .u64 12 b.Match.Value, .arr .u64 12 b.Match.Care, .sc (.int .i64 b.Prio), .sl 42 (List.map Act.av b.Acts) false, .sc (.int .i64 b.Idle), .sc (.int .i64 b.Hard), .sc (.int .i64 b.Owner), .sc (.int .i64 b.Hits), .sc (.int .i64 b.Quiet), .sc (.int .i64 b.Age)] 0 none)]) (h' := []) (by kernel_rfl) rfl ?_
  refine DK.done (by kernel_rfl) (by kernel_rfl) ?_
  refine AR.seg hG hm 1 [2, 3] (k' := [.code [1, 0], .code [1, 1]]) (t' := [(2, .ep [.arr .u64 12 a.Match.Value, .arr .u64 12 a.Match.Care, .sc (.int .i64 a.Prio), .sl 42 (List.map Act.av a.Acts) false, .sc (.int .i64 a.Idle), .sc (.int .i64 a.Hard), .sc (.int .i64 a.Owner), .sc (.int .i64 a.Hits), .sc (.int .i64 a.Quiet), .sc (.int .i64 a.Age)] 0 none), (3, .ep [.arr .u64 12 b.Match.Value, .arr .u64 12 b.Match.Care, .sc (.int .i64 b.Prio), .sl 42 (List.map Act.av b.Acts) false, .sc (.int .i64 b.Idle), .sc (.int .i64 b.Hard), .sc (.int .i64 b.Owner), .sc (.int .i64 b.Hits), .sc (.int .i64 b.Quiet), .sc (.int .i64 b.Age)] 0 none)]) (h' := []) (by kernel_rfl) ?_
  refine AR.regX hG hm [2, 3, 5, 6] [true, false, true, true, true, false, false, false, true, false, true, true, false, false, true, true, true, true, true, true, true, true, false, false, false, false, false, false, false, false] ([(2, .ep [.arr .u64 12 a.Match.Value, .arr .u64 12 a.Match.Care, .sc (.int .i64 a.Prio), .sl 42 (List.map Act.av a.Acts) false, .sc (.int .i64 a.Idle), .sc (.int .i64 a.Hard), .sc (.int .i64 a.Owner), .sc (.int .i64 a.Hits), .sc (.int .i64 a.Quiet), .sc (.int .i64 a.Age)] 0 none), (3, .ep [.arr .u64 12 b.Match.Value, .arr .u64 12 b.Match.Care, .sc (.int .i64 b.Prio), .sl 42 (List.map Act.av b.Acts) false, .sc (.int .i64 b.Idle), .sc (.int .i64 b.Hard), .sc (.int .i64 b.Owner), .sc (.int .i64 b.Hits), .sc (.int .i64 b.Quiet), .sc (.int .i64 b.Age)] 0 none), (5, .ptr 0 0 none), (6, .ptr 1 0 none)], [.box 34 (Rule.ch a), .box 34 (Rule.ch b)]) ([(2, .ep [.arr .u64 12 a.Match.Value, .arr .u64 12 a.Match.Care, .sc (.int .i64 a.Prio), .sl 42 (List.map Act.av a.Acts) false, .sc (.int .i64 a.Idle), .sc (.int .i64 a.Hard), .sc (.int .i64 a.Owner), .sc (.int .i64 a.Hits), .sc (.int .i64 a.Quiet), .sc (.int .i64 a.Age)] 0 none), (3, .ep [.arr .u64 12 b.Match.Value, .arr .u64 12 b.Match.Care, .sc (.int .i64 b.Prio), .sl 42 (List.map Act.av b.Acts) false, .sc (.int .i64 b.Idle), .sc (.int .i64 b.Hard), .sc (.int .i64 b.Owner), .sc (.int .i64 b.Hits), .sc (.int .i64 b.Quiet), .sc (.int .i64 b.Age)] 0 none), (5, .ptr 1 0 none), (6, .ptr 0 0 none)], [.box 34 (Rule.ch b), .box 34 (Rule.ch a)]) (by kernel_rfl) (by kernel_rfl) ?xa0 ?xb0
  case xa0 =>
    refine AR.seg hG hm 3 [2, 3, 5, 6] (k' := [.code [1, 1, 1, 0], .code [1, 1, 1, 1]]) (t' := [(2, .ep [.arr .u64 12 a.Match.Value, .arr .u64 12 a.Match.Care, .sc (.int .i64 a.Prio), .sl 42 (List.map Act.av a.Acts) false, .sc (.int .i64 a.Idle), .sc (.int .i64 a.Hard), .sc (.int .i64 a.Owner), .sc (.int .i64 a.Hits), .sc (.int .i64 a.Quiet), .sc (.int .i64 a.Age)] 0 none), (3, .ep [.arr .u64 12 b.Match.Value, .arr .u64 12 b.Match.Care, .sc (.int .i64 b.Prio), .sl 42 (List.map Act.av b.Acts) false, .sc (.int .i64 b.Idle), .sc (.int .i64 b.Hard), .sc (.int .i64 b.Owner), .sc (.int .i64 b.Hits), .sc (.int .i64 b.Quiet), .sc (.int .i64 b.Age)] 0 none), (5, .ptr 0 0 none), (6, .ptr 1 0 none)]) (h' := [.box 34 [.arr .u64 12 a.Match.Value, .arr .u64 12 a.Match.Care, .sc (.int .i64 a.Prio), .sl 0 [] true, .sc (.int .i64 a.Idle), .sc (.int .i64 a.Hard), .sc (.int .i64 a.Owner), .sc (.int .i64 a.Hits), .sc (.int .i64 a.Quiet), .sc (.int .i64 a.Age)], .box 34 [.arr .u64 12 b.Match.Value, .arr .u64 12 b.Match.Care, .sc (.int .i64 b.Prio), .sl 0 [] true, .sc (.int .i64 b.Idle), .sc (.int .i64 b.Hard), .sc (.int .i64 b.Owner), .sc (.int .i64 b.Hits), .sc (.int .i64 b.Quiet), .sc (.int .i64 b.Age)]]) (by kernel_rfl) ?_
    refine AR.reg hm rule_Equal_k1 (by kernel_rfl) ?_
    refine DK.seg hG 4 [5, 6, 12, 14] (t' := [(5, .ptr 0 0 none), (6, .ptr 1 0 none), (12, .sl 42 (List.map Act.av a.Acts) false), (14, .sl 42 (List.map Act.av b.Acts) false)]) (h' := [.box 34 [.arr .u64 12 a.Match.Value, .arr .u64 12 a.Match.Care, .sc (.int .i64 a.Prio), .sl 0 [] true, .sc (.int .i64 a.Idle), .sc (.int .i64 a.Hard), .sc (.int .i64 a.Owner), .sc (.int .i64 a.Hits), .sc (.int .i64 a.Quiet), .sc (.int .i64 a.Age)], .box 34 [.arr .u64 12 b.Match.Value, .arr .u64 12 b.Match.Care, .sc (.int .i64 b.Prio), .sl 0 [] true, .sc (.int .i64 b.Idle), .sc (.int .i64 b.Hard), .sc (.int .i64 b.Owner), .sc (.int .i64 b.Hits), .sc (.int .i64 b.Quiet), .sc (.int .i64 b.Age)]]) (by kernel_rfl) rfl ?_
    refine DK.op' [5, 6, 15] (t' := [(5, .ptr 0 0 none), (6, .ptr 1 0 none), (15, .sc (.bool (act_Same a.Acts b.Acts)))]) (h' := [.box 34 [.arr .u64 12 a.Match.Value, .arr .u64 12 a.Match.Care, .sc (.int .i64 a.Prio), .sl 0 [] true, .sc (.int .i64 a.Idle), .sc (.int .i64 a.Hard), .sc (.int .i64 a.Owner), .sc (.int .i64 a.Hits), .sc (.int .i64 a.Quiet), .sc (.int .i64 a.Age)], .box 34 [.arr .u64 12 b.Match.Value, .arr .u64 12 b.Match.Care, .sc (.int .i64 b.Prio), .sl 0 [] true, .sc (.int .i64 b.Idle), .sc (.int .i64 b.Hard), .sc (.int .i64 b.Owner), .sc (.int .i64 b.Hits), .sc (.int .i64 b.Quiet), .sc (.int .i64 b.Age)]]) (LSpec.callP' (act_Same_calls a.Acts b.Acts false false) (by kernel_rfl)) (by kernel_rfl) rfl (by kernel_rfl) rfl ?_
    refine DK.seg hG 1 [5, 6, 16] (t' := [(5, .ptr 0 0 none), (6, .ptr 1 0 none), (16, .sc (.bool (act_Same a.Acts b.Acts)))]) (h' := [.box 34 [.arr .u64 12 a.Match.Value, .arr .u64 12 a.Match.Care, .sc (.int .i64 a.Prio), .sl 0 [] true, .sc (.int .i64 a.Idle), .sc (.int .i64 a.Hard), .sc (.int .i64 a.Owner), .sc (.int .i64 a.Hits), .sc (.int .i64 a.Quiet), .sc (.int .i64 a.Age)], .box 34 [.arr .u64 12 b.Match.Value, .arr .u64 12 b.Match.Care, .sc (.int .i64 b.Prio), .sl 0 [] true, .sc (.int .i64 b.Idle), .sc (.int .i64 b.Hard), .sc (.int .i64 b.Owner), .sc (.int .i64 b.Hits), .sc (.int .i64 b.Quiet), .sc (.int .i64 b.Age)]]) (by kernel_rfl) rfl ?_
    refine DK.mux 16 (act_Same a.Acts b.Acts) (j := 10) (h' := [.box 34 [.arr .u64 12 a.Match.Value, .arr .u64 12 a.Match.Care, .sc (.int .i64 a.Prio), .sl 0 [] true, .sc (.int .i64 a.Idle), .sc (.int .i64 a.Hard), .sc (.int .i64 a.Owner), .sc (.int .i64 a.Hits), .sc (.int .i64 a.Quiet), .sc (.int .i64 a.Age)], .box 34 [.arr .u64 12 b.Match.Value, .arr .u64 12 b.Match.Care, .sc (.int .i64 b.Prio), .sl 0 [] true, .sc (.int .i64 b.Idle), .sc (.int .i64 b.Hard), .sc (.int .i64 b.Owner), .sc (.int .i64 b.Hits), .sc (.int .i64 b.Quiet), .sc (.int .i64 b.Age)]]) (by kernel_rfl) (fun z => [(5, .ptr 0 0 none), (6, .ptr 1 0 none), (20, .sc (.bool (z && (rule_Key ({ a with Acts := [] } : Rule) ({ b with Acts := [] } : Rule)))))]) ?J1 (fun hb J => ?ht1) (fun hb J => ?hf1)
    case ht1 =>
      refine DK.seg hG 2 [5, 6, 16, 17, 18] (t' := [(5, .ptr 0 0 none), (6, .ptr 1 0 none), (16, .sc (.bool true)), (17, .agg [.arr .u64 12 a.Match.Value, .arr .u64 12 a.Match.Care, .sc (.int .i64 a.Prio), .sl 0 [] true, .sc (.int .i64 a.Idle), .sc (.int .i64 a.Hard), .sc (.int .i64 a.Owner), .sc (.int .i64 a.Hits), .sc (.int .i64 a.Quiet), .sc (.int .i64 a.Age)]), (18, .agg [.arr .u64 12 b.Match.Value, .arr .u64 12 b.Match.Care, .sc (.int .i64 b.Prio), .sl 0 [] true, .sc (.int .i64 b.Idle), .sc (.int .i64 b.Hard), .sc (.int .i64 b.Owner), .sc (.int .i64 b.Hits), .sc (.int .i64 b.Quiet), .sc (.int .i64 b.Age)])]) (h' := [.box 34 [.arr .u64 12 a.Match.Value, .arr .u64 12 a.Match.Care, .sc (.int .i64 a.Prio), .sl 0 [] true, .sc (.int .i64 a.Idle), .sc (.int .i64 a.Hard), .sc (.int .i64 a.Owner), .sc (.int .i64 a.Hits), .sc (.int .i64 a.Quiet), .sc (.int .i64 a.Age)], .box 34 [.arr .u64 12 b.Match.Value, .arr .u64 12 b.Match.Care, .sc (.int .i64 b.Prio), .sl 0 [] true, .sc (.int .i64 b.Idle), .sc (.int .i64 b.Hard), .sc (.int .i64 b.Owner), .sc (.int .i64 b.Hits), .sc (.int .i64 b.Quiet), .sc (.int .i64 b.Age)]]) (by kernel_rfl) rfl ?_
      refine DK.op' [5, 6, 16, 19] (t' := [(5, .ptr 0 0 none), (6, .ptr 1 0 none), (16, .sc (.bool true)), (19, .sc (.bool (rule_Key ({ a with Acts := [] } : Rule) ({ b with Acts := [] } : Rule))))]) (h' := [.box 34 [.arr .u64 12 a.Match.Value, .arr .u64 12 a.Match.Care, .sc (.int .i64 a.Prio), .sl 0 [] true, .sc (.int .i64 a.Idle), .sc (.int .i64 a.Hard), .sc (.int .i64 a.Owner), .sc (.int .i64 a.Hits), .sc (.int .i64 a.Quiet), .sc (.int .i64 a.Age)], .box 34 [.arr .u64 12 b.Match.Value, .arr .u64 12 b.Match.Care, .sc (.int .i64 b.Prio), .sl 0 [] true, .sc (.int .i64 b.Idle), .sc (.int .i64 b.Hard), .sc (.int .i64 b.Owner), .sc (.int .i64 b.Hits), .sc (.int .i64 b.Quiet), .sc (.int .i64 b.Age)]]) (LSpec.callP' (ACalls.wk (aas := [.agg [.arr .u64 12 a.Match.Value, .arr .u64 12 a.Match.Care, .sc (.int .i64 a.Prio), .sl 0 [] true, .sc (.int .i64 a.Idle), .sc (.int .i64 a.Hard), .sc (.int .i64 a.Owner), .sc (.int .i64 a.Hits), .sc (.int .i64 a.Quiet), .sc (.int .i64 a.Age)], .agg [.arr .u64 12 b.Match.Value, .arr .u64 12 b.Match.Care, .sc (.int .i64 b.Prio), .sl 0 [] true, .sc (.int .i64 b.Idle), .sc (.int .i64 b.Hard), .sc (.int .i64 b.Owner), .sc (.int .i64 b.Hits), .sc (.int .i64 b.Quiet), .sc (.int .i64 b.Age)]]) (Wks.cons (WkV.agg (WkL.cons (Wk1.refl _) (WkL.cons (Wk1.refl _) (WkL.cons (Wk1.refl _) (WkL.cons (Wk1.nil 42 false) (WkL.cons (Wk1.refl _) (WkL.cons (Wk1.refl _) (WkL.cons (Wk1.refl _) (WkL.cons (Wk1.refl _) (WkL.cons (Wk1.refl _) (WkL.cons (Wk1.refl _) WkL.nil))))))))))) trivial trivial (Wks.cons (WkV.agg (WkL.cons (Wk1.refl _) (WkL.cons (Wk1.refl _) (WkL.cons (Wk1.refl _) (WkL.cons (Wk1.nil 42 false) (WkL.cons (Wk1.refl _) (WkL.cons (Wk1.refl _) (WkL.cons (Wk1.refl _) (WkL.cons (Wk1.refl _) (WkL.cons (Wk1.refl _) (WkL.cons (Wk1.refl _) WkL.nil))))))))))) trivial trivial Wks.nil)) (rule_Key_calls ({ a with Acts := [] } : Rule) ({ b with Acts := [] } : Rule))) (by kernel_rfl)) (by kernel_rfl) rfl (by kernel_rfl) rfl ?_
      exact DK.seg hG 1 [5, 6, 20] (by kernel_rfl) rfl J
    case hf1 =>
      exact DK.seg hG 4 [5, 6, 20] (by kernel_rfl) rfl J
    refine DK.seg hG 1 [5, 6, 21] (t' := [(5, .ptr 0 0 none), (6, .ptr 1 0 none), (21, .sc (.bool ((act_Same a.Acts b.Acts) && (rule_Key ({ a with Acts := [] } : Rule) ({ b with Acts := [] } : Rule)))))]) (h' := [.box 34 [.arr .u64 12 a.Match.Value, .arr .u64 12 a.Match.Care, .sc (.int .i64 a.Prio), .sl 0 [] true, .sc (.int .i64 a.Idle), .sc (.int .i64 a.Hard), .sc (.int .i64 a.Owner), .sc (.int .i64 a.Hits), .sc (.int .i64 a.Quiet), .sc (.int .i64 a.Age)], .box 34 [.arr .u64 12 b.Match.Value, .arr .u64 12 b.Match.Care, .sc (.int .i64 b.Prio), .sl 0 [] true, .sc (.int .i64 b.Idle), .sc (.int .i64 b.Hard), .sc (.int .i64 b.Owner), .sc (.int .i64 b.Hits), .sc (.int .i64 b.Quiet), .sc (.int .i64 b.Age)]]) (by kernel_rfl) rfl ?_
    refine DK.mux 21 ((act_Same a.Acts b.Acts) && (rule_Key ({ a with Acts := [] } : Rule) ({ b with Acts := [] } : Rule))) (j := 17) (h' := [.box 34 [.arr .u64 12 a.Match.Value, .arr .u64 12 a.Match.Care, .sc (.int .i64 a.Prio), .sl 0 [] true, .sc (.int .i64 a.Idle), .sc (.int .i64 a.Hard), .sc (.int .i64 a.Owner), .sc (.int .i64 a.Hits), .sc (.int .i64 a.Quiet), .sc (.int .i64 a.Age)], .box 34 [.arr .u64 12 b.Match.Value, .arr .u64 12 b.Match.Care, .sc (.int .i64 b.Prio), .sl 0 [] true, .sc (.int .i64 b.Idle), .sc (.int .i64 b.Hard), .sc (.int .i64 b.Owner), .sc (.int .i64 b.Hits), .sc (.int .i64 b.Quiet), .sc (.int .i64 b.Age)]]) (by kernel_rfl) (fun z => [(5, .ptr 0 0 none), (6, .ptr 1 0 none), (27, .sc (.bool (z && (a.Idle == b.Idle))))]) ?J2 (fun hb J => ?ht2) (fun hb J => ?hf2)
    case ht2 =>
      exact DK.seg hG 6 [5, 6, 27] (by kernel_rfl) rfl J
    case hf2 =>
      exact DK.seg hG 6 [5, 6, 27] (by kernel_rfl) rfl J
    refine DK.seg hG 1 [5, 6, 28] (t' := [(5, .ptr 0 0 none), (6, .ptr 1 0 none), (28, .sc (.bool (((act_Same a.Acts b.Acts) && (rule_Key ({ a with Acts := [] } : Rule) ({ b with Acts := [] } : Rule))) && (a.Idle == b.Idle))))]) (h' := [.box 34 [.arr .u64 12 a.Match.Value, .arr .u64 12 a.Match.Care, .sc (.int .i64 a.Prio), .sl 0 [] true, .sc (.int .i64 a.Idle), .sc (.int .i64 a.Hard), .sc (.int .i64 a.Owner), .sc (.int .i64 a.Hits), .sc (.int .i64 a.Quiet), .sc (.int .i64 a.Age)], .box 34 [.arr .u64 12 b.Match.Value, .arr .u64 12 b.Match.Care, .sc (.int .i64 b.Prio), .sl 0 [] true, .sc (.int .i64 b.Idle), .sc (.int .i64 b.Hard), .sc (.int .i64 b.Owner), .sc (.int .i64 b.Hits), .sc (.int .i64 b.Quiet), .sc (.int .i64 b.Age)]]) (by kernel_rfl) rfl ?_
    refine DK.mux 28 (((act_Same a.Acts b.Acts) && (rule_Key ({ a with Acts := [] } : Rule) ({ b with Acts := [] } : Rule))) && (a.Idle == b.Idle)) (j := 24) (h' := [.box 34 [.arr .u64 12 a.Match.Value, .arr .u64 12 a.Match.Care, .sc (.int .i64 a.Prio), .sl 0 [] true, .sc (.int .i64 a.Idle), .sc (.int .i64 a.Hard), .sc (.int .i64 a.Owner), .sc (.int .i64 a.Hits), .sc (.int .i64 a.Quiet), .sc (.int .i64 a.Age)], .box 34 [.arr .u64 12 b.Match.Value, .arr .u64 12 b.Match.Care, .sc (.int .i64 b.Prio), .sl 0 [] true, .sc (.int .i64 b.Idle), .sc (.int .i64 b.Hard), .sc (.int .i64 b.Owner), .sc (.int .i64 b.Hits), .sc (.int .i64 b.Quiet), .sc (.int .i64 b.Age)]]) (by kernel_rfl) (fun z => [(5, .ptr 0 0 none), (6, .ptr 1 0 none), (34, .sc (.bool (z && (a.Hard == b.Hard))))]) ?J3 (fun hb J => ?ht3) (fun hb J => ?hf3)
    case ht3 =>
      exact DK.seg hG 6 [5, 6, 34] (by kernel_rfl) rfl J
    case hf3 =>
      exact DK.seg hG 6 [5, 6, 34] (by kernel_rfl) rfl J
    refine DK.seg hG 1 [5, 6, 35] (t' := [(5, .ptr 0 0 none), (6, .ptr 1 0 none), (35, .sc (.bool ((((act_Same a.Acts b.Acts) && (rule_Key ({ a with Acts := [] } : Rule) ({ b with Acts := [] } : Rule))) && (a.Idle == b.Idle)) && (a.Hard == b.Hard))))]) (h' := [.box 34 [.arr .u64 12 a.Match.Value, .arr .u64 12 a.Match.Care, .sc (.int .i64 a.Prio), .sl 0 [] true, .sc (.int .i64 a.Idle), .sc (.int .i64 a.Hard), .sc (.int .i64 a.Owner), .sc (.int .i64 a.Hits), .sc (.int .i64 a.Quiet), .sc (.int .i64 a.Age)], .box 34 [.arr .u64 12 b.Match.Value, .arr .u64 12 b.Match.Care, .sc (.int .i64 b.Prio), .sl 0 [] true, .sc (.int .i64 b.Idle), .sc (.int .i64 b.Hard), .sc (.int .i64 b.Owner), .sc (.int .i64 b.Hits), .sc (.int .i64 b.Quiet), .sc (.int .i64 b.Age)]]) (by kernel_rfl) rfl ?_
    refine DK.mux 35 ((((act_Same a.Acts b.Acts) && (rule_Key ({ a with Acts := [] } : Rule) ({ b with Acts := [] } : Rule))) && (a.Idle == b.Idle)) && (a.Hard == b.Hard)) (j := 31) (h' := [.box 34 [.arr .u64 12 a.Match.Value, .arr .u64 12 a.Match.Care, .sc (.int .i64 a.Prio), .sl 0 [] true, .sc (.int .i64 a.Idle), .sc (.int .i64 a.Hard), .sc (.int .i64 a.Owner), .sc (.int .i64 a.Hits), .sc (.int .i64 a.Quiet), .sc (.int .i64 a.Age)], .box 34 [.arr .u64 12 b.Match.Value, .arr .u64 12 b.Match.Care, .sc (.int .i64 b.Prio), .sl 0 [] true, .sc (.int .i64 b.Idle), .sc (.int .i64 b.Hard), .sc (.int .i64 b.Owner), .sc (.int .i64 b.Hits), .sc (.int .i64 b.Quiet), .sc (.int .i64 b.Age)]]) (by kernel_rfl) (fun z => [(5, .ptr 0 0 none), (6, .ptr 1 0 none), (41, .sc (.bool (z && (a.Owner == b.Owner))))]) ?J4 (fun hb J => ?ht4) (fun hb J => ?hf4)
    case ht4 =>
      exact DK.seg hG 6 [5, 6, 41] (by kernel_rfl) rfl J
    case hf4 =>
      exact DK.seg hG 6 [5, 6, 41] (by kernel_rfl) rfl J
    refine DK.seg hG 1 [5, 6, 42] (t' := [(5, .ptr 0 0 none), (6, .ptr 1 0 none), (42, .sc (.bool (((((act_Same a.Acts b.Acts) && (rule_Key ({ a with Acts := [] } : Rule) ({ b with Acts := [] } : Rule))) && (a.Idle == b.Idle)) && (a.Hard == b.Hard)) && (a.Owner == b.Owner))))]) (h' := [.box 34 [.arr .u64 12 a.Match.Value, .arr .u64 12 a.Match.Care, .sc (.int .i64 a.Prio), .sl 0 [] true, .sc (.int .i64 a.Idle), .sc (.int .i64 a.Hard), .sc (.int .i64 a.Owner), .sc (.int .i64 a.Hits), .sc (.int .i64 a.Quiet), .sc (.int .i64 a.Age)], .box 34 [.arr .u64 12 b.Match.Value, .arr .u64 12 b.Match.Care, .sc (.int .i64 b.Prio), .sl 0 [] true, .sc (.int .i64 b.Idle), .sc (.int .i64 b.Hard), .sc (.int .i64 b.Owner), .sc (.int .i64 b.Hits), .sc (.int .i64 b.Quiet), .sc (.int .i64 b.Age)]]) (by kernel_rfl) rfl ?_
    refine DK.mux 42 (((((act_Same a.Acts b.Acts) && (rule_Key ({ a with Acts := [] } : Rule) ({ b with Acts := [] } : Rule))) && (a.Idle == b.Idle)) && (a.Hard == b.Hard)) && (a.Owner == b.Owner)) (j := 38) (h' := [.box 34 [.arr .u64 12 a.Match.Value, .arr .u64 12 a.Match.Care, .sc (.int .i64 a.Prio), .sl 0 [] true, .sc (.int .i64 a.Idle), .sc (.int .i64 a.Hard), .sc (.int .i64 a.Owner), .sc (.int .i64 a.Hits), .sc (.int .i64 a.Quiet), .sc (.int .i64 a.Age)], .box 34 [.arr .u64 12 b.Match.Value, .arr .u64 12 b.Match.Care, .sc (.int .i64 b.Prio), .sl 0 [] true, .sc (.int .i64 b.Idle), .sc (.int .i64 b.Hard), .sc (.int .i64 b.Owner), .sc (.int .i64 b.Hits), .sc (.int .i64 b.Quiet), .sc (.int .i64 b.Age)]]) (by kernel_rfl) (fun z => [(5, .ptr 0 0 none), (6, .ptr 1 0 none), (48, .sc (.bool (z && (a.Hits == b.Hits))))]) ?J5 (fun hb J => ?ht5) (fun hb J => ?hf5)
    case ht5 =>
      exact DK.seg hG 6 [5, 6, 48] (by kernel_rfl) rfl J
    case hf5 =>
      exact DK.seg hG 6 [5, 6, 48] (by kernel_rfl) rfl J
    refine DK.seg hG 1 [5, 6, 49] (t' := [(5, .ptr 0 0 none), (6, .ptr 1 0 none), (49, .sc (.bool ((((((act_Same a.Acts b.Acts) && (rule_Key ({ a with Acts := [] } : Rule) ({ b with Acts := [] } : Rule))) && (a.Idle == b.Idle)) && (a.Hard == b.Hard)) && (a.Owner == b.Owner)) && (a.Hits == b.Hits))))]) (h' := [.box 34 [.arr .u64 12 a.Match.Value, .arr .u64 12 a.Match.Care, .sc (.int .i64 a.Prio), .sl 0 [] true, .sc (.int .i64 a.Idle), .sc (.int .i64 a.Hard), .sc (.int .i64 a.Owner), .sc (.int .i64 a.Hits), .sc (.int .i64 a.Quiet), .sc (.int .i64 a.Age)], .box 34 [.arr .u64 12 b.Match.Value, .arr .u64 12 b.Match.Care, .sc (.int .i64 b.Prio), .sl 0 [] true, .sc (.int .i64 b.Idle), .sc (.int .i64 b.Hard), .sc (.int .i64 b.Owner), .sc (.int .i64 b.Hits), .sc (.int .i64 b.Quiet), .sc (.int .i64 b.Age)]]) (by kernel_rfl) rfl ?_
    refine DK.mux 49 ((((((act_Same a.Acts b.Acts) && (rule_Key ({ a with Acts := [] } : Rule) ({ b with Acts := [] } : Rule))) && (a.Idle == b.Idle)) && (a.Hard == b.Hard)) && (a.Owner == b.Owner)) && (a.Hits == b.Hits)) (j := 45) (h' := [.box 34 [.arr .u64 12 a.Match.Value, .arr .u64 12 a.Match.Care, .sc (.int .i64 a.Prio), .sl 0 [] true, .sc (.int .i64 a.Idle), .sc (.int .i64 a.Hard), .sc (.int .i64 a.Owner), .sc (.int .i64 a.Hits), .sc (.int .i64 a.Quiet), .sc (.int .i64 a.Age)], .box 34 [.arr .u64 12 b.Match.Value, .arr .u64 12 b.Match.Care, .sc (.int .i64 b.Prio), .sl 0 [] true, .sc (.int .i64 b.Idle), .sc (.int .i64 b.Hard), .sc (.int .i64 b.Owner), .sc (.int .i64 b.Hits), .sc (.int .i64 b.Quiet), .sc (.int .i64 b.Age)]]) (by kernel_rfl) (fun z => [(5, .ptr 0 0 none), (6, .ptr 1 0 none), (55, .sc (.bool (z && (a.Quiet == b.Quiet))))]) ?J6 (fun hb J => ?ht6) (fun hb J => ?hf6)
    case ht6 =>
      exact DK.seg hG 6 [5, 6, 55] (by kernel_rfl) rfl J
    case hf6 =>
      exact DK.seg hG 6 [5, 6, 55] (by kernel_rfl) rfl J
    refine DK.seg hG 1 [5, 6, 56] (t' := [(5, .ptr 0 0 none), (6, .ptr 1 0 none), (56, .sc (.bool (((((((act_Same a.Acts b.Acts) && (rule_Key ({ a with Acts := [] } : Rule) ({ b with Acts := [] } : Rule))) && (a.Idle == b.Idle)) && (a.Hard == b.Hard)) && (a.Owner == b.Owner)) && (a.Hits == b.Hits)) && (a.Quiet == b.Quiet))))]) (h' := [.box 34 [.arr .u64 12 a.Match.Value, .arr .u64 12 a.Match.Care, .sc (.int .i64 a.Prio), .sl 0 [] true, .sc (.int .i64 a.Idle), .sc (.int .i64 a.Hard), .sc (.int .i64 a.Owner), .sc (.int .i64 a.Hits), .sc (.int .i64 a.Quiet), .sc (.int .i64 a.Age)], .box 34 [.arr .u64 12 b.Match.Value, .arr .u64 12 b.Match.Care, .sc (.int .i64 b.Prio), .sl 0 [] true, .sc (.int .i64 b.Idle), .sc (.int .i64 b.Hard), .sc (.int .i64 b.Owner), .sc (.int .i64 b.Hits), .sc (.int .i64 b.Quiet), .sc (.int .i64 b.Age)]]) (by kernel_rfl) rfl ?_
    refine DK.mux 56 (((((((act_Same a.Acts b.Acts) && (rule_Key ({ a with Acts := [] } : Rule) ({ b with Acts := [] } : Rule))) && (a.Idle == b.Idle)) && (a.Hard == b.Hard)) && (a.Owner == b.Owner)) && (a.Hits == b.Hits)) && (a.Quiet == b.Quiet)) (j := 52) (h' := [.box 34 [.arr .u64 12 a.Match.Value, .arr .u64 12 a.Match.Care, .sc (.int .i64 a.Prio), .sl 0 [] true, .sc (.int .i64 a.Idle), .sc (.int .i64 a.Hard), .sc (.int .i64 a.Owner), .sc (.int .i64 a.Hits), .sc (.int .i64 a.Quiet), .sc (.int .i64 a.Age)], .box 34 [.arr .u64 12 b.Match.Value, .arr .u64 12 b.Match.Care, .sc (.int .i64 b.Prio), .sl 0 [] true, .sc (.int .i64 b.Idle), .sc (.int .i64 b.Hard), .sc (.int .i64 b.Owner), .sc (.int .i64 b.Hits), .sc (.int .i64 b.Quiet), .sc (.int .i64 b.Age)]]) (by kernel_rfl) (fun z => [(62, .sc (.bool (z && (a.Age == b.Age))))]) ?J7 (fun hb J => ?ht7) (fun hb J => ?hf7)
    case ht7 =>
      exact DK.seg hG 6 [62] (by kernel_rfl) rfl J
    case hf7 =>
      exact DK.seg hG 6 [62] (by kernel_rfl) rfl J
    refine DK.seg hG 1 [4] (t' := [(4, .sc (.bool ((((((((act_Same a.Acts b.Acts) && (rule_Key ({ a with Acts := [] } : Rule) ({ b with Acts := [] } : Rule))) && (a.Idle == b.Idle)) && (a.Hard == b.Hard)) && (a.Owner == b.Owner)) && (a.Hits == b.Hits)) && (a.Quiet == b.Quiet)) && (a.Age == b.Age))))]) (h' := [.box 34 [.arr .u64 12 a.Match.Value, .arr .u64 12 a.Match.Care, .sc (.int .i64 a.Prio), .sl 0 [] true, .sc (.int .i64 a.Idle), .sc (.int .i64 a.Hard), .sc (.int .i64 a.Owner), .sc (.int .i64 a.Hits), .sc (.int .i64 a.Quiet), .sc (.int .i64 a.Age)], .box 34 [.arr .u64 12 b.Match.Value, .arr .u64 12 b.Match.Care, .sc (.int .i64 b.Prio), .sl 0 [] true, .sc (.int .i64 b.Idle), .sc (.int .i64 b.Hard), .sc (.int .i64 b.Owner), .sc (.int .i64 b.Hits), .sc (.int .i64 b.Quiet), .sc (.int .i64 b.Age)]]) (by kernel_rfl) rfl ?_
    refine DK.done (by kernel_rfl) (by kernel_rfl) ?_
    subst H
    exact AR.ret0 (fn := Try.f46) hG Try.func46 (by kernel_rfl) hc0 (r0 := .sc (.bool ((((((((act_Same a.Acts b.Acts) && (rule_Key ({ a with Acts := [] } : Rule) ({ b with Acts := [] } : Rule))) && (a.Idle == b.Idle)) && (a.Hard == b.Hard)) && (a.Owner == b.Owner)) && (a.Hits == b.Hits)) && (a.Quiet == b.Quiet)) && (a.Age == b.Age)))) (by kernel_rfl) (WkV.refl _)
  case xb0 =>
    refine AR.seg hG hm 3 [2, 3, 5, 6] (k' := [.code [1, 1, 1, 0], .code [1, 1, 1, 1]]) (t' := [(2, .ep [.arr .u64 12 a.Match.Value, .arr .u64 12 a.Match.Care, .sc (.int .i64 a.Prio), .sl 42 (List.map Act.av a.Acts) false, .sc (.int .i64 a.Idle), .sc (.int .i64 a.Hard), .sc (.int .i64 a.Owner), .sc (.int .i64 a.Hits), .sc (.int .i64 a.Quiet), .sc (.int .i64 a.Age)] 0 none), (3, .ep [.arr .u64 12 b.Match.Value, .arr .u64 12 b.Match.Care, .sc (.int .i64 b.Prio), .sl 42 (List.map Act.av b.Acts) false, .sc (.int .i64 b.Idle), .sc (.int .i64 b.Hard), .sc (.int .i64 b.Owner), .sc (.int .i64 b.Hits), .sc (.int .i64 b.Quiet), .sc (.int .i64 b.Age)] 0 none), (5, .ptr 1 0 none), (6, .ptr 0 0 none)]) (h' := [.box 34 [.arr .u64 12 b.Match.Value, .arr .u64 12 b.Match.Care, .sc (.int .i64 b.Prio), .sl 0 [] true, .sc (.int .i64 b.Idle), .sc (.int .i64 b.Hard), .sc (.int .i64 b.Owner), .sc (.int .i64 b.Hits), .sc (.int .i64 b.Quiet), .sc (.int .i64 b.Age)], .box 34 [.arr .u64 12 a.Match.Value, .arr .u64 12 a.Match.Care, .sc (.int .i64 a.Prio), .sl 0 [] true, .sc (.int .i64 a.Idle), .sc (.int .i64 a.Hard), .sc (.int .i64 a.Owner), .sc (.int .i64 a.Hits), .sc (.int .i64 a.Quiet), .sc (.int .i64 a.Age)]]) (by kernel_rfl) ?_
    refine AR.reg hm rule_Equal_k2 (by kernel_rfl) ?_
    refine DK.seg hG 4 [5, 6, 12, 14] (t' := [(5, .ptr 1 0 none), (6, .ptr 0 0 none), (12, .sl 42 (List.map Act.av a.Acts) false), (14, .sl 42 (List.map Act.av b.Acts) false)]) (h' := [.box 34 [.arr .u64 12 b.Match.Value, .arr .u64 12 b.Match.Care, .sc (.int .i64 b.Prio), .sl 0 [] true, .sc (.int .i64 b.Idle), .sc (.int .i64 b.Hard), .sc (.int .i64 b.Owner), .sc (.int .i64 b.Hits), .sc (.int .i64 b.Quiet), .sc (.int .i64 b.Age)], .box 34 [.arr .u64 12 a.Match.Value, .arr .u64 12 a.Match.Care, .sc (.int .i64 a.Prio), .sl 0 [] true, .sc (.int .i64 a.Idle), .sc (.int .i64 a.Hard), .sc (.int .i64 a.Owner), .sc (.int .i64 a.Hits), .sc (.int .i64 a.Quiet), .sc (.int .i64 a.Age)]]) (by kernel_rfl) rfl ?_
    refine DK.op' [5, 6, 15] (t' := [(5, .ptr 1 0 none), (6, .ptr 0 0 none), (15, .sc (.bool (act_Same a.Acts b.Acts)))]) (h' := [.box 34 [.arr .u64 12 b.Match.Value, .arr .u64 12 b.Match.Care, .sc (.int .i64 b.Prio), .sl 0 [] true, .sc (.int .i64 b.Idle), .sc (.int .i64 b.Hard), .sc (.int .i64 b.Owner), .sc (.int .i64 b.Hits), .sc (.int .i64 b.Quiet), .sc (.int .i64 b.Age)], .box 34 [.arr .u64 12 a.Match.Value, .arr .u64 12 a.Match.Care, .sc (.int .i64 a.Prio), .sl 0 [] true, .sc (.int .i64 a.Idle), .sc (.int .i64 a.Hard), .sc (.int .i64 a.Owner), .sc (.int .i64 a.Hits), .sc (.int .i64 a.Quiet), .sc (.int .i64 a.Age)]]) (LSpec.callP' (act_Same_calls a.Acts b.Acts false false) (by kernel_rfl)) (by kernel_rfl) rfl (by kernel_rfl) rfl ?_
    refine DK.seg hG 1 [5, 6, 16] (t' := [(5, .ptr 1 0 none), (6, .ptr 0 0 none), (16, .sc (.bool (act_Same a.Acts b.Acts)))]) (h' := [.box 34 [.arr .u64 12 b.Match.Value, .arr .u64 12 b.Match.Care, .sc (.int .i64 b.Prio), .sl 0 [] true, .sc (.int .i64 b.Idle), .sc (.int .i64 b.Hard), .sc (.int .i64 b.Owner), .sc (.int .i64 b.Hits), .sc (.int .i64 b.Quiet), .sc (.int .i64 b.Age)], .box 34 [.arr .u64 12 a.Match.Value, .arr .u64 12 a.Match.Care, .sc (.int .i64 a.Prio), .sl 0 [] true, .sc (.int .i64 a.Idle), .sc (.int .i64 a.Hard), .sc (.int .i64 a.Owner), .sc (.int .i64 a.Hits), .sc (.int .i64 a.Quiet), .sc (.int .i64 a.Age)]]) (by kernel_rfl) rfl ?_
    refine DK.mux 16 (act_Same a.Acts b.Acts) (j := 10) (h' := [.box 34 [.arr .u64 12 b.Match.Value, .arr .u64 12 b.Match.Care, .sc (.int .i64 b.Prio), .sl 0 [] true, .sc (.int .i64 b.Idle), .sc (.int .i64 b.Hard), .sc (.int .i64 b.Owner), .sc (.int .i64 b.Hits), .sc (.int .i64 b.Quiet), .sc (.int .i64 b.Age)], .box 34 [.arr .u64 12 a.Match.Value, .arr .u64 12 a.Match.Care, .sc (.int .i64 a.Prio), .sl 0 [] true, .sc (.int .i64 a.Idle), .sc (.int .i64 a.Hard), .sc (.int .i64 a.Owner), .sc (.int .i64 a.Hits), .sc (.int .i64 a.Quiet), .sc (.int .i64 a.Age)]]) (by kernel_rfl) (fun z => [(5, .ptr 1 0 none), (6, .ptr 0 0 none), (20, .sc (.bool (z && (rule_Key ({ a with Acts := [] } : Rule) ({ b with Acts := [] } : Rule)))))]) ?J8 (fun hb J => ?ht8) (fun hb J => ?hf8)
    case ht8 =>
      refine DK.seg hG 2 [5, 6, 16, 17, 18] (t' := [(5, .ptr 1 0 none), (6, .ptr 0 0 none), (16, .sc (.bool true)), (17, .agg [.arr .u64 12 a.Match.Value, .arr .u64 12 a.Match.Care, .sc (.int .i64 a.Prio), .sl 0 [] true, .sc (.int .i64 a.Idle), .sc (.int .i64 a.Hard), .sc (.int .i64 a.Owner), .sc (.int .i64 a.Hits), .sc (.int .i64 a.Quiet), .sc (.int .i64 a.Age)]), (18, .agg [.arr .u64 12 b.Match.Value, .arr .u64 12 b.Match.Care, .sc (.int .i64 b.Prio), .sl 0 [] true, .sc (.int .i64 b.Idle), .sc (.int .i64 b.Hard), .sc (.int .i64 b.Owner), .sc (.int .i64 b.Hits), .sc (.int .i64 b.Quiet), .sc (.int .i64 b.Age)])]) (h' := [.box 34 [.arr .u64 12 b.Match.Value, .arr .u64 12 b.Match.Care, .sc (.int .i64 b.Prio), .sl 0 [] true, .sc (.int .i64 b.Idle), .sc (.int .i64 b.Hard), .sc (.int .i64 b.Owner), .sc (.int .i64 b.Hits), .sc (.int .i64 b.Quiet), .sc (.int .i64 b.Age)], .box 34 [.arr .u64 12 a.Match.Value, .arr .u64 12 a.Match.Care, .sc (.int .i64 a.Prio), .sl 0 [] true, .sc (.int .i64 a.Idle), .sc (.int .i64 a.Hard), .sc (.int .i64 a.Owner), .sc (.int .i64 a.Hits), .sc (.int .i64 a.Quiet), .sc (.int .i64 a.Age)]]) (by kernel_rfl) rfl ?_
      refine DK.op' [5, 6, 16, 19] (t' := [(5, .ptr 1 0 none), (6, .ptr 0 0 none), (16, .sc (.bool true)), (19, .sc (.bool (rule_Key ({ a with Acts := [] } : Rule) ({ b with Acts := [] } : Rule))))]) (h' := [.box 34 [.arr .u64 12 b.Match.Value, .arr .u64 12 b.Match.Care, .sc (.int .i64 b.Prio), .sl 0 [] true, .sc (.int .i64 b.Idle), .sc (.int .i64 b.Hard), .sc (.int .i64 b.Owner), .sc (.int .i64 b.Hits), .sc (.int .i64 b.Quiet), .sc (.int .i64 b.Age)], .box 34 [.arr .u64 12 a.Match.Value, .arr .u64 12 a.Match.Care, .sc (.int .i64 a.Prio), .sl 0 [] true, .sc (.int .i64 a.Idle), .sc (.int .i64 a.Hard), .sc (.int .i64 a.Owner), .sc (.int .i64 a.Hits), .sc (.int .i64 a.Quiet), .sc (.int .i64 a.Age)]]) (LSpec.callP' (ACalls.wk (aas := [.agg [.arr .u64 12 a.Match.Value, .arr .u64 12 a.Match.Care, .sc (.int .i64 a.Prio), .sl 0 [] true, .sc (.int .i64 a.Idle), .sc (.int .i64 a.Hard), .sc (.int .i64 a.Owner), .sc (.int .i64 a.Hits), .sc (.int .i64 a.Quiet), .sc (.int .i64 a.Age)], .agg [.arr .u64 12 b.Match.Value, .arr .u64 12 b.Match.Care, .sc (.int .i64 b.Prio), .sl 0 [] true, .sc (.int .i64 b.Idle), .sc (.int .i64 b.Hard), .sc (.int .i64 b.Owner), .sc (.int .i64 b.Hits), .sc (.int .i64 b.Quiet), .sc (.int .i64 b.Age)]]) (Wks.cons (WkV.agg (WkL.cons (Wk1.refl _) (WkL.cons (Wk1.refl _) (WkL.cons (Wk1.refl _) (WkL.cons (Wk1.nil 42 false) (WkL.cons (Wk1.refl _) (WkL.cons (Wk1.refl _) (WkL.cons (Wk1.refl _) (WkL.cons (Wk1.refl _) (WkL.cons (Wk1.refl _) (WkL.cons (Wk1.refl _) WkL.nil))))))))))) trivial trivial (Wks.cons (WkV.agg (WkL.cons (Wk1.refl _) (WkL.cons (Wk1.refl _) (WkL.cons (Wk1.refl _) (WkL.cons (Wk1.nil 42 false) (WkL.cons (Wk1.refl _) (WkL.cons (Wk1.refl _) (WkL.cons (Wk1.refl _) (WkL.cons (Wk1.refl _) (WkL.cons (Wk1.refl _) (WkL.cons (Wk1.refl _) WkL.nil))))))))))) trivial trivial Wks.nil)) (rule_Key_calls ({ a with Acts := [] } : Rule) ({ b with Acts := [] } : Rule))) (by kernel_rfl)) (by kernel_rfl) rfl (by kernel_rfl) rfl ?_
      exact DK.seg hG 1 [5, 6, 20] (by kernel_rfl) rfl J
    case hf8 =>
      exact DK.seg hG 4 [5, 6, 20] (by kernel_rfl) rfl J
    refine DK.seg hG 1 [5, 6, 21] (t' := [(5, .ptr 1 0 none), (6, .ptr 0 0 none), (21, .sc (.bool ((act_Same a.Acts b.Acts) && (rule_Key ({ a with Acts := [] } : Rule) ({ b with Acts := [] } : Rule)))))]) (h' := [.box 34 [.arr .u64 12 b.Match.Value, .arr .u64 12 b.Match.Care, .sc (.int .i64 b.Prio), .sl 0 [] true, .sc (.int .i64 b.Idle), .sc (.int .i64 b.Hard), .sc (.int .i64 b.Owner), .sc (.int .i64 b.Hits), .sc (.int .i64 b.Quiet), .sc (.int .i64 b.Age)], .box 34 [.arr .u64 12 a.Match.Value, .arr .u64 12 a.Match.Care, .sc (.int .i64 a.Prio), .sl 0 [] true, .sc (.int .i64 a.Idle), .sc (.int .i64 a.Hard), .sc (.int .i64 a.Owner), .sc (.int .i64 a.Hits), .sc (.int .i64 a.Quiet), .sc (.int .i64 a.Age)]]) (by kernel_rfl) rfl ?_
    refine DK.mux 21 ((act_Same a.Acts b.Acts) && (rule_Key ({ a with Acts := [] } : Rule) ({ b with Acts := [] } : Rule))) (j := 17) (h' := [.box 34 [.arr .u64 12 b.Match.Value, .arr .u64 12 b.Match.Care, .sc (.int .i64 b.Prio), .sl 0 [] true, .sc (.int .i64 b.Idle), .sc (.int .i64 b.Hard), .sc (.int .i64 b.Owner), .sc (.int .i64 b.Hits), .sc (.int .i64 b.Quiet), .sc (.int .i64 b.Age)], .box 34 [.arr .u64 12 a.Match.Value, .arr .u64 12 a.Match.Care, .sc (.int .i64 a.Prio), .sl 0 [] true, .sc (.int .i64 a.Idle), .sc (.int .i64 a.Hard), .sc (.int .i64 a.Owner), .sc (.int .i64 a.Hits), .sc (.int .i64 a.Quiet), .sc (.int .i64 a.Age)]]) (by kernel_rfl) (fun z => [(5, .ptr 1 0 none), (6, .ptr 0 0 none), (27, .sc (.bool (z && (a.Idle == b.Idle))))]) ?J9 (fun hb J => ?ht9) (fun hb J => ?hf9)
    case ht9 =>
      exact DK.seg hG 6 [5, 6, 27] (by kernel_rfl) rfl J
    case hf9 =>
      exact DK.seg hG 6 [5, 6, 27] (by kernel_rfl) rfl J
    refine DK.seg hG 1 [5, 6, 28] (t' := [(5, .ptr 1 0 none), (6, .ptr 0 0 none), (28, .sc (.bool (((act_Same a.Acts b.Acts) && (rule_Key ({ a with Acts := [] } : Rule) ({ b with Acts := [] } : Rule))) && (a.Idle == b.Idle))))]) (h' := [.box 34 [.arr .u64 12 b.Match.Value, .arr .u64 12 b.Match.Care, .sc (.int .i64 b.Prio), .sl 0 [] true, .sc (.int .i64 b.Idle), .sc (.int .i64 b.Hard), .sc (.int .i64 b.Owner), .sc (.int .i64 b.Hits), .sc (.int .i64 b.Quiet), .sc (.int .i64 b.Age)], .box 34 [.arr .u64 12 a.Match.Value, .arr .u64 12 a.Match.Care, .sc (.int .i64 a.Prio), .sl 0 [] true, .sc (.int .i64 a.Idle), .sc (.int .i64 a.Hard), .sc (.int .i64 a.Owner), .sc (.int .i64 a.Hits), .sc (.int .i64 a.Quiet), .sc (.int .i64 a.Age)]]) (by kernel_rfl) rfl ?_
    refine DK.mux 28 (((act_Same a.Acts b.Acts) && (rule_Key ({ a with Acts := [] } : Rule) ({ b with Acts := [] } : Rule))) && (a.Idle == b.Idle)) (j := 24) (h' := [.box 34 [.arr .u64 12 b.Match.Value, .arr .u64 12 b.Match.Care, .sc (.int .i64 b.Prio), .sl 0 [] true, .sc (.int .i64 b.Idle), .sc (.int .i64 b.Hard), .sc (.int .i64 b.Owner), .sc (.int .i64 b.Hits), .sc (.int .i64 b.Quiet), .sc (.int .i64 b.Age)], .box 34 [.arr .u64 12 a.Match.Value, .arr .u64 12 a.Match.Care, .sc (.int .i64 a.Prio), .sl 0 [] true, .sc (.int .i64 a.Idle), .sc (.int .i64 a.Hard), .sc (.int .i64 a.Owner), .sc (.int .i64 a.Hits), .sc (.int .i64 a.Quiet), .sc (.int .i64 a.Age)]]) (by kernel_rfl) (fun z => [(5, .ptr 1 0 none), (6, .ptr 0 0 none), (34, .sc (.bool (z && (a.Hard == b.Hard))))]) ?J10 (fun hb J => ?ht10) (fun hb J => ?hf10)
    case ht10 =>
      exact DK.seg hG 6 [5, 6, 34] (by kernel_rfl) rfl J
    case hf10 =>
      exact DK.seg hG 6 [5, 6, 34] (by kernel_rfl) rfl J
    refine DK.seg hG 1 [5, 6, 35] (t' := [(5, .ptr 1 0 none), (6, .ptr 0 0 none), (35, .sc (.bool ((((act_Same a.Acts b.Acts) && (rule_Key ({ a with Acts := [] } : Rule) ({ b with Acts := [] } : Rule))) && (a.Idle == b.Idle)) && (a.Hard == b.Hard))))]) (h' := [.box 34 [.arr .u64 12 b.Match.Value, .arr .u64 12 b.Match.Care, .sc (.int .i64 b.Prio), .sl 0 [] true, .sc (.int .i64 b.Idle), .sc (.int .i64 b.Hard), .sc (.int .i64 b.Owner), .sc (.int .i64 b.Hits), .sc (.int .i64 b.Quiet), .sc (.int .i64 b.Age)], .box 34 [.arr .u64 12 a.Match.Value, .arr .u64 12 a.Match.Care, .sc (.int .i64 a.Prio), .sl 0 [] true, .sc (.int .i64 a.Idle), .sc (.int .i64 a.Hard), .sc (.int .i64 a.Owner), .sc (.int .i64 a.Hits), .sc (.int .i64 a.Quiet), .sc (.int .i64 a.Age)]]) (by kernel_rfl) rfl ?_
    refine DK.mux 35 ((((act_Same a.Acts b.Acts) && (rule_Key ({ a with Acts := [] } : Rule) ({ b with Acts := [] } : Rule))) && (a.Idle == b.Idle)) && (a.Hard == b.Hard)) (j := 31) (h' := [.box 34 [.arr .u64 12 b.Match.Value, .arr .u64 12 b.Match.Care, .sc (.int .i64 b.Prio), .sl 0 [] true, .sc (.int .i64 b.Idle), .sc (.int .i64 b.Hard), .sc (.int .i64 b.Owner), .sc (.int .i64 b.Hits), .sc (.int .i64 b.Quiet), .sc (.int .i64 b.Age)], .box 34 [.arr .u64 12 a.Match.Value, .arr .u64 12 a.Match.Care, .sc (.int .i64 a.Prio), .sl 0 [] true, .sc (.int .i64 a.Idle), .sc (.int .i64 a.Hard), .sc (.int .i64 a.Owner), .sc (.int .i64 a.Hits), .sc (.int .i64 a.Quiet), .sc (.int .i64 a.Age)]]) (by kernel_rfl) (fun z => [(5, .ptr 1 0 none), (6, .ptr 0 0 none), (41, .sc (.bool (z && (a.Owner == b.Owner))))]) ?J11 (fun hb J => ?ht11) (fun hb J => ?hf11)
    case ht11 =>
      exact DK.seg hG 6 [5, 6, 41] (by kernel_rfl) rfl J
    case hf11 =>
      exact DK.seg hG 6 [5, 6, 41] (by kernel_rfl) rfl J
    refine DK.seg hG 1 [5, 6, 42] (t' := [(5, .ptr 1 0 none), (6, .ptr 0 0 none), (42, .sc (.bool (((((act_Same a.Acts b.Acts) && (rule_Key ({ a with Acts := [] } : Rule) ({ b with Acts := [] } : Rule))) && (a.Idle == b.Idle)) && (a.Hard == b.Hard)) && (a.Owner == b.Owner))))]) (h' := [.box 34 [.arr .u64 12 b.Match.Value, .arr .u64 12 b.Match.Care, .sc (.int .i64 b.Prio), .sl 0 [] true, .sc (.int .i64 b.Idle), .sc (.int .i64 b.Hard), .sc (.int .i64 b.Owner), .sc (.int .i64 b.Hits), .sc (.int .i64 b.Quiet), .sc (.int .i64 b.Age)], .box 34 [.arr .u64 12 a.Match.Value, .arr .u64 12 a.Match.Care, .sc (.int .i64 a.Prio), .sl 0 [] true, .sc (.int .i64 a.Idle), .sc (.int .i64 a.Hard), .sc (.int .i64 a.Owner), .sc (.int .i64 a.Hits), .sc (.int .i64 a.Quiet), .sc (.int .i64 a.Age)]]) (by kernel_rfl) rfl ?_
    refine DK.mux 42 (((((act_Same a.Acts b.Acts) && (rule_Key ({ a with Acts := [] } : Rule) ({ b with Acts := [] } : Rule))) && (a.Idle == b.Idle)) && (a.Hard == b.Hard)) && (a.Owner == b.Owner)) (j := 38) (h' := [.box 34 [.arr .u64 12 b.Match.Value, .arr .u64 12 b.Match.Care, .sc (.int .i64 b.Prio), .sl 0 [] true, .sc (.int .i64 b.Idle), .sc (.int .i64 b.Hard), .sc (.int .i64 b.Owner), .sc (.int .i64 b.Hits), .sc (.int .i64 b.Quiet), .sc (.int .i64 b.Age)], .box 34 [.arr .u64 12 a.Match.Value, .arr .u64 12 a.Match.Care, .sc (.int .i64 a.Prio), .sl 0 [] true, .sc (.int .i64 a.Idle), .sc (.int .i64 a.Hard), .sc (.int .i64 a.Owner), .sc (.int .i64 a.Hits), .sc (.int .i64 a.Quiet), .sc (.int .i64 a.Age)]]) (by kernel_rfl) (fun z => [(5, .ptr 1 0 none), (6, .ptr 0 0 none), (48, .sc (.bool (z && (a.Hits == b.Hits))))]) ?J12 (fun hb J => ?ht12) (fun hb J => ?hf12)
    case ht12 =>
      exact DK.seg hG 6 [5, 6, 48] (by kernel_rfl) rfl J
    case hf12 =>
      exact DK.seg hG 6 [5, 6, 48] (by kernel_rfl) rfl J
    refine DK.seg hG 1 [5, 6, 49] (t' := [(5, .ptr 1 0 none), (6, .ptr 0 0 none), (49, .sc (.bool ((((((act_Same a.Acts b.Acts) && (rule_Key ({ a with Acts := [] } : Rule) ({ b with Acts := [] } : Rule))) && (a.Idle == b.Idle)) && (a.Hard == b.Hard)) && (a.Owner == b.Owner)) && (a.Hits == b.Hits))))]) (h' := [.box 34 [.arr .u64 12 b.Match.Value, .arr .u64 12 b.Match.Care, .sc (.int .i64 b.Prio), .sl 0 [] true, .sc (.int .i64 b.Idle), .sc (.int .i64 b.Hard), .sc (.int .i64 b.Owner), .sc (.int .i64 b.Hits), .sc (.int .i64 b.Quiet), .sc (.int .i64 b.Age)], .box 34 [.arr .u64 12 a.Match.Value, .arr .u64 12 a.Match.Care, .sc (.int .i64 a.Prio), .sl 0 [] true, .sc (.int .i64 a.Idle), .sc (.int .i64 a.Hard), .sc (.int .i64 a.Owner), .sc (.int .i64 a.Hits), .sc (.int .i64 a.Quiet), .sc (.int .i64 a.Age)]]) (by kernel_rfl) rfl ?_
    refine DK.mux 49 ((((((act_Same a.Acts b.Acts) && (rule_Key ({ a with Acts := [] } : Rule) ({ b with Acts := [] } : Rule))) && (a.Idle == b.Idle)) && (a.Hard == b.Hard)) && (a.Owner == b.Owner)) && (a.Hits == b.Hits)) (j := 45) (h' := [.box 34 [.arr .u64 12 b.Match.Value, .arr .u64 12 b.Match.Care, .sc (.int .i64 b.Prio), .sl 0 [] true, .sc (.int .i64 b.Idle), .sc (.int .i64 b.Hard), .sc (.int .i64 b.Owner), .sc (.int .i64 b.Hits), .sc (.int .i64 b.Quiet), .sc (.int .i64 b.Age)], .box 34 [.arr .u64 12 a.Match.Value, .arr .u64 12 a.Match.Care, .sc (.int .i64 a.Prio), .sl 0 [] true, .sc (.int .i64 a.Idle), .sc (.int .i64 a.Hard), .sc (.int .i64 a.Owner), .sc (.int .i64 a.Hits), .sc (.int .i64 a.Quiet), .sc (.int .i64 a.Age)]]) (by kernel_rfl) (fun z => [(5, .ptr 1 0 none), (6, .ptr 0 0 none), (55, .sc (.bool (z && (a.Quiet == b.Quiet))))]) ?J13 (fun hb J => ?ht13) (fun hb J => ?hf13)
    case ht13 =>
      exact DK.seg hG 6 [5, 6, 55] (by kernel_rfl) rfl J
    case hf13 =>
      exact DK.seg hG 6 [5, 6, 55] (by kernel_rfl) rfl J
    refine DK.seg hG 1 [5, 6, 56] (t' := [(5, .ptr 1 0 none), (6, .ptr 0 0 none), (56, .sc (.bool (((((((act_Same a.Acts b.Acts) && (rule_Key ({ a with Acts := [] } : Rule) ({ b with Acts := [] } : Rule))) && (a.Idle == b.Idle)) && (a.Hard == b.Hard)) && (a.Owner == b.Owner)) && (a.Hits == b.Hits)) && (a.Quiet == b.Quiet))))]) (h' := [.box 34 [.arr .u64 12 b.Match.Value, .arr .u64 12 b.Match.Care, .sc (.int .i64 b.Prio), .sl 0 [] true, .sc (.int .i64 b.Idle), .sc (.int .i64 b.Hard), .sc (.int .i64 b.Owner), .sc (.int .i64 b.Hits), .sc (.int .i64 b.Quiet), .sc (.int .i64 b.Age)], .box 34 [.arr .u64 12 a.Match.Value, .arr .u64 12 a.Match.Care, .sc (.int .i64 a.Prio), .sl 0 [] true, .sc (.int .i64 a.Idle), .sc (.int .i64 a.Hard), .sc (.int .i64 a.Owner), .sc (.int .i64 a.Hits), .sc (.int .i64 a.Quiet), .sc (.int .i64 a.Age)]]) (by kernel_rfl) rfl ?_
    refine DK.mux 56 (((((((act_Same a.Acts b.Acts) && (rule_Key ({ a with Acts := [] } : Rule) ({ b with Acts := [] } : Rule))) && (a.Idle == b.Idle)) && (a.Hard == b.Hard)) && (a.Owner == b.Owner)) && (a.Hits == b.Hits)) && (a.Quiet == b.Quiet)) (j := 52) (h' := [.box 34 [.arr .u64 12 b.Match.Value, .arr .u64 12 b.Match.Care, .sc (.int .i64 b.Prio), .sl 0 [] true, .sc (.int .i64 b.Idle), .sc (.int .i64 b.Hard), .sc (.int .i64 b.Owner), .sc (.int .i64 b.Hits), .sc (.int .i64 b.Quiet), .sc (.int .i64 b.Age)], .box 34 [.arr .u64 12 a.Match.Value, .arr .u64 12 a.Match.Care, .sc (.int .i64 a.Prio), .sl 0 [] true, .sc (.int .i64 a.Idle), .sc (.int .i64 a.Hard), .sc (.int .i64 a.Owner), .sc (.int .i64 a.Hits), .sc (.int .i64 a.Quiet), .sc (.int .i64 a.Age)]]) (by kernel_rfl) (fun z => [(62, .sc (.bool (z && (a.Age == b.Age))))]) ?J14 (fun hb J => ?ht14) (fun hb J => ?hf14)
    case ht14 =>
      exact DK.seg hG 6 [62] (by kernel_rfl) rfl J
    case hf14 =>
      exact DK.seg hG 6 [62] (by kernel_rfl) rfl J
    refine DK.seg hG 1 [4] (t' := [(4, .sc (.bool ((((((((act_Same a.Acts b.Acts) && (rule_Key ({ a with Acts := [] } : Rule) ({ b with Acts := [] } : Rule))) && (a.Idle == b.Idle)) && (a.Hard == b.Hard)) && (a.Owner == b.Owner)) && (a.Hits == b.Hits)) && (a.Quiet == b.Quiet)) && (a.Age == b.Age))))]) (h' := [.box 34 [.arr .u64 12 b.Match.Value, .arr .u64 12 b.Match.Care, .sc (.int .i64 b.Prio), .sl 0 [] true, .sc (.int .i64 b.Idle), .sc (.int .i64 b.Hard), .sc (.int .i64 b.Owner), .sc (.int .i64 b.Hits), .sc (.int .i64 b.Quiet), .sc (.int .i64 b.Age)], .box 34 [.arr .u64 12 a.Match.Value, .arr .u64 12 a.Match.Care, .sc (.int .i64 a.Prio), .sl 0 [] true, .sc (.int .i64 a.Idle), .sc (.int .i64 a.Hard), .sc (.int .i64 a.Owner), .sc (.int .i64 a.Hits), .sc (.int .i64 a.Quiet), .sc (.int .i64 a.Age)]]) (by kernel_rfl) rfl ?_
    refine DK.done (by kernel_rfl) (by kernel_rfl) ?_
    subst H
    exact AR.ret0 (fn := Try.f46) hG Try.func46 (by kernel_rfl) hc0 (r0 := .sc (.bool ((((((((act_Same a.Acts b.Acts) && (rule_Key ({ a with Acts := [] } : Rule) ({ b with Acts := [] } : Rule))) && (a.Idle == b.Idle)) && (a.Hard == b.Hard)) && (a.Owner == b.Owner)) && (a.Hits == b.Hits)) && (a.Quiet == b.Quiet)) && (a.Age == b.Age)))) (by kernel_rfl) (WkV.refl _)
theorem rule_Equal_calls (a : Rule) (b : Rule) : ACalls Try.prog tab.S 46 [Rule.av a, Rule.av b] [] (.sc (.bool (rule_Equal a b))) [] := rule_Equal_walk a b _ rfl

theorem rule_Equal_eq (a b : Rule) : rule_Equal a b = (a == b) := by
  obtain ⟨⟨v, c⟩, p, ac, i1, h1, o1, h2, q1, g1⟩ := a
  obtain ⟨⟨v', c'⟩, p', ac', i1', h1', o1', h2', q1', g1'⟩ := b
  rw [rule_Equal, act_Same, rule_Key, Bool.eq_iff_iff]
  simp only [Bool.and_eq_true, beq_iff_eq, Rule.mk.injEq, Cube.mk.injEq]
  constructor
  · rintro ⟨⟨⟨⟨⟨⟨⟨a1, ⟨a2, a3⟩, a4⟩, a5⟩, a6⟩, a7⟩, a8⟩, a9⟩, a10⟩
    exact ⟨⟨a2, a3⟩, a4, a1, a5, a6, a7, a8, a9, a10⟩
  · rintro ⟨⟨a2, a3⟩, a4, a1, a5, a6, a7, a8, a9, a10⟩
    exact ⟨⟨⟨⟨⟨⟨⟨a1, ⟨a2, a3⟩, a4⟩, a5⟩, a6⟩, a7⟩, a8⟩, a9⟩, a10⟩

/-! ### slices.EqualFunc: function 45 -/
noncomputable def slices_EqualFunc__api_Rule_F : Go.Sh.Fn := ⟨45, bodyOf Try.f45, 32⟩
def slices_EqualFunc__api_Rule_k2 : List Kd := [.pure, .read, .read, .pure, .pure]
def slices_EqualFunc__api_Rule_k1 : List Kd := [.pure, .pure, .pure, .pure, .loud, .loud]
def slices_EqualFunc__api_Rule_k0 : List Kd := [.pure, .pure, .pure, .loud, .pure, .loud]
def slices_EqualFunc__api_Rule_l0s (s2 : List Rule) (eq : Rule → Rule → Bool) : List Rule → Nat → Option (Sum (Unit) (Bool))
  | [], t17 =>
    some (.inl ())
  | x :: rest, t17 =>
    (ixO s2 ((t17 : Nat) : Int)).bind fun x1 =>
    (bif (!(eq x x1)) then
      some (.inr false)
    else
      slices_EqualFunc__api_Rule_l0s s2 eq rest (t17 + 1) )
theorem slices_EqualFunc__api_Rule_l0_walk (s1 : List Rule) (s2 : List Rule) (F_eq : FuncId) (C_eq : List AV) (eq : Rule → Rule → Bool) (P_eq : plainL C_eq = true) (O_eq : C_eq.all oneA = true) (H_eq : ∀ (y0 : Rule) (y1 : Rule), ACalls Try.prog tab.S F_eq ([Rule.av y0, Rule.av y1] ++ C_eq) [] (.sc (.bool (eq y0 y1))) []) (f_s1 : Bool) (f_s2 : Bool) (r : Bool) (c0 : Ctx) (hc0 : c0.m.length = 0) (res : Sum (Unit) (Bool)) (J : ∀ w : Unit, res = .inl w → AR Try.prog tab slices_EqualFunc__api_Rule_F c0 (Rp tab.S c0 (.sc (.bool r)) []) [.code [1, 1, 1]] [] []) (Jr : ∀ w, res = .inr w → w = r) :
    ∀ (rest : List Rule) (t17 : Nat) (hd : s1.drop t17 = rest) (H : slices_EqualFunc__api_Rule_l0s s2 eq rest t17 = some res), AR Try.prog tab slices_EqualFunc__api_Rule_F c0 (Rp tab.S c0 (.sc (.bool r)) []) [.code [1, 1, 0, 1, 0, 0], .loop [1, 1, 0, 1, 0], .blk 0, .code [1, 1, 1]] [(1, .sl 34 (List.map Rule.av s2) f_s2), (2, .fn F_eq C_eq), (15, .sl 34 (List.map Rule.av s1) f_s1), (16, .sc (.int .i64 (((List.map Rule.av s1).length : Nat) : Int))), (17, .sc (.int .i64 ((t17 : Nat) : Int)))] [] := by
  have hG := tab_ok
  have hm := mixed
  intro rest
  induction rest with
  | nil =>
    intro t17 hd  H
    rw [slices_EqualFunc__api_Rule_l0s] at H
    refine AR.facts 15 rfl fun hf => ?_
    have hlen : s1.length ≤ 9223372036854775807 := by have hq := len_ok hf.2.1; rw [List.length_map] at hq; exact hq
    have hge : s1.length ≤ t17 := List.drop_eq_nil_iff.1 hd
    have hc : (decide (((t17 : Nat) : Int) < (((List.map Rule.av s1).length : Nat) : Int))) = false := by rw [List.length_map]; exact decide_eq_false (by omega)
    refine AR.seg hG hm 3 [1, 2, 15, 16, 17, 18] (k' := [.code [1, 1, 0, 1, 0, 0, 1, 0], .code [1, 1, 0, 1, 0, 0, 1, 1], .loop [1, 1, 0, 1, 0], .blk 0, .code [1, 1, 1]]) (t' := [(1, .sl 34 (List.map Rule.av s2) f_s2), (2, .fn F_eq C_eq), (15, .sl 34 (List.map Rule.av s1) f_s1), (16, .sc (.int .i64 (((List.map Rule.av s1).length : Nat) : Int))), (17, .sc (.int .i64 ((t17 : Nat) : Int))), (18, .sc (.bool (decide (((t17 : Nat) : Int) < (((List.map Rule.av s1).length : Nat) : Int)))))]) (h' := []) (by kernel_rfl) ?_
    refine AR.cond (.tmp 18) (decide (((t17 : Nat) : Int) < (((List.map Rule.av s1).length : Nat) : Int))) (by kernel_rfl) (by kernel_rfl) (fun hb => ?ht8) (fun hb => ?hf8)
    case ht8 => exact absurd (hb.symm.trans hc) (by decide)
    case hf8 =>
      refine AR.seg hG hm 1 [] (k' := [.code [1, 1, 1]]) (t' := []) (h' := []) (by kernel_rfl) ?_
      refine AR.keep [] (t' := []) (by kernel_rfl) ?_
      exact J () (Option.some.inj H).symm
  | cons x rest ih =>
    intro t17 hd  H
    rw [slices_EqualFunc__api_Rule_l0s] at H
    refine AR.facts 15 rfl fun hf => ?_
    have hlen : s1.length ≤ 9223372036854775807 := by have hq := len_ok hf.2.1; rw [List.length_map] at hq; exact hq
    obtain ⟨hlt, hv_t17, hd2⟩ := drop_cons hd
    have hc : (decide (((t17 : Nat) : Int) < (((List.map Rule.av s1).length : Nat) : Int))) = true := by rw [List.length_map]; exact decide_eq_true (by omega)
    have hw : IntKind.i64.wrap (((t17 : Nat) : Int) + 1) = ((t17 + 1 : Nat) : Int) := wrapI_succ (by omega)
    refine AR.seg hG hm 3 [1, 2, 15, 16, 17, 18] (k' := [.code [1, 1, 0, 1, 0, 0, 1, 0], .code [1, 1, 0, 1, 0, 0, 1, 1], .loop [1, 1, 0, 1, 0], .blk 0, .code [1, 1, 1]]) (t' := [(1, .sl 34 (List.map Rule.av s2) f_s2), (2, .fn F_eq C_eq), (15, .sl 34 (List.map Rule.av s1) f_s1), (16, .sc (.int .i64 (((List.map Rule.av s1).length : Nat) : Int))), (17, .sc (.int .i64 ((t17 : Nat) : Int))), (18, .sc (.bool (decide (((t17 : Nat) : Int) < (((List.map Rule.av s1).length : Nat) : Int)))))]) (h' := []) (by kernel_rfl) ?_
    refine AR.cond (.tmp 18) (decide (((t17 : Nat) : Int) < (((List.map Rule.av s1).length : Nat) : Int))) (by kernel_rfl) (by kernel_rfl) (fun hb => ?ht9) (fun hb => ?hf9)
    case ht9 =>
      refine AR.seg hG hm 4 [1, 2, 15, 16, 17] (k' := [.code [1, 1, 0, 1, 0, 0, 1, 1, 0, 0, 0], .code [1, 1, 0, 1, 0, 0, 1, 1, 0, 0, 1], .blk 1, .code [1, 1, 0, 1, 0, 0, 1, 1, 1], .loop [1, 1, 0, 1, 0], .blk 0, .code [1, 1, 1]]) (t' := [(1, .sl 34 (List.map Rule.av s2) f_s2), (2, .fn F_eq C_eq), (15, .sl 34 (List.map Rule.av s1) f_s1), (16, .sc (.int .i64 (((List.map Rule.av s1).length : Nat) : Int))), (17, .sc (.int .i64 ((t17 : Nat) : Int)))]) (h' := []) (by kernel_rfl) ?_
      refine AR.reg hm slices_EqualFunc__api_Rule_k0 (by kernel_rfl) ?_
      refine DK.seg hG 1 [1, 2, 15, 16, 17, 19] (t' := [(1, .sl 34 (List.map Rule.av s2) f_s2), (2, .fn F_eq C_eq), (15, .sl 34 (List.map Rule.av s1) f_s1), (16, .sc (.int .i64 (((List.map Rule.av s1).length : Nat) : Int))), (17, .sc (.int .i64 ((t17 : Nat) : Int))), (19, .sc (.int .i64 ((t17 : Nat) : Int)))]) (h' := []) (by kernel_rfl) rfl ?_
      refine DK.op' [1, 2, 15, 16, 17, 19, 20] (t' := [(1, .sl 34 (List.map Rule.av s2) f_s2), (2, .fn F_eq C_eq), (15, .sl 34 (List.map Rule.av s1) f_s1), (16, .sc (.int .i64 (((List.map Rule.av s1).length : Nat) : Int))), (17, .sc (.int .i64 ((t17 : Nat) : Int))), (19, .sc (.int .i64 ((t17 : Nat) : Int))), (20, .ep [.arr .u64 12 x.Match.Value, .arr .u64 12 x.Match.Care, .sc (.int .i64 x.Prio), .sl 42 (List.map Act.av x.Acts) false, .sc (.int .i64 x.Idle), .sc (.int .i64 x.Hard), .sc (.int .i64 x.Owner), .sc (.int .i64 x.Hits), .sc (.int .i64 x.Quiet), .sc (.int .i64 x.Age)] 0 none)]) (h' := []) (LSpec.index' (r := Rule.av x) (fs := [.arr .u64 12 x.Match.Value, .arr .u64 12 x.Match.Care, .sc (.int .i64 x.Prio), .sl 42 (List.map Act.av x.Acts) false, .sc (.int .i64 x.Idle), .sc (.int .i64 x.Hard), .sc (.int .i64 x.Owner), .sc (.int .i64 x.Hits), .sc (.int .i64 x.Quiet), .sc (.int .i64 x.Age)]) hG (rows := List.map Rule.av s1) (j := ((t17 : Nat) : Int)) (by kernel_rfl) (ixO_map hv_t17 _) (by kernel_rfl)) (by kernel_rfl) rfl (by kernel_rfl) rfl ?_
      refine DK.seg hG 4 [1, 2, 7, 8, 15, 16, 17] (t' := [(1, .sl 34 (List.map Rule.av s2) f_s2), (2, .fn F_eq C_eq), (7, .sc (.int .i64 ((t17 : Nat) : Int))), (8, .ptr 0 0 none), (15, .sl 34 (List.map Rule.av s1) f_s1), (16, .sc (.int .i64 (((List.map Rule.av s1).length : Nat) : Int))), (17, .sc (.int .i64 ((t17 : Nat) : Int)))]) (h' := [.box 34 (Rule.ch x)]) (by kernel_rfl) rfl ?_
      refine DK.done (by kernel_rfl) (by kernel_rfl) ?_
      refine AR.seg hG hm 1 [1, 2, 7, 8, 15, 16, 17] (k' := [.code [1, 1, 0, 1, 0, 0, 1, 1, 0, 0, 1, 0], .code [1, 1, 0, 1, 0, 0, 1, 1, 0, 0, 1, 1], .blk 1, .code [1, 1, 0, 1, 0, 0, 1, 1, 1], .loop [1, 1, 0, 1, 0], .blk 0, .code [1, 1, 1]]) (t' := [(1, .sl 34 (List.map Rule.av s2) f_s2), (2, .fn F_eq C_eq), (7, .sc (.int .i64 ((t17 : Nat) : Int))), (8, .ptr 0 0 none), (15, .sl 34 (List.map Rule.av s1) f_s1), (16, .sc (.int .i64 (((List.map Rule.av s1).length : Nat) : Int))), (17, .sc (.int .i64 ((t17 : Nat) : Int)))]) (h' := [.box 34 (Rule.ch x)]) (by kernel_rfl) ?_
      refine AR.reg hm slices_EqualFunc__api_Rule_k1 (by kernel_rfl) ?_
      refine DK.seg hG 2 [1, 2, 8, 15, 16, 17, 22, 23] (t' := [(1, .sl 34 (List.map Rule.av s2) f_s2), (2, .fn F_eq C_eq), (8, .ptr 0 0 none), (15, .sl 34 (List.map Rule.av s1) f_s1), (16, .sc (.int .i64 (((List.map Rule.av s1).length : Nat) : Int))), (17, .sc (.int .i64 ((t17 : Nat) : Int))), (22, .sl 34 (List.map Rule.av s2) f_s2), (23, .sc (.int .i64 ((t17 : Nat) : Int)))]) (h' := [.box 34 (Rule.ch x)]) (by kernel_rfl) rfl ?_
      obtain ⟨x1, hv, H⟩ := Option.bind_eq_some_iff.1 H
      refine DK.op' [1, 2, 8, 15, 16, 17, 24] (t' := [(1, .sl 34 (List.map Rule.av s2) f_s2), (2, .fn F_eq C_eq), (8, .ptr 0 0 none), (15, .sl 34 (List.map Rule.av s1) f_s1), (16, .sc (.int .i64 (((List.map Rule.av s1).length : Nat) : Int))), (17, .sc (.int .i64 ((t17 : Nat) : Int))), (24, .ep [.arr .u64 12 x1.Match.Value, .arr .u64 12 x1.Match.Care, .sc (.int .i64 x1.Prio), .sl 42 (List.map Act.av x1.Acts) false, .sc (.int .i64 x1.Idle), .sc (.int .i64 x1.Hard), .sc (.int .i64 x1.Owner), .sc (.int .i64 x1.Hits), .sc (.int .i64 x1.Quiet), .sc (.int .i64 x1.Age)] 0 none)]) (h' := [.box 34 (Rule.ch x)]) (LSpec.index' (r := Rule.av x1) (fs := [.arr .u64 12 x1.Match.Value, .arr .u64 12 x1.Match.Care, .sc (.int .i64 x1.Prio), .sl 42 (List.map Act.av x1.Acts) false, .sc (.int .i64 x1.Idle), .sc (.int .i64 x1.Hard), .sc (.int .i64 x1.Owner), .sc (.int .i64 x1.Hits), .sc (.int .i64 x1.Quiet), .sc (.int .i64 x1.Age)]) hG (rows := List.map Rule.av s2) (j := ((t17 : Nat) : Int)) (by kernel_rfl) (ixO_map hv _) (by kernel_rfl)) (by kernel_rfl) rfl (by kernel_rfl) rfl ?_
      refine DK.seg hG 3 [1, 2, 8, 9, 15, 16, 17] (t' := [(1, .sl 34 (List.map Rule.av s2) f_s2), (2, .fn F_eq C_eq), (8, .ptr 0 0 none), (9, .ptr 1 0 none), (15, .sl 34 (List.map Rule.av s1) f_s1), (16, .sc (.int .i64 (((List.map Rule.av s1).length : Nat) : Int))), (17, .sc (.int .i64 ((t17 : Nat) : Int)))]) (h' := [.box 34 (Rule.ch x), .box 34 (Rule.ch x1)]) (by kernel_rfl) rfl ?_
      refine DK.done (by kernel_rfl) (by kernel_rfl) ?_
      refine AR.seg hG hm 1 [1, 2, 8, 9, 15, 16, 17] (k' := [.code [1, 1, 0, 1, 0, 0, 1, 1, 0, 0, 1, 1, 0], .code [1, 1, 0, 1, 0, 0, 1, 1, 0, 0, 1, 1, 1], .blk 1, .code [1, 1, 0, 1, 0, 0, 1, 1, 1], .loop [1, 1, 0, 1, 0], .blk 0, .code [1, 1, 1]]) (t' := [(1, .sl 34 (List.map Rule.av s2) f_s2), (2, .fn F_eq C_eq), (8, .ptr 0 0 none), (9, .ptr 1 0 none), (15, .sl 34 (List.map Rule.av s1) f_s1), (16, .sc (.int .i64 (((List.map Rule.av s1).length : Nat) : Int))), (17, .sc (.int .i64 ((t17 : Nat) : Int)))]) (h' := [.box 34 (Rule.ch x), .box 34 (Rule.ch x1)]) (by kernel_rfl) ?_
      refine AR.reg hm slices_EqualFunc__api_Rule_k2 (by kernel_rfl) ?_
      refine DK.seg hG 3 [1, 2, 15, 16, 17, 26, 27, 28] (t' := [(1, .sl 34 (List.map Rule.av s2) f_s2), (2, .fn F_eq C_eq), (15, .sl 34 (List.map Rule.av s1) f_s1), (16, .sc (.int .i64 (((List.map Rule.av s1).length : Nat) : Int))), (17, .sc (.int .i64 ((t17 : Nat) : Int))), (26, .fn F_eq C_eq), (27, Rule.av x), (28, Rule.av x1)]) (h' := [.box 34 (Rule.ch x), .box 34 (Rule.ch x1)]) (by kernel_rfl) rfl ?_
      refine DK.op' [1, 2, 15, 16, 17, 29] (t' := [(1, .sl 34 (List.map Rule.av s2) f_s2), (2, .fn F_eq C_eq), (15, .sl 34 (List.map Rule.av s1) f_s1), (16, .sc (.int .i64 (((List.map Rule.av s1).length : Nat) : Int))), (17, .sc (.int .i64 ((t17 : Nat) : Int))), (29, .sc (.bool (eq x x1)))]) (h' := [.box 34 (Rule.ch x), .box 34 (Rule.ch x1)]) (LSpec.callFP' (H_eq x x1) (by kernel_rfl) P_eq O_eq) (by kernel_rfl) rfl (by kernel_rfl) rfl ?_
      refine DK.seg hG 1 [1, 2, 15, 16, 17, 30] (t' := [(1, .sl 34 (List.map Rule.av s2) f_s2), (2, .fn F_eq C_eq), (15, .sl 34 (List.map Rule.av s1) f_s1), (16, .sc (.int .i64 (((List.map Rule.av s1).length : Nat) : Int))), (17, .sc (.int .i64 ((t17 : Nat) : Int))), (30, .sc (.bool (!(eq x x1))))]) (h' := [.box 34 (Rule.ch x), .box 34 (Rule.ch x1)]) (by kernel_rfl) rfl ?_
      refine DK.done (by kernel_rfl) (by kernel_rfl) ?_
      refine AR.cond (.tmp 30) (!(eq x x1)) (by kernel_rfl) (by kernel_rfl) (fun hb => ?ht10) (fun hb => ?hf10)
      case ht10 =>
        replace H := cond_t hb H
        refine AR.seg hG hm 2 [6] (k' := [.code [1, 1, 0, 1, 0, 0, 1, 1, 0, 0, 1, 1, 1, 0, 1], .blk 1, .code [1, 1, 0, 1, 0, 0, 1, 1, 1], .loop [1, 1, 0, 1, 0], .blk 0, .code [1, 1, 1]]) (t' := [(6, .sc (.bool false))]) (h' := [.box 34 (Rule.ch x), .box 34 (Rule.ch x1)]) (by kernel_rfl) ?_
        obtain rfl := Option.some.inj H
        obtain rfl := Jr _ rfl
        exact AR.ret0 (fn := Try.f45) hG Try.func45 (by kernel_rfl) hc0 (r0 := .sc (.bool false)) (by kernel_rfl) (WkV.refl _)
      case hf10 =>
        replace H := cond_f hb H
        refine AR.seg hG hm 3 [1, 2, 15, 16, 17] (k' := [.loop [1, 1, 0, 1, 0], .blk 0, .code [1, 1, 1]]) (t' := [(1, .sl 34 (List.map Rule.av s2) f_s2), (2, .fn F_eq C_eq), (15, .sl 34 (List.map Rule.av s1) f_s1), (16, .sc (.int .i64 (((List.map Rule.av s1).length : Nat) : Int))), (17, .sc (.int .i64 (IntKind.i64.wrap (((t17 : Nat) : Int) + 1))))]) (h' := [.box 34 (Rule.ch x), .box 34 (Rule.ch x1)]) (by kernel_rfl) ?_
        refine AR.keep [1, 2, 15, 16, 17] (t' := [(1, .sl 34 (List.map Rule.av s2) f_s2), (2, .fn F_eq C_eq), (15, .sl 34 (List.map Rule.av s1) f_s1), (16, .sc (.int .i64 (((List.map Rule.av s1).length : Nat) : Int))), (17, .sc (.int .i64 (IntKind.i64.wrap (((t17 : Nat) : Int) + 1))))]) (by kernel_rfl) ?_
        refine AR.dropX 0 hc0 (h' := []) (by kernel_rfl) (.cons (by kernel_rfl) (.cons (below_fn P_eq) (.cons (by kernel_rfl) (.cons (by kernel_rfl) (.cons (by kernel_rfl) .nil))))) (by kernel_rfl) ?_
        refine AR.loop_round ?_
        rw [hw]
        exact ih (t17 + 1) hd2 H
    case hf9 => exact absurd (hc.symm.trans hb) (by decide)

def slices_EqualFunc__api_Rule_raw (s1 : List Rule) (s2 : List Rule) (eq : Rule → Rule → Bool) : Option (Bool) :=
  (bif ((((List.map Rule.av s1).length : Nat) : Int) != (((List.map Rule.av s2).length : Nat) : Int)) then
    some false
  else
    loopO (slices_EqualFunc__api_Rule_l0s s2 eq s1 0) fun v =>
    some true)
theorem slices_EqualFunc__api_Rule_walk (s1 : List Rule) (s2 : List Rule) (F_eq : FuncId) (C_eq : List AV) (eq : Rule → Rule → Bool) (P_eq : plainL C_eq = true) (O_eq : C_eq.all oneA = true) (H_eq : ∀ (y0 : Rule) (y1 : Rule), ACalls Try.prog tab.S F_eq ([Rule.av y0, Rule.av y1] ++ C_eq) [] (.sc (.bool (eq y0 y1))) []) (f_s1 : Bool) (f_s2 : Bool) (r : Bool) (H : slices_EqualFunc__api_Rule_raw s1 s2 eq = some r) :
    ACalls Try.prog tab.S 45 [.sl 34 (List.map Rule.av s1) f_s1, .sl 34 (List.map Rule.av s2) f_s2, .fn F_eq C_eq] [] (.sc (.bool r)) [] := by
  have hG := tab_ok
  have hm := mixed
  refine ACalls.of_AR (G := tab) slices_EqualFunc__api_Rule_F (fn := Try.f45) Try.func45 (by kernel_rfl) (by kernel_rfl) (by kernel_rfl) (Nat.le_of_ble_eq_true (by kernel_rfl)) ?_
  intro c0 hc0
  replace hc0 : c0.m.length = 0 := hc0
  rw [slices_EqualFunc__api_Rule_raw] at H
  refine AR.seg hG hm 5 [0, 1, 2, 14] (k' := [.code [1, 0, 1], .code [1, 1]]) (t' := [(0, .sl 34 (List.map Rule.av s1) f_s1), (1, .sl 34 (List.map Rule.av s2) f_s2), (2, .fn F_eq C_eq), (14, .sc (.bool ((((List.map Rule.av s1).length : Nat) : Int) != (((List.map Rule.av s2).length : Nat) : Int))))]) (h' := []) (by kernel_rfl) ?_
  refine AR.cond (.tmp 14) ((((List.map Rule.av s1).length : Nat) : Int) != (((List.map Rule.av s2).length : Nat) : Int)) (by kernel_rfl) (by kernel_rfl) (fun hb => ?ht1) (fun hb => ?hf1)
  case ht1 =>
    replace H := cond_t hb H
    refine AR.seg hG hm 2 [6] (k' := [.code [1, 0, 1, 0, 1], .code [1, 1]]) (t' := [(6, .sc (.bool false))]) (h' := []) (by kernel_rfl) ?_
    obtain rfl := Option.some.inj H
    exact AR.ret0 (fn := Try.f45) hG Try.func45 (by kernel_rfl) hc0 (r0 := .sc (.bool false)) (by kernel_rfl) (WkV.refl _)
  case hf1 =>
    replace H := cond_f hb H
    refine AR.seg hG hm 5 [1, 2, 15, 16, 17] (k' := [.code [1, 1, 0, 1, 0], .blk 0, .code [1, 1, 1]]) (t' := [(1, .sl 34 (List.map Rule.av s2) f_s2), (2, .fn F_eq C_eq), (15, .sl 34 (List.map Rule.av s1) f_s1), (16, .sc (.int .i64 (((List.map Rule.av s1).length : Nat) : Int))), (17, .sc (.int .i64 0))]) (h' := []) (by kernel_rfl) ?_
    rcases loopO_some H with ⟨v, hv, H⟩ | hv
    case inr =>
      refine AR.into (by kernel_rfl) ?_
      exact slices_EqualFunc__api_Rule_l0_walk s1 s2 F_eq C_eq eq P_eq O_eq H_eq f_s1 f_s2 _ c0 hc0 (.inr _) (fun _ e => by cases e) (fun _ e => (Sum.inr.inj e).symm) s1 0 rfl hv
    refine AR.into (by kernel_rfl) ?_
    refine slices_EqualFunc__api_Rule_l0_walk s1 s2 F_eq C_eq eq P_eq O_eq H_eq f_s1 f_s2 r c0 hc0 (.inl v) (fun w e => ?_) (fun _ e => by cases e) s1 0 rfl hv
    have e := Sum.inl.inj e
    subst e
    refine AR.seg hG hm 2 [6] (k' := [.code [1, 1, 1, 1]]) (t' := [(6, .sc (.bool true))]) (h' := []) (by kernel_rfl) ?_
    obtain rfl := Option.some.inj H
    exact AR.ret0 (fn := Try.f45) hG Try.func45 (by kernel_rfl) hc0 (r0 := .sc (.bool true)) (by kernel_rfl) (WkV.refl _)

theorem slices_EqualFunc__api_Rule_ok (s1 s2 : List Rule) (F_eq : FuncId) (C_eq : List AV) (eq : Rule → Rule → Bool) (P_eq : plainL C_eq = true) (O_eq : C_eq.all oneA = true) (H_eq : ∀ (y0 : Rule) (y1 : Rule), ACalls Try.prog tab.S F_eq ([Rule.av y0, Rule.av y1] ++ C_eq) [] (.sc (.bool (eq y0 y1))) []) (f_s1 f_s2 : Bool) :
    ACalls Try.prog tab.S 45 [.sl 34 (List.map Rule.av s1) f_s1, .sl 34 (List.map Rule.av s2) f_s2, .fn F_eq C_eq] [] (.sc (.bool (zipAll eq s1 s2))) [] := by
  refine slices_EqualFunc__api_Rule_walk s1 s2 F_eq C_eq eq P_eq O_eq H_eq f_s1 f_s2 _ ?_
  rw [slices_EqualFunc__api_Rule_raw, len_bne]
  by_cases h : s1.length = s2.length
  · simp only [h, decide_true, Bool.not_true, cond_false]
    rw [cmp_loop (v := false) (slices_EqualFunc__api_Rule_l0s s2 eq) s2 eq (fun _ => rfl) (fun x r i => by rw [slices_EqualFunc__api_Rule_l0s]) s1 0 (by omega), List.drop_zero]
    cases zipAll eq s1 s2 <;> rfl
  · rw [zipAll_ne eq h]
    simp only [h, decide_false, Bool.not_false, cond_true]

/-! ### podestaref04.Key: function 18 -/
noncomputable def podestaref04_Key_F : Go.Sh.Fn := ⟨18, bodyOf Try.f18, 17⟩
def podestaref04_Key_k0 : List Kd := [.pure, .read, .pure, .read, .pure, .pure, .pure, .read, .pure, .read, .pure, .pure, .pure]
def podestaref04_Key (a : Rule) (b : Rule) : Bool :=
  (((a.Match.Value == b.Match.Value) && (a.Match.Care == b.Match.Care)) && (a.Prio == b.Prio))
theorem podestaref04_Key_walk (a : Rule) (b : Rule) (r : Bool) (H : podestaref04_Key a b = r) :
    ACalls Try.prog tab.S 18 [Rule.av a, Rule.av b] [] (.sc (.bool r)) [] := by
  have hG := tab_ok
  have hm := mixed
  refine ACalls.of_AR (G := tab) podestaref04_Key_F (fn := Try.f18) Try.func18 (by kernel_rfl) (by kernel_rfl) (by kernel_rfl) (Nat.le_of_ble_eq_true (by kernel_rfl)) ?_
  intro c0 hc0
  replace hc0 : c0.m.length = 0 := hc0
  rw [podestaref04_Key] at H
  refine AR.seg hG hm 3 [2, 3] (k' := [.code [1, 0], .code [1, 1]]) (t' := [(2, .ptr 0 0 none), (3, .ptr 1 0 none)]) (h' := [.box 34 (Rule.ch a), .box 34 (Rule.ch b)]) (by kernel_rfl) ?_
  refine AR.reg hm podestaref04_Key_k0 (by kernel_rfl) ?_
  refine DK.seg hG 4 [2, 3, 6, 8] (t' := [(2, .ptr 0 0 none), (3, .ptr 1 0 none), (6, Cube.av a.Match), (8, Cube.av b.Match)]) (h' := [.box 34 (Rule.ch a), .box 34 (Rule.ch b)]) (by kernel_rfl) rfl ?_
  refine DK.op' [2, 3, 9] (t' := [(2, .ptr 0 0 none), (3, .ptr 1 0 none), (9, .sc (.bool ((a.Match.Value == b.Match.Value) && (a.Match.Care == b.Match.Care))))]) (h' := [.box 34 (Rule.ch a), .box 34 (Rule.ch b)]) (LSpec.eq' 9 (r := ((a.Match.Value == b.Match.Value) && (a.Match.Care == b.Match.Care))) (by kernel_rfl)) (by kernel_rfl) rfl (by kernel_rfl) rfl ?_
  refine DK.seg hG 1 [2, 3, 10] (t' := [(2, .ptr 0 0 none), (3, .ptr 1 0 none), (10, .sc (.bool ((a.Match.Value == b.Match.Value) && (a.Match.Care == b.Match.Care))))]) (h' := [.box 34 (Rule.ch a), .box 34 (Rule.ch b)]) (by kernel_rfl) rfl ?_
  refine DK.mux 10 ((a.Match.Value == b.Match.Value) && (a.Match.Care == b.Match.Care)) (j := 12) (h' := [.box 34 (Rule.ch a), .box 34 (Rule.ch b)]) (by kernel_rfl) (fun z => [(16, .sc (.bool (z && (a.Prio == b.Prio))))]) ?J1 (fun hb J => ?ht1) (fun hb J => ?hf1)
  case ht1 =>
    exact DK.seg hG 6 [16] (by kernel_rfl) rfl J
  case hf1 =>
    exact DK.seg hG 6 [16] (by kernel_rfl) rfl J
  refine DK.seg hG 1 [4] (t' := [(4, .sc (.bool (((a.Match.Value == b.Match.Value) && (a.Match.Care == b.Match.Care)) && (a.Prio == b.Prio))))]) (h' := [.box 34 (Rule.ch a), .box 34 (Rule.ch b)]) (by kernel_rfl) rfl ?_
  refine DK.done (by kernel_rfl) (by kernel_rfl) ?_
  subst H
  exact AR.ret0 (fn := Try.f18) hG Try.func18 (by kernel_rfl) hc0 (r0 := .sc (.bool (((a.Match.Value == b.Match.Value) && (a.Match.Care == b.Match.Care)) && (a.Prio == b.Prio)))) (by kernel_rfl) (WkV.refl _)
theorem podestaref04_Key_calls (a : Rule) (b : Rule) : ACalls Try.prog tab.S 18 [Rule.av a, Rule.av b] [] (.sc (.bool (podestaref04_Key a b))) [] := podestaref04_Key_walk a b _ rfl

/-! ### podestaref04.Equal: function 47 -/
noncomputable def podestaref04_Equal_F : Go.Sh.Fn := ⟨47, bodyOf Try.f47, 57⟩
def podestaref04_Equal_k0 : List Kd := [.read, .read, .pure, .pure, .pure, .read, .pure, .read, .pure, .pure, .pure, .pure, .read, .pure, .read, .pure, .pure, .pure, .pure, .read, .pure, .read, .pure, .pure, .pure, .pure, .read, .pure, .read, .pure, .pure, .pure, .pure, .read, .pure, .read, .pure, .pure, .pure, .pure, .read, .pure, .read, .pure, .pure, .pure, .pure, .read, .pure, .read, .pure, .pure, .pure]
def podestaref04_Equal (a : Rule) (b : Rule) : Bool :=
  ((((((((podestaref04_Key a b) && (a.Acts == b.Acts)) && (a.Idle == b.Idle)) && (a.Hard == b.Hard)) && (a.Owner == b.Owner)) && (a.Hits == b.Hits)) && (a.Quiet == b.Quiet)) && (a.Age == b.Age))
theorem podestaref04_Equal_walk (a : Rule) (b : Rule) (r : Bool) (H : podestaref04_Equal a b = r) :
    ACalls Try.prog tab.S 47 [Rule.av a, Rule.av b] [] (.sc (.bool r)) [] := by
  have hG := tab_ok
  have hm := mixed
  refine ACalls.of_AR (G := tab) podestaref04_Equal_F (fn := Try.f47) Try.func47 (by kernel_rfl) (by kernel_rfl) (by kernel_rfl) (Nat.le_of_ble_eq_true (by kernel_rfl)) ?_
  intro c0 hc0
  replace hc0 : c0.m.length = 0 := hc0
  rw [podestaref04_Equal] at H
  refine AR.seg hG hm 3 [2, 3] (k' := [.code [1, 0], .code [1, 1]]) (t' := [(2, .ptr 0 0 none), (3, .ptr 1 0 none)]) (h' := [.box 34 (Rule.ch a), .box 34 (Rule.ch b)]) (by kernel_rfl) ?_
  refine AR.reg hm podestaref04_Equal_k0 (by kernel_rfl) ?_
  refine DK.seg hG 2 [2, 3, 5, 6] (t' := [(2, .ptr 0 0 none), (3, .ptr 1 0 none), (5, Rule.av a), (6, Rule.av b)]) (h' := [.box 34 (Rule.ch a), .box 34 (Rule.ch b)]) (by kernel_rfl) rfl ?_
  refine DK.op' [2, 3, 7] (t' := [(2, .ptr 0 0 none), (3, .ptr 1 0 none), (7, .sc (.bool (podestaref04_Key a b)))]) (h' := [.box 34 (Rule.ch a), .box 34 (Rule.ch b)]) (LSpec.callP' (podestaref04_Key_calls a b) (by kernel_rfl)) (by kernel_rfl) rfl (by kernel_rfl) rfl ?_
  refine DK.seg hG 1 [2, 3, 8] (t' := [(2, .ptr 0 0 none), (3, .ptr 1 0 none), (8, .sc (.bool (podestaref04_Key a b)))]) (h' := [.box 34 (Rule.ch a), .box 34 (Rule.ch b)]) (by kernel_rfl) rfl ?_
  refine DK.mux 8 (podestaref04_Key a b) (j := 10) (h' := [.box 34 (Rule.ch a), .box 34 (Rule.ch b)]) (by kernel_rfl) (fun z => [(2, .ptr 0 0 none), (3, .ptr 1 0 none), (14, .sc (.bool (z && (a.Acts == b.Acts))))]) ?J1 (fun hb J => ?ht1) (fun hb J => ?hf1)
  case ht1 =>
    refine DK.seg hG 4 [2, 3, 8, 10, 12] (t' := [(2, .ptr 0 0 none), (3, .ptr 1 0 none), (8, .sc (.bool true)), (10, .sl 42 (List.map Act.av a.Acts) false), (12, .sl 42 (List.map Act.av b.Acts) false)]) (h' := [.box 34 (Rule.ch a), .box 34 (Rule.ch b)]) (by kernel_rfl) rfl ?_
    refine DK.op' [2, 3, 8, 13] (t' := [(2, .ptr 0 0 none), (3, .ptr 1 0 none), (8, .sc (.bool true)), (13, .sc (.bool (a.Acts == b.Acts)))]) (h' := [.box 34 (Rule.ch a), .box 34 (Rule.ch b)]) (LSpec.callP' (podestaref04_SameActs_ok a.Acts b.Acts false false) (by kernel_rfl)) (by kernel_rfl) rfl (by kernel_rfl) rfl ?_
    exact DK.seg hG 1 [2, 3, 14] (by kernel_rfl) rfl J
  case hf1 =>
    exact DK.seg hG 6 [2, 3, 14] (by kernel_rfl) rfl J
  refine DK.seg hG 1 [2, 3, 15] (t' := [(2, .ptr 0 0 none), (3, .ptr 1 0 none), (15, .sc (.bool ((podestaref04_Key a b) && (a.Acts == b.Acts))))]) (h' := [.box 34 (Rule.ch a), .box 34 (Rule.ch b)]) (by kernel_rfl) rfl ?_
  refine DK.mux 15 ((podestaref04_Key a b) && (a.Acts == b.Acts)) (j := 17) (h' := [.box 34 (Rule.ch a), .box 34 (Rule.ch b)]) (by kernel_rfl) (fun z => [(2, .ptr 0 0 none), (3, .ptr 1 0 none), (21, .sc (.bool (z && (a.Idle == b.Idle))))]) ?J2 (fun hb J => ?ht2) (fun hb J => ?hf2)
  case ht2 =>
    exact DK.seg hG 6 [2, 3, 21] (by kernel_rfl) rfl J
  case hf2 =>
    exact DK.seg hG 6 [2, 3, 21] (by kernel_rfl) rfl J
  refine DK.seg hG 1 [2, 3, 22] (t' := [(2, .ptr 0 0 none), (3, .ptr 1 0 none), (22, .sc (.bool (((podestaref04_Key a b) && (a.Acts == b.Acts)) && (a.Idle == b.Idle))))]) (h' := [.box 34 (Rule.ch a), .box 34 (Rule.ch b)]) (by kernel_rfl) rfl ?_
  refine DK.mux 22 (((podestaref04_Key a b) && (a.Acts == b.Acts)) && (a.Idle == b.Idle)) (j := 24) (h' := [.box 34 (Rule.ch a), .box 34 (Rule.ch b)]) (by kernel_rfl) (fun z => [(2, .ptr 0 0 none), (3, .ptr 1 0 none), (28, .sc (.bool (z && (a.Hard == b.Hard))))]) ?J3 (fun hb J => ?ht3) (fun hb J => ?hf3)
  case ht3 =>
    exact DK.seg hG 6 [2, 3, 28] (by kernel_rfl) rfl J
  case hf3 =>
    exact DK.seg hG 6 [2, 3, 28] (by kernel_rfl) rfl J
  refine DK.seg hG 1 [2, 3, 29] (t' := [(2, .ptr 0 0 none), (3, .ptr 1 0 none), (29, .sc (.bool ((((podestaref04_Key a b) && (a.Acts == b.Acts)) && (a.Idle == b.Idle)) && (a.Hard == b.Hard))))]) (h' := [.box 34 (Rule.ch a), .box 34 (Rule.ch b)]) (by kernel_rfl) rfl ?_
  refine DK.mux 29 ((((podestaref04_Key a b) && (a.Acts == b.Acts)) && (a.Idle == b.Idle)) && (a.Hard == b.Hard)) (j := 31) (h' := [.box 34 (Rule.ch a), .box 34 (Rule.ch b)]) (by kernel_rfl) (fun z => [(2, .ptr 0 0 none), (3, .ptr 1 0 none), (35, .sc (.bool (z && (a.Owner == b.Owner))))]) ?J4 (fun hb J => ?ht4) (fun hb J => ?hf4)
  case ht4 =>
    exact DK.seg hG 6 [2, 3, 35] (by kernel_rfl) rfl J
  case hf4 =>
    exact DK.seg hG 6 [2, 3, 35] (by kernel_rfl) rfl J
  refine DK.seg hG 1 [2, 3, 36] (t' := [(2, .ptr 0 0 none), (3, .ptr 1 0 none), (36, .sc (.bool (((((podestaref04_Key a b) && (a.Acts == b.Acts)) && (a.Idle == b.Idle)) && (a.Hard == b.Hard)) && (a.Owner == b.Owner))))]) (h' := [.box 34 (Rule.ch a), .box 34 (Rule.ch b)]) (by kernel_rfl) rfl ?_
  refine DK.mux 36 (((((podestaref04_Key a b) && (a.Acts == b.Acts)) && (a.Idle == b.Idle)) && (a.Hard == b.Hard)) && (a.Owner == b.Owner)) (j := 38) (h' := [.box 34 (Rule.ch a), .box 34 (Rule.ch b)]) (by kernel_rfl) (fun z => [(2, .ptr 0 0 none), (3, .ptr 1 0 none), (42, .sc (.bool (z && (a.Hits == b.Hits))))]) ?J5 (fun hb J => ?ht5) (fun hb J => ?hf5)
  case ht5 =>
    exact DK.seg hG 6 [2, 3, 42] (by kernel_rfl) rfl J
  case hf5 =>
    exact DK.seg hG 6 [2, 3, 42] (by kernel_rfl) rfl J
  refine DK.seg hG 1 [2, 3, 43] (t' := [(2, .ptr 0 0 none), (3, .ptr 1 0 none), (43, .sc (.bool ((((((podestaref04_Key a b) && (a.Acts == b.Acts)) && (a.Idle == b.Idle)) && (a.Hard == b.Hard)) && (a.Owner == b.Owner)) && (a.Hits == b.Hits))))]) (h' := [.box 34 (Rule.ch a), .box 34 (Rule.ch b)]) (by kernel_rfl) rfl ?_
  refine DK.mux 43 ((((((podestaref04_Key a b) && (a.Acts == b.Acts)) && (a.Idle == b.Idle)) && (a.Hard == b.Hard)) && (a.Owner == b.Owner)) && (a.Hits == b.Hits)) (j := 45) (h' := [.box 34 (Rule.ch a), .box 34 (Rule.ch b)]) (by kernel_rfl) (fun z => [(2, .ptr 0 0 none), (3, .ptr 1 0 none), (49, .sc (.bool (z && (a.Quiet == b.Quiet))))]) ?J6 (fun hb J => ?ht6) (fun hb J => ?hf6)
  case ht6 =>
    exact DK.seg hG 6 [2, 3, 49] (by kernel_rfl) rfl J
  case hf6 =>
    exact DK.seg hG 6 [2, 3, 49] (by kernel_rfl) rfl J
  refine DK.seg hG 1 [2, 3, 50] (t' := [(2, .ptr 0 0 none), (3, .ptr 1 0 none), (50, .sc (.bool (((((((podestaref04_Key a b) && (a.Acts == b.Acts)) && (a.Idle == b.Idle)) && (a.Hard == b.Hard)) && (a.Owner == b.Owner)) && (a.Hits == b.Hits)) && (a.Quiet == b.Quiet))))]) (h' := [.box 34 (Rule.ch a), .box 34 (Rule.ch b)]) (by kernel_rfl) rfl ?_
  refine DK.mux 50 (((((((podestaref04_Key a b) && (a.Acts == b.Acts)) && (a.Idle == b.Idle)) && (a.Hard == b.Hard)) && (a.Owner == b.Owner)) && (a.Hits == b.Hits)) && (a.Quiet == b.Quiet)) (j := 52) (h' := [.box 34 (Rule.ch a), .box 34 (Rule.ch b)]) (by kernel_rfl) (fun z => [(56, .sc (.bool (z && (a.Age == b.Age))))]) ?J7 (fun hb J => ?ht7) (fun hb J => ?hf7)
  case ht7 =>
    exact DK.seg hG 6 [56] (by kernel_rfl) rfl J
  case hf7 =>
    exact DK.seg hG 6 [56] (by kernel_rfl) rfl J
  refine DK.seg hG 1 [4] (t' := [(4, .sc (.bool ((((((((podestaref04_Key a b) && (a.Acts == b.Acts)) && (a.Idle == b.Idle)) && (a.Hard == b.Hard)) && (a.Owner == b.Owner)) && (a.Hits == b.Hits)) && (a.Quiet == b.Quiet)) && (a.Age == b.Age))))]) (h' := [.box 34 (Rule.ch a), .box 34 (Rule.ch b)]) (by kernel_rfl) rfl ?_
  refine DK.done (by kernel_rfl) (by kernel_rfl) ?_
  subst H
  exact AR.ret0 (fn := Try.f47) hG Try.func47 (by kernel_rfl) hc0 (r0 := .sc (.bool ((((((((podestaref04_Key a b) && (a.Acts == b.Acts)) && (a.Idle == b.Idle)) && (a.Hard == b.Hard)) && (a.Owner == b.Owner)) && (a.Hits == b.Hits)) && (a.Quiet == b.Quiet)) && (a.Age == b.Age)))) (by kernel_rfl) (WkV.refl _)
theorem podestaref04_Equal_calls (a : Rule) (b : Rule) : ACalls Try.prog tab.S 47 [Rule.av a, Rule.av b] [] (.sc (.bool (podestaref04_Equal a b))) [] := podestaref04_Equal_walk a b _ rfl

/-! ### podestaref04.Same: function 23 -/
noncomputable def podestaref04_Same_F : Go.Sh.Fn := ⟨23, bodyOf Try.f23, 27⟩
def podestaref04_Same_k0 : List Kd := [.pure, .pure, .pure, .pure, .pure, .pure, .pure, .pure, .pure, .pure]
def podestaref04_Same_l0s (b : List Rule) : List Rule → Nat → Option (Sum (Unit) (Bool))
  | [], i =>
    some (.inl ())
  | x :: rest, i =>
    (ixO b ((i : Nat) : Int)).bind fun x1 =>
    (bif (!(podestaref04_Equal x x1)) then
      some (.inr false)
    else
      podestaref04_Same_l0s b rest (i + 1) )
theorem podestaref04_Same_l0_walk (a : List Rule) (b : List Rule) (f_a : Bool) (f_b : Bool) (r : Bool) (c0 : Ctx) (hc0 : c0.m.length = 0) (res : Sum (Unit) (Bool)) (J : ∀ w : Unit, res = .inl w → AR Try.prog tab podestaref04_Same_F c0 (Rp tab.S c0 (.sc (.bool r)) []) [.code [1, 1, 1]] [] []) (Jr : ∀ w, res = .inr w → w = r) :
    ∀ (rest : List Rule) (i : Nat) (hd : a.drop i = rest) (H : podestaref04_Same_l0s b rest i = some res), AR Try.prog tab podestaref04_Same_F c0 (Rp tab.S c0 (.sc (.bool r)) []) [.code [1, 1, 0, 1, 0, 0], .loop [1, 1, 0, 1, 0], .blk 0, .code [1, 1, 1]] [(0, .sl 34 (List.map Rule.av a) f_a), (1, .sl 34 (List.map Rule.av b) f_b), (5, .sc (.int .i64 ((i : Nat) : Int)))] [] := by
  have hG := tab_ok
  have hm := mixed
  intro rest
  induction rest with
  | nil =>
    intro i hd  H
    rw [podestaref04_Same_l0s] at H
    refine AR.facts 0 rfl fun hf => ?_
    have hlen : a.length ≤ 9223372036854775807 := by have hq := len_ok hf.2.1; rw [List.length_map] at hq; exact hq
    have hge : a.length ≤ i := List.drop_eq_nil_iff.1 hd
    have hc : (decide (((i : Nat) : Int) < (((List.map Rule.av a).length : Nat) : Int))) = false := by rw [List.length_map]; exact decide_eq_false (by omega)
    refine AR.seg hG hm 3 [0, 1, 5, 14] (k' := [.code [1, 1, 0, 1, 0, 0, 0, 1], .code [1, 1, 0, 1, 0, 0, 1], .loop [1, 1, 0, 1, 0], .blk 0, .code [1, 1, 1]]) (t' := [(0, .sl 34 (List.map Rule.av a) f_a), (1, .sl 34 (List.map Rule.av b) f_b), (5, .sc (.int .i64 ((i : Nat) : Int))), (14, .sc (.bool (decide (((i : Nat) : Int) < (((List.map Rule.av a).length : Nat) : Int)))))]) (h' := []) (by kernel_rfl) ?_
    refine AR.cond (.tmp 14) (decide (((i : Nat) : Int) < (((List.map Rule.av a).length : Nat) : Int))) (by kernel_rfl) (by kernel_rfl) (fun hb => ?ht8) (fun hb => ?hf8)
    case ht8 => exact absurd (hb.symm.trans hc) (by decide)
    case hf8 =>
      refine AR.seg hG hm 1 [] (k' := [.code [1, 1, 1]]) (t' := []) (h' := []) (by kernel_rfl) ?_
      refine AR.keep [] (t' := []) (by kernel_rfl) ?_
      exact J () (Option.some.inj H).symm
  | cons x rest ih =>
    intro i hd  H
    rw [podestaref04_Same_l0s] at H
    refine AR.facts 0 rfl fun hf => ?_
    have hlen : a.length ≤ 9223372036854775807 := by have hq := len_ok hf.2.1; rw [List.length_map] at hq; exact hq
    obtain ⟨hlt, hv_i, hd2⟩ := drop_cons hd
    have hc : (decide (((i : Nat) : Int) < (((List.map Rule.av a).length : Nat) : Int))) = true := by rw [List.length_map]; exact decide_eq_true (by omega)
    have hw : IntKind.i64.wrap (((i : Nat) : Int) + 1) = ((i + 1 : Nat) : Int) := wrapI_succ (by omega)
    refine AR.seg hG hm 3 [0, 1, 5, 14] (k' := [.code [1, 1, 0, 1, 0, 0, 0, 1], .code [1, 1, 0, 1, 0, 0, 1], .loop [1, 1, 0, 1, 0], .blk 0, .code [1, 1, 1]]) (t' := [(0, .sl 34 (List.map Rule.av a) f_a), (1, .sl 34 (List.map Rule.av b) f_b), (5, .sc (.int .i64 ((i : Nat) : Int))), (14, .sc (.bool (decide (((i : Nat) : Int) < (((List.map Rule.av a).length : Nat) : Int)))))]) (h' := []) (by kernel_rfl) ?_
    refine AR.cond (.tmp 14) (decide (((i : Nat) : Int) < (((List.map Rule.av a).length : Nat) : Int))) (by kernel_rfl) (by kernel_rfl) (fun hb => ?ht9) (fun hb => ?hf9)
    case ht9 =>
      refine AR.seg hG hm 4 [0, 1, 5] (k' := [.code [1, 1, 0, 1, 0, 0, 1, 0, 0, 0], .code [1, 1, 0, 1, 0, 0, 1, 0, 0, 1], .blk 1, .code [1, 1, 0, 1, 0, 0, 1, 1], .loop [1, 1, 0, 1, 0], .blk 0, .code [1, 1, 1]]) (t' := [(0, .sl 34 (List.map Rule.av a) f_a), (1, .sl 34 (List.map Rule.av b) f_b), (5, .sc (.int .i64 ((i : Nat) : Int)))]) (h' := []) (by kernel_rfl) ?_
      refine AR.reg hm podestaref04_Same_k0 (by kernel_rfl) ?_
      refine DK.seg hG 2 [0, 1, 5, 17, 18] (t' := [(0, .sl 34 (List.map Rule.av a) f_a), (1, .sl 34 (List.map Rule.av b) f_b), (5, .sc (.int .i64 ((i : Nat) : Int))), (17, .sl 34 (List.map Rule.av a) f_a), (18, .sc (.int .i64 ((i : Nat) : Int)))]) (h' := []) (by kernel_rfl) rfl ?_
      refine DK.op' [0, 1, 5, 19] (t' := [(0, .sl 34 (List.map Rule.av a) f_a), (1, .sl 34 (List.map Rule.av b) f_b), (5, .sc (.int .i64 ((i : Nat) : Int))), (19, .ep [.arr .u64 12 x.Match.Value, .arr .u64 12 x.Match.Care, .sc (.int .i64 x.Prio), .sl 42 (List.map Act.av x.Acts) false, .sc (.int .i64 x.Idle), .sc (.int .i64 x.Hard), .sc (.int .i64 x.Owner), .sc (.int .i64 x.Hits), .sc (.int .i64 x.Quiet), .sc (.int .i64 x.Age)] 0 none)]) (h' := []) (LSpec.index' (r := Rule.av x) (fs := [.arr .u64 12 x.Match.Value, .arr .u64 12 x.Match.Care, .sc (.int .i64 x.Prio), .sl 42 (List.map Act.av x.Acts) false, .sc (.int .i64 x.Idle), .sc (.int .i64 x.Hard), .sc (.int .i64 x.Owner), .sc (.int .i64 x.Hits), .sc (.int .i64 x.Quiet), .sc (.int .i64 x.Age)]) hG (rows := List.map Rule.av a) (j := ((i : Nat) : Int)) (by kernel_rfl) (ixO_map hv_i _) (by kernel_rfl)) (by kernel_rfl) rfl (by kernel_rfl) rfl ?_
      refine DK.seg hG 3 [0, 1, 5, 20, 21, 22] (t' := [(0, .sl 34 (List.map Rule.av a) f_a), (1, .sl 34 (List.map Rule.av b) f_b), (5, .sc (.int .i64 ((i : Nat) : Int))), (20, Rule.av x), (21, .sl 34 (List.map Rule.av b) f_b), (22, .sc (.int .i64 ((i : Nat) : Int)))]) (h' := []) (by kernel_rfl) rfl ?_
      obtain ⟨x1, hv, H⟩ := Option.bind_eq_some_iff.1 H
      refine DK.op' [0, 1, 5, 20, 23] (t' := [(0, .sl 34 (List.map Rule.av a) f_a), (1, .sl 34 (List.map Rule.av b) f_b), (5, .sc (.int .i64 ((i : Nat) : Int))), (20, Rule.av x), (23, .ep [.arr .u64 12 x1.Match.Value, .arr .u64 12 x1.Match.Care, .sc (.int .i64 x1.Prio), .sl 42 (List.map Act.av x1.Acts) false, .sc (.int .i64 x1.Idle), .sc (.int .i64 x1.Hard), .sc (.int .i64 x1.Owner), .sc (.int .i64 x1.Hits), .sc (.int .i64 x1.Quiet), .sc (.int .i64 x1.Age)] 0 none)]) (h' := []) (LSpec.index' (r := Rule.av x1) (fs := [.arr .u64 12 x1.Match.Value, .arr .u64 12 x1.Match.Care, .sc (.int .i64 x1.Prio), .sl 42 (List.map Act.av x1.Acts) false, .sc (.int .i64 x1.Idle), .sc (.int .i64 x1.Hard), .sc (.int .i64 x1.Owner), .sc (.int .i64 x1.Hits), .sc (.int .i64 x1.Quiet), .sc (.int .i64 x1.Age)]) hG (rows := List.map Rule.av b) (j := ((i : Nat) : Int)) (by kernel_rfl) (ixO_map hv _) (by kernel_rfl)) (by kernel_rfl) rfl (by kernel_rfl) rfl ?_
      refine DK.seg hG 1 [0, 1, 5, 20, 24] (t' := [(0, .sl 34 (List.map Rule.av a) f_a), (1, .sl 34 (List.map Rule.av b) f_b), (5, .sc (.int .i64 ((i : Nat) : Int))), (20, Rule.av x), (24, Rule.av x1)]) (h' := []) (by kernel_rfl) rfl ?_
      refine DK.op' [0, 1, 5, 25] (t' := [(0, .sl 34 (List.map Rule.av a) f_a), (1, .sl 34 (List.map Rule.av b) f_b), (5, .sc (.int .i64 ((i : Nat) : Int))), (25, .sc (.bool (podestaref04_Equal x x1)))]) (h' := []) (LSpec.callP' (podestaref04_Equal_calls x x1) (by kernel_rfl)) (by kernel_rfl) rfl (by kernel_rfl) rfl ?_
      refine DK.seg hG 1 [0, 1, 5, 26] (t' := [(0, .sl 34 (List.map Rule.av a) f_a), (1, .sl 34 (List.map Rule.av b) f_b), (5, .sc (.int .i64 ((i : Nat) : Int))), (26, .sc (.bool (!(podestaref04_Equal x x1))))]) (h' := []) (by kernel_rfl) rfl ?_
      refine DK.done (by kernel_rfl) (by kernel_rfl) ?_
      refine AR.cond (.tmp 26) (!(podestaref04_Equal x x1)) (by kernel_rfl) (by kernel_rfl) (fun hb => ?ht10) (fun hb => ?hf10)
      case ht10 =>
        replace H := cond_t hb H
        refine AR.seg hG hm 2 [4] (k' := [.code [1, 1, 0, 1, 0, 0, 1, 0, 0, 1, 0, 1], .blk 1, .code [1, 1, 0, 1, 0, 0, 1, 1], .loop [1, 1, 0, 1, 0], .blk 0, .code [1, 1, 1]]) (t' := [(4, .sc (.bool false))]) (h' := []) (by kernel_rfl) ?_
        obtain rfl := Option.some.inj H
        obtain rfl := Jr _ rfl
        exact AR.ret0 (fn := Try.f23) hG Try.func23 (by kernel_rfl) hc0 (r0 := .sc (.bool false)) (by kernel_rfl) (WkV.refl _)
      case hf10 =>
        replace H := cond_f hb H
        refine AR.seg hG hm 3 [0, 1, 5] (k' := [.loop [1, 1, 0, 1, 0], .blk 0, .code [1, 1, 1]]) (t' := [(0, .sl 34 (List.map Rule.av a) f_a), (1, .sl 34 (List.map Rule.av b) f_b), (5, .sc (.int .i64 (IntKind.i64.wrap (((i : Nat) : Int) + 1))))]) (h' := []) (by kernel_rfl) ?_
        refine AR.keep [0, 1, 5] (t' := [(0, .sl 34 (List.map Rule.av a) f_a), (1, .sl 34 (List.map Rule.av b) f_b), (5, .sc (.int .i64 (IntKind.i64.wrap (((i : Nat) : Int) + 1))))]) (by kernel_rfl) ?_
        refine AR.loop_round ?_
        rw [hw]
        exact ih (i + 1) hd2 H
    case hf9 => exact absurd (hc.symm.trans hb) (by decide)

def podestaref04_Same_raw (a : List Rule) (b : List Rule) : Option (Bool) :=
  (bif ((((List.map Rule.av a).length : Nat) : Int) != (((List.map Rule.av b).length : Nat) : Int)) then
    some false
  else
    loopO (podestaref04_Same_l0s b a 0) fun v =>
    some true)
theorem podestaref04_Same_walk (a : List Rule) (b : List Rule) (f_a : Bool) (f_b : Bool) (r : Bool) (H : podestaref04_Same_raw a b = some r) :
    ACalls Try.prog tab.S 23 [.sl 34 (List.map Rule.av a) f_a, .sl 34 (List.map Rule.av b) f_b] [] (.sc (.bool r)) [] := by
  have hG := tab_ok
  have hm := mixed
  refine ACalls.of_AR (G := tab) podestaref04_Same_F (fn := Try.f23) Try.func23 (by kernel_rfl) (by kernel_rfl) (by kernel_rfl) (Nat.le_of_ble_eq_true (by kernel_rfl)) ?_
  intro c0 hc0
  replace hc0 : c0.m.length = 0 := hc0
  rw [podestaref04_Same_raw] at H
  refine AR.seg hG hm 5 [0, 1, 10] (k' := [.code [1, 0, 1], .code [1, 1]]) (t' := [(0, .sl 34 (List.map Rule.av a) f_a), (1, .sl 34 (List.map Rule.av b) f_b), (10, .sc (.bool ((((List.map Rule.av a).length : Nat) : Int) != (((List.map Rule.av b).length : Nat) : Int))))]) (h' := []) (by kernel_rfl) ?_
  refine AR.cond (.tmp 10) ((((List.map Rule.av a).length : Nat) : Int) != (((List.map Rule.av b).length : Nat) : Int)) (by kernel_rfl) (by kernel_rfl) (fun hb => ?ht1) (fun hb => ?hf1)
  case ht1 =>
    replace H := cond_t hb H
    refine AR.seg hG hm 2 [4] (k' := [.code [1, 0, 1, 0, 1], .code [1, 1]]) (t' := [(4, .sc (.bool false))]) (h' := []) (by kernel_rfl) ?_
    obtain rfl := Option.some.inj H
    exact AR.ret0 (fn := Try.f23) hG Try.func23 (by kernel_rfl) hc0 (r0 := .sc (.bool false)) (by kernel_rfl) (WkV.refl _)
  case hf1 =>
    replace H := cond_f hb H
    refine AR.seg hG hm 5 [0, 1, 5] (k' := [.code [1, 1, 0, 1, 0], .blk 0, .code [1, 1, 1]]) (t' := [(0, .sl 34 (List.map Rule.av a) f_a), (1, .sl 34 (List.map Rule.av b) f_b), (5, .sc (.int .i64 0))]) (h' := []) (by kernel_rfl) ?_
    rcases loopO_some H with ⟨v, hv, H⟩ | hv
    case inr =>
      refine AR.into (by kernel_rfl) ?_
      exact podestaref04_Same_l0_walk a b f_a f_b _ c0 hc0 (.inr _) (fun _ e => by cases e) (fun _ e => (Sum.inr.inj e).symm) a 0 rfl hv
    refine AR.into (by kernel_rfl) ?_
    refine podestaref04_Same_l0_walk a b f_a f_b r c0 hc0 (.inl v) (fun w e => ?_) (fun _ e => by cases e) a 0 rfl hv
    have e := Sum.inl.inj e
    subst e
    refine AR.seg hG hm 2 [4] (k' := [.code [1, 1, 1, 1]]) (t' := [(4, .sc (.bool true))]) (h' := []) (by kernel_rfl) ?_
    obtain rfl := Option.some.inj H
    exact AR.ret0 (fn := Try.f23) hG Try.func23 (by kernel_rfl) hc0 (r0 := .sc (.bool true)) (by kernel_rfl) (WkV.refl _)

theorem podestaref04_Same_ok (a b : List Rule) (f_a f_b : Bool) : ACalls Try.prog tab.S 23 [.sl 34 (List.map Rule.av a) f_a, .sl 34 (List.map Rule.av b) f_b] [] (.sc (.bool (zipAll podestaref04_Equal a b))) [] := by
  refine podestaref04_Same_walk a b f_a f_b _ ?_
  rw [podestaref04_Same_raw, len_bne]
  by_cases h : a.length = b.length
  · simp only [h, decide_true, Bool.not_true, cond_false]
    rw [cmp_loop (v := false) (podestaref04_Same_l0s b) b podestaref04_Equal (fun _ => rfl) (fun x r i => by rw [podestaref04_Same_l0s]) a 0 (by omega), List.drop_zero]
    cases zipAll podestaref04_Equal a b <;> rfl
  · rw [zipAll_ne _ h]
    simp only [h, decide_false, Bool.not_false, cond_true]
theorem ref_Equal_eq (a b : Rule) : podestaref04_Equal a b = (a == b) := by
  obtain ⟨⟨v, c⟩, p, ac, i1, h1, o1, h2, q1, g1⟩ := a
  obtain ⟨⟨v', c'⟩, p', ac', i1', h1', o1', h2', q1', g1'⟩ := b
  rw [podestaref04_Equal, podestaref04_Key, Bool.eq_iff_iff]
  simp only [Bool.and_eq_true, beq_iff_eq, Rule.mk.injEq, Cube.mk.injEq]
  constructor
  · rintro ⟨⟨⟨⟨⟨⟨⟨⟨⟨a2, a3⟩, a4⟩, a1⟩, a5⟩, a6⟩, a7⟩, a8⟩, a9⟩, a10⟩
    exact ⟨⟨a2, a3⟩, a4, a1, a5, a6, a7, a8, a9, a10⟩
  · rintro ⟨⟨a2, a3⟩, a4, a1, a5, a6, a7, a8, a9, a10⟩
    exact ⟨⟨⟨⟨⟨⟨⟨⟨⟨a2, a3⟩, a4⟩, a1⟩, a5⟩, a6⟩, a7⟩, a8⟩, a9⟩, a10⟩
theorem ref_Same_eq (a b : List Rule) : zipAll podestaref04_Equal a b = (a == b) := by
  rw [← zipAll_beq]
  exact congrArg (fun f => zipAll f a b) (funext fun x => funext fun y => ref_Equal_eq x y)

/-! ### rule.Same: function 22 -/
noncomputable def rule_Same_F : Go.Sh.Fn := ⟨22, bodyOf Try.f22, 8⟩
def rule_Same_k0 : List Kd := [.pure, .pure, .read, .pure]
def rule_Same (a : List Rule) (b : List Rule) : Bool :=
  (zipAll rule_Equal a b)
theorem rule_Same_walk (a : List Rule) (b : List Rule) (f_a : Bool) (f_b : Bool) (r : Bool) (H : rule_Same a b = r) :
    ACalls Try.prog tab.S 22 [.sl 34 (List.map Rule.av a) f_a, .sl 34 (List.map Rule.av b) f_b] [] (.sc (.bool r)) [] := by
  have hG := tab_ok
  have hm := mixed
  refine ACalls.of_AR (G := tab) rule_Same_F (fn := Try.f22) Try.func22 (by kernel_rfl) (by kernel_rfl) (by kernel_rfl) (Nat.le_of_ble_eq_true (by kernel_rfl)) ?_
  intro c0 hc0
  replace hc0 : c0.m.length = 0 := hc0
  rw [rule_Same] at H
  refine AR.seg hG hm 3 [0, 1] (k' := [.code [1, 0], .code [1, 1]]) (t' := [(0, .sl 34 (List.map Rule.av a) f_a), (1, .sl 34 (List.map Rule.av b) f_b)]) (h' := []) (by kernel_rfl) ?_
  refine AR.reg hm rule_Same_k0 (by kernel_rfl) ?_
  refine DK.seg hG 2 [5, 6] (t' := [(5, .sl 34 (List.map Rule.av a) f_a), (6, .sl 34 (List.map Rule.av b) f_b)]) (h' := []) (by kernel_rfl) rfl ?_
  refine DK.op' [7] (t' := [(7, .sc (.bool (zipAll rule_Equal a b)))]) (h' := []) (LSpec.callF' (caps := []) (slices_EqualFunc__api_Rule_ok a b 46 [] rule_Equal rfl rfl (fun y0 y1 => rule_Equal_calls y0 y1) f_a f_b) (by kernel_rfl) (.same rfl (.same rfl (.fn (caps := []) (by kernel_rfl) .nil))) (by kernel_rfl) rfl rfl) (by kernel_rfl) rfl (by kernel_rfl) rfl ?_
  refine DK.seg hG 1 [4] (t' := [(4, .sc (.bool (zipAll rule_Equal a b)))]) (h' := []) (by kernel_rfl) rfl ?_
  refine DK.done (by kernel_rfl) (by kernel_rfl) ?_
  subst H
  exact AR.ret0 (fn := Try.f22) hG Try.func22 (by kernel_rfl) hc0 (r0 := .sc (.bool (zipAll rule_Equal a b))) (by kernel_rfl) (WkV.refl _)
theorem rule_Same_calls (a : List Rule) (b : List Rule) (f_a : Bool) (f_b : Bool) : ACalls Try.prog tab.S 22 [.sl 34 (List.map Rule.av a) f_a, .sl 34 (List.map Rule.av b) f_b] [] (.sc (.bool (rule_Same a b))) [] := rule_Same_walk a b f_a f_b _ rfl

theorem rule_Same_eq (a b : List Rule) : rule_Same a b = (a == b) := by
  rw [rule_Same, ← zipAll_beq]
  exact congrArg (fun f => zipAll f a b) (funext fun x => funext fun y => rule_Equal_eq x y)

end Go.Proofs.Ytadolbhmdimbkaa

set_option linter.unusedVariables false
set_option linter.unusedSimpArgs false
set_option maxRecDepth 100000
set_option maxHeartbeats 4000000
namespace Go.Proofs.Ytadolbhmdimbkaa
open Go.Sh
/-! ### Tables: strictly in order, one rule for a key -/
abbrev Key3 := Int × List Int × List Int
def RLt (a b : Rule) : Prop := keyC a.key b.key < 0
theorem RLt.trans {a b c : Rule} (h : RLt a b) (k : RLt b c) : RLt a c := good_key.trans _ _ _ h k
theorem RLt.irr (a b : Rule) (h : a.key = b.key) : ¬ RLt a b := by
  intro k
  have := (good_key.eq a.key b.key).2 h
  unfold RLt at k
  omega
theorem RLt.asymm {a b : Rule} (h : RLt a b) : ¬ RLt b a := fun k => RLt.irr a a rfl (h.trans k)
def Srt (l : List Rule) : Prop := l.Pairwise RLt
def look (l : List Rule) (k : Key3) : Option Rule := l.find? (fun r => decide (r.key = k))
theorem look_cons (x : Rule) (l : List Rule) (k : Key3) : look (x :: l) k = if x.key = k then some x else look l k := by
  unfold look
  rw [List.find?_cons]
  by_cases h : x.key = k
  · simp [h]
  · simp [h]
theorem look_append (a b : List Rule) (k : Key3) : look (a ++ b) k = (look a k).or (look b k) := by
  unfold look
  rw [List.find?_append]
theorem look_none {l : List Rule} {k : Key3} (h : ∀ y ∈ l, y.key ≠ k) : look l k = none := by
  unfold look
  rw [List.find?_eq_none]
  intro y hy
  simp [h y hy]
theorem bsF_spec (c : Nat → Bool) (hm : ∀ i j, i ≤ j → c j = true → c i = true) : ∀ (m i j : Nat), i ≤ j → j - i < m → (∀ k, k < i → c k = true) → (∀ k, j ≤ k → c k = false) → (∀ k, k < bsF c m i j → c k = true) ∧ ∀ k, bsF c m i j ≤ k → c k = false
  | 0, i, j, _, h, _, _ => absurd h (by omega)
  | m + 1, i, j, h1, h2, h3, h4 => by
      rw [bsF]
      by_cases hij : i < j
      · rw [if_pos hij]
        cases hc : c ((i + j) / 2)
        · simp only [Bool.false_eq_true, if_false]
          refine bsF_spec c hm m i ((i + j) / 2) (by omega) (by omega) h3 (fun k hk => ?_)
          cases hk2 : c k with
          | false => rfl
          | true => rw [hm _ _ hk hk2] at hc; cases hc
        · simp only [if_true]
          exact bsF_spec c hm m ((i + j) / 2 + 1) j (by omega) (by omega) (fun k hk => hm k ((i + j) / 2) (by omega) hc) h4
      · rw [if_neg hij]
        exact ⟨h3, fun k hk => h4 k (by omega)⟩
theorem srt_get {l : List Rule} (h : Srt l) {i j : Nat} (hij : i < j) (hj : j < l.length) : RLt (l[i]'(by omega)) l[j] := List.pairwise_iff_getElem.1 h i j (by omega) hj hij
theorem bsN_spec {out : List Rule} (h : Srt out) (x : Rule) : (∀ k (hk : k < out.length), k < bsN out x rule_compare → RLt out[k] x) ∧ ∀ k (hk : k < out.length), bsN out x rule_compare ≤ k → ¬ RLt out[k] x := by
  have hl : ∀ k (hk : k < out.length), lowAt out x rule_compare k = true ↔ RLt out[k] x := by
    intro k hk
    unfold lowAt RLt
    rw [List.getElem?_eq_getElem hk]
    simp only [decide_eq_true_eq, compare_key]
  have hl2 : ∀ k, out.length ≤ k → lowAt out x rule_compare k = false := by
    intro k hk
    unfold lowAt
    rw [List.getElem?_eq_none hk]
  have hm : ∀ i j, i ≤ j → lowAt out x rule_compare j = true → lowAt out x rule_compare i = true := by
    intro i j hij hj
    have hjl : j < out.length := by
      by_cases q : j < out.length
      · exact q
      · rw [hl2 j (by omega)] at hj; cases hj
    rcases Nat.lt_or_ge i j with q | q
    · exact (hl i (by omega)).2 ((srt_get h q hjl).trans ((hl j hjl).1 hj))
    · have : i = j := by omega
      subst this; exact hj
  obtain ⟨s1, s2⟩ := bsF_spec (lowAt out x rule_compare) hm (out.length + 1) 0 out.length (by omega) (by omega) (by omega) hl2
  refine ⟨fun k hk hlt => (hl k hk).1 (s1 k hlt), fun k hk hge hlt => ?_⟩
  have := s2 k hge
  rw [(hl k hk).2 hlt] at this
  cases this
theorem not_lt {a b : Rule} (h : ¬ RLt a b) : a.key = b.key ∨ RLt b a := by
  unfold RLt at *
  rcases Int.lt_trichotomy (keyC a.key b.key) 0 with q | q | q
  · exact absurd q h
  · exact .inl ((good_key.eq _ _).1 q)
  · exact .inr ((good_key.anti _ _).1 q)
theorem putR_split {out : List Rule} (h : Srt out) {x : Rule} (hs : rule_Sound x = true) : ∃ A mid B, out = A ++ (mid ++ B) ∧ putR out x = A ++ x :: B ∧ (∀ a ∈ A, RLt a x) ∧ (∀ b ∈ B, RLt x b) ∧ ∀ y ∈ mid, y.key = x.key := by
  obtain ⟨s1, s2⟩ := bsN_spec h x
  have hle := bsN_le out x rule_compare
  generalize hn : bsN out x rule_compare = n at s1 s2 hle
  have hA : ∀ a ∈ out.take n, RLt a x := by
    intro a ha
    obtain ⟨k, hk, rfl⟩ := List.getElem_of_mem ha
    rw [List.getElem_take]
    rw [List.length_take] at hk
    exact s1 k (by omega) (by omega)
  unfold putR
  rw [hs, hn]
  simp only [Bool.not_true, cond_false]
  have hb2 : (bsR out x rule_compare).2 = match out[n]? with | some y => rule_compare y x == 0 | none => false := by
    subst hn
    unfold bsR
    cases out[bsN out x rule_compare]? <;> rfl
  cases hb : (bsR out x rule_compare).2
  · refine ⟨out.take n, [], out.drop n, by simp, rfl, hA, ?_, by simp⟩
    intro b hbm
    obtain ⟨k, hk, rfl⟩ := List.getElem_of_mem hbm
    rw [List.length_drop] at hk
    rw [List.getElem_drop]
    have hlt : n < out.length := by omega
    have h0 : RLt x out[n] := by
      rw [hb2, List.getElem?_eq_getElem hlt] at hb
      rcases not_lt (s2 n hlt (by omega)) with q | q
      · have := (good_key.eq _ _).2 q
        rw [← compare_key] at this
        simp [this] at hb
      · exact q
    rcases Nat.eq_zero_or_pos k with q | q
    · subst q; exact h0
    · exact h0.trans (srt_get h (by omega) (by omega))
  · have hlt : n < out.length := by have := bsR_lt hb; omega
    refine ⟨out.take n, [out[n]], out.drop (n + 1), ?_, ?_, hA, ?_, ?_⟩
    · rw [List.singleton_append, ← List.drop_eq_getElem_cons hlt, List.take_append_drop]
    · rw [cond_true, List.set_eq_take_append_cons_drop, if_pos hlt]
    · intro b hbm
      obtain ⟨k, hk, rfl⟩ := List.getElem_of_mem hbm
      rw [List.length_drop] at hk
      rw [List.getElem_drop]
      rw [hb2, List.getElem?_eq_getElem hlt] at hb
      have h0 : keyC out[n].key x.key = 0 := by rw [← compare_key]; simpa using hb
      have h1 := srt_get h (show n < n + 1 + k by omega) (by omega)
      have h2 := (good_key.eq _ _).1 h0
      unfold RLt at *
      rw [← h2]; exact h1
    · intro y hy
      rw [List.mem_singleton] at hy
      subst hy
      rw [hb2, List.getElem?_eq_getElem hlt] at hb
      exact (good_key.eq _ _).1 (by rw [← compare_key]; simpa using hb)
theorem putR_not {out : List Rule} {x : Rule} (hs : rule_Sound x = false) : putR out x = out := by
  unfold putR
  rw [hs]
  rfl
theorem putR_srt {out : List Rule} (h : Srt out) (x : Rule) : Srt (putR out x) := by
  cases hs : rule_Sound x
  · rw [putR_not hs]; exact h
  · obtain ⟨A, mid, B, e1, e2, e3, e4, _⟩ := putR_split h hs
    rw [e2]
    subst e1
    obtain ⟨p1, p2, p3⟩ := List.pairwise_append.1 h
    obtain ⟨p4, p5, p6⟩ := List.pairwise_append.1 p2
    refine List.pairwise_append.2 ⟨p1, List.pairwise_cons.2 ⟨e4, p5⟩, fun a ha b hb => ?_⟩
    rcases List.mem_cons.1 hb with rfl | hb
    · exact e3 a ha
    · exact (e3 a ha).trans (e4 b hb)
theorem putR_look {out : List Rule} (h : Srt out) (x : Rule) (k : Key3) : look (putR out x) k = if rule_Sound x = true ∧ x.key = k then some x else look out k := by
  cases hs : rule_Sound x
  · rw [putR_not hs, if_neg (by simp)]
  · obtain ⟨A, mid, B, e1, e2, e3, e4, e5⟩ := putR_split h hs
    rw [e2, e1, look_append, look_append, look_append, look_cons]
    by_cases hk : x.key = k
    · rw [if_pos hk, if_pos ⟨rfl, hk⟩, look_none (l := A) (fun y hy e => RLt.irr y x (e.trans hk.symm) (e3 y hy))]
      rfl
    · rw [if_neg hk, if_neg (fun q => hk q.2), look_none (l := mid) (fun y hy e => hk ((e5 y hy).symm.trans e))]
      rfl
theorem putR_mem {out : List Rule} (h : Srt out) {x y : Rule} (hy : y ∈ putR out x) : y ∈ out ∨ (y = x ∧ rule_Sound x = true) := by
  cases hs : rule_Sound x
  · rw [putR_not hs] at hy; exact .inl hy
  · obtain ⟨A, mid, B, e1, e2, _⟩ := putR_split h hs
    rw [e2] at hy
    rw [e1]
    rcases List.mem_append.1 hy with q | q
    · exact .inl (by simp [q])
    · rcases List.mem_cons.1 q with q | q
      · exact .inr ⟨q, rfl⟩
      · exact .inl (by simp [q])
def last (l : List Rule) (k : Key3) : Option Rule := l.foldl (fun acc x => if rule_Sound x = true ∧ x.key = k then some x else acc) none
theorem last_init (l : List Rule) (k : Key3) : ∀ acc : Option Rule, l.foldl (fun acc x => if rule_Sound x = true ∧ x.key = k then some x else acc) acc = (last l k).or acc := by
  unfold last
  induction l with
  | nil => intro acc; simp
  | cons x l ih =>
    intro acc
    rw [List.foldl_cons, List.foldl_cons, ih, ih (if rule_Sound x = true ∧ x.key = k then some x else none)]
    by_cases q : rule_Sound x = true ∧ x.key = k
    · rw [if_pos q, if_pos q]
      cases List.foldl (fun acc x => if rule_Sound x = true ∧ x.key = k then some x else acc) none l <;> rfl
    · rw [if_neg q, if_neg q]
      cases List.foldl (fun acc x => if rule_Sound x = true ∧ x.key = k then some x else acc) none l <;> rfl
theorem last_append (a b : List Rule) (k : Key3) : last (a ++ b) k = (last b k).or (last a k) := by
  unfold last
  rw [List.foldl_append, last_init b]
  rfl
theorem last_cons (x : Rule) (l : List Rule) (k : Key3) : last (x :: l) k = (last l k).or (if rule_Sound x = true ∧ x.key = k then some x else none) := by
  unfold last
  rw [List.foldl_cons, last_init l]
  rfl
theorem fold_srt : ∀ (l out : List Rule), Srt out → Srt (l.foldl putR out)
  | [], out, h => h
  | x :: l, out, h => fold_srt l (putR out x) (putR_srt h x)
theorem fold_look (k : Key3) : ∀ (l out : List Rule), Srt out → look (l.foldl putR out) k = (last l k).or (look out k)
  | [], out, h => rfl
  | x :: l, out, h => by
      rw [List.foldl_cons, fold_look k l _ (putR_srt h x), putR_look h, last_cons]
      by_cases q : rule_Sound x = true ∧ x.key = k
      · rw [if_pos q, if_pos q]; cases last l k <;> rfl
      · rw [if_neg q, if_neg q]; cases last l k <;> rfl
theorem fold_sound : ∀ (l out : List Rule), Srt out → (∀ y ∈ out, rule_Sound y = true) → ∀ y ∈ l.foldl putR out, rule_Sound y = true
  | [], out, _, h => h
  | x :: l, out, hs, h => fold_sound l (putR out x) (putR_srt hs x) (fun y hy => by
      rcases putR_mem hs hy with q | ⟨q, q2⟩
      · exact h y q
      · rw [q]; exact q2)
theorem fold_len : ∀ (l out : List Rule), (l.foldl putR out).length ≤ out.length + l.length
  | [], out => by simp
  | x :: l, out => by
      have h1 := fold_len l (putR out x)
      have h2 := putR_len out x
      rw [List.foldl_cons, List.length_cons]
      omega
theorem sortR_srt (l : List Rule) : Srt (sortR l) := fold_srt l [] List.Pairwise.nil
theorem sortR_sound (l : List Rule) : ∀ y ∈ sortR l, rule_Sound y = true := fold_sound l [] List.Pairwise.nil (by simp)
theorem sortR_look (l : List Rule) (k : Key3) : look (sortR l) k = last l k := by
  unfold sortR
  rw [fold_look k l [] List.Pairwise.nil]
  show (last l k).or none = last l k
  cases last l k <;> rfl
theorem sortR_len (l : List Rule) : (sortR l).length ≤ l.length := by
  have := fold_len l []
  unfold sortR
  simpa using this
theorem last_look : ∀ (l : List Rule), Srt l → (∀ y ∈ l, rule_Sound y = true) → ∀ k, last l k = look l k
  | [], _, _, k => rfl
  | x :: l, h, hs, k => by
      obtain ⟨h1, h2⟩ := List.pairwise_cons.1 h
      rw [last_cons, look_cons, last_look l h2 (fun y hy => hs y (by simp [hy])) k]
      by_cases q : x.key = k
      · rw [if_pos ⟨hs x (by simp), q⟩, if_pos q, look_none (fun y hy e => RLt.irr x y (q.trans e.symm) (h1 y hy))]
        rfl
      · rw [if_neg (fun z => q z.2), if_neg q]
        cases look l k <;> rfl
theorem look_mem {l : List Rule} {k : Key3} {x : Rule} (h : look l k = some x) : x ∈ l := List.mem_of_find?_eq_some h
theorem srt_uniq : ∀ (l r : List Rule), Srt l → Srt r → (∀ k, look l k = look r k) → l = r
  | [], [], _, _, _ => rfl
  | [], y :: r, _, _, h => by
      have := h y.key
      rw [look_cons, if_pos rfl] at this
      cases this
  | x :: l, [], _, _, h => by
      have := h x.key
      rw [look_cons, if_pos rfl] at this
      cases this
  | x :: l, y :: r, hl, hr, h => by
      obtain ⟨l1, l2⟩ := List.pairwise_cons.1 hl
      obtain ⟨r1, r2⟩ := List.pairwise_cons.1 hr
      have hx : x ∈ y :: r := look_mem (k := x.key) (by rw [← h x.key, look_cons, if_pos rfl])
      have hy : y ∈ x :: l := look_mem (k := y.key) (by rw [h y.key, look_cons, if_pos rfl])
      have hxy : x = y := by
        rcases List.mem_cons.1 hx with q | q
        · exact q
        · rcases List.mem_cons.1 hy with q2 | q2
          · exact q2.symm
          · exact absurd (l1 y q2) (RLt.asymm (r1 x q))
      subst hxy
      rw [srt_uniq l r l2 r2 (fun k => ?_)]
      by_cases q : x.key = k
      · rw [look_none (fun y hy e => RLt.irr x y (q.trans e.symm) (l1 y hy)), look_none (fun y hy e => RLt.irr x y (q.trans e.symm) (r1 y hy))]
      · have := h k
        rw [look_cons, look_cons, if_neg q, if_neg q] at this
        exact this
theorem sortR_self {l : List Rule} (h : Srt l) (hs : ∀ y ∈ l, rule_Sound y = true) : sortR l = l :=
  srt_uniq _ _ (sortR_srt l) h (fun k => by rw [sortR_look, last_look l h hs])
theorem sortR_joins (a b : List Rule) : sortR (a ++ b) = sortR (sortR a ++ sortR b) :=
  srt_uniq _ _ (sortR_srt _) (sortR_srt _) (fun k => by
    rw [sortR_look, sortR_look, last_append, last_append, last_look _ (sortR_srt a) (sortR_sound a), last_look _ (sortR_srt b) (sortR_sound b), sortR_look, sortR_look])

end Go.Proofs.Ytadolbhmdimbkaa

set_option linter.unusedVariables false
set_option linter.unusedSimpArgs false
set_option maxRecDepth 100000
set_option maxHeartbeats 4000000
namespace Go.Proofs.Ytadolbhmdimbkaa
open Go.Sh
/-! ### podestalaw05.RuleJoins: function 7 -/
noncomputable def podestalaw05_RuleJoins_F : Go.Sh.Fn := ⟨7, bodyOf Try.f7, 43⟩
def podestalaw05_RuleJoins_k1 : List Kd := [.pure, .pure]
def podestalaw05_RuleJoins_k5 : List Kd := [.pure, .pure, .pure, .pure, .pure, .pure, .pure, .pure, .pure, .pure, .read, .pure, .pure, .pure]
def podestalaw05_RuleJoins_k4 : List Kd := [.pure, .pure, .pure, .pure, .loud, .loud, .pure]
def podestalaw05_RuleJoins_k3 : List Kd := [.pure, .loud, .pure]
def podestalaw05_RuleJoins_k2 : List Kd := [.pure, .pure, .loud, .pure, .loud, .pure]
def podestalaw05_RuleJoins_k0 : List Kd := [.pure, .pure, .pure, .pure, .pure, .pure, .pure, .pure]
def podestalaw05_RuleJoins_raw (a : List Rule) (b : List Rule) : Option (Bool) :=
  (bif ((decide ((((List.map Rule.av a).length : Nat) : Int) > 20)) || (decide ((((List.map Rule.av b).length : Nat) : Int) > 20))) then
    some true
  else
    fitO (([] : List Rule).length + a.length) 272 (
    fitO ((([] : List Rule) ++ a).length + b.length) 272 (
    fitO ((sortR a).length + (sortR b).length) 272 (
    some ((rule_Same (sortR ((([] : List Rule) ++ a) ++ b)) (sortR ((sortR a) ++ (sortR b)))) && (decide ((((List.map Rule.av (sortR ((([] : List Rule) ++ a) ++ b))).length : Nat) : Int) ≤ (((List.map Rule.av ((([] : List Rule) ++ a) ++ b)).length : Nat) : Int))))))))
theorem podestalaw05_RuleJoins_walk (a : List Rule) (b : List Rule) (f_a : Bool) (f_b : Bool) (r : Bool) (H : podestalaw05_RuleJoins_raw a b = some r) :
    ACalls Try.prog tab.S 7 [.sl 34 (List.map Rule.av a) f_a, .sl 34 (List.map Rule.av b) f_b] [] (.sc (.bool r)) [] := by
  have hG := tab_ok
  have hm := mixed
  refine ACalls.of_AR (G := tab) podestalaw05_RuleJoins_F (fn := Try.f7) Try.func7 (by kernel_rfl) (by kernel_rfl) (by kernel_rfl) (Nat.le_of_ble_eq_true (by kernel_rfl)) ?_
  intro c0 hc0
  replace hc0 : c0.m.length = 0 := hc0
  rw [podestalaw05_RuleJoins_raw] at H
  refine AR.seg hG hm 4 [0, 1] (k' := [.code [1, 0, 0], .code [1, 0, 1], .code [1, 1]]) (t' := [(0, .sl 34 (List.map Rule.av a) f_a), (1, .sl 34 (List.map Rule.av b) f_b)]) (h' := []) (by kernel_rfl) ?_
  refine AR.reg hm podestalaw05_RuleJoins_k0 (by kernel_rfl) ?_
  refine DK.seg hG 4 [0, 1, 11] (t' := [(0, .sl 34 (List.map Rule.av a) f_a), (1, .sl 34 (List.map Rule.av b) f_b), (11, .sc (.bool (decide ((((List.map Rule.av a).length : Nat) : Int) > 20))))]) (h' := []) (by kernel_rfl) rfl ?_
  refine DK.mux 11 (decide ((((List.map Rule.av a).length : Nat) : Int) > 20)) (j := 8) (h' := []) (by kernel_rfl) (fun z => [(0, .sl 34 (List.map Rule.av a) f_a), (1, .sl 34 (List.map Rule.av b) f_b), (15, .sc (.bool (z || (decide ((((List.map Rule.av b).length : Nat) : Int) > 20)))))]) ?J1 (fun hb J => ?ht1) (fun hb J => ?hf1)
  case ht1 =>
    exact DK.seg hG 4 [0, 1, 15] (by kernel_rfl) rfl J
  case hf1 =>
    exact DK.seg hG 4 [0, 1, 15] (by kernel_rfl) rfl J
  refine DK.done (by kernel_rfl) (by kernel_rfl) ?_
  refine AR.cond (.tmp 15) ((decide ((((List.map Rule.av a).length : Nat) : Int) > 20)) || (decide ((((List.map Rule.av b).length : Nat) : Int) > 20))) (by kernel_rfl) (by kernel_rfl) (fun hb => ?ht2) (fun hb => ?hf2)
  case ht2 =>
    replace H := cond_t hb H
    refine AR.seg hG hm 1 [] (k' := [.code [1, 0, 1, 0, 0], .code [1, 0, 1, 0, 1], .code [1, 1]]) (t' := []) (h' := []) (by kernel_rfl) ?_
    refine AR.reg hm podestalaw05_RuleJoins_k1 (by kernel_rfl) ?_
    refine DK.op' [16] (t' := [(16, .sc (.bool true))]) (h' := []) (LSpec.callP' (podestalaw05_answers_ok) (by kernel_rfl)) (by kernel_rfl) rfl (by kernel_rfl) rfl ?_
    refine DK.seg hG 1 [4] (t' := [(4, .sc (.bool true))]) (h' := []) (by kernel_rfl) rfl ?_
    refine DK.done (by kernel_rfl) (by kernel_rfl) ?_
    obtain rfl := Option.some.inj H
    exact AR.ret0 (fn := Try.f7) hG Try.func7 (by kernel_rfl) hc0 (r0 := .sc (.bool true)) (by kernel_rfl) (WkV.refl _)
  case hf2 =>
    replace H := cond_f hb H
    refine AR.seg hG hm 2 [0, 1] (k' := [.code [1, 1, 0], .code [1, 1, 1]]) (t' := [(0, .sl 34 (List.map Rule.av a) f_a), (1, .sl 34 (List.map Rule.av b) f_b)]) (h' := []) (by kernel_rfl) ?_
    refine AR.reg hm podestalaw05_RuleJoins_k2 (by kernel_rfl) ?_
    refine DK.seg hG 2 [0, 1, 17, 18] (t' := [(0, .sl 34 (List.map Rule.av a) f_a), (1, .sl 34 (List.map Rule.av b) f_b), (17, .sl 34 (List.map Rule.av []) true), (18, .sl 34 (List.map Rule.av a) f_a)]) (h' := []) (by kernel_rfl) rfl ?_
    obtain ⟨hfit, H⟩ := fitO_some H
    refine DK.op' [0, 1, 19] (t' := [(0, .sl 34 (List.map Rule.av a) f_a), (1, .sl 34 (List.map Rule.av b) f_b), (19, .own 0 1000000)]) (h' := [.row 34 (List.map Rule.av (([] : List Rule) ++ a)) 1000000 true]) (LSpec.appendB hG Rule.av ([] : List Rule) a 34 272 rfl hfit (by kernel_rfl)) (by kernel_rfl) (by kernel_rfl) (by kernel_rfl) rfl ?_
    refine DK.seg hG 1 [0, 1, 19, 20] (t' := [(0, .sl 34 (List.map Rule.av a) f_a), (1, .sl 34 (List.map Rule.av b) f_b), (19, .own 0 1000000), (20, .sl 34 (List.map Rule.av b) f_b)]) (h' := [.row 34 (List.map Rule.av (([] : List Rule) ++ a)) 1000000 true]) (by kernel_rfl) rfl ?_
    obtain ⟨hfit, H⟩ := fitO_some H
    refine DK.op' [0, 1, 21] (t' := [(0, .sl 34 (List.map Rule.av a) f_a), (1, .sl 34 (List.map Rule.av b) f_b), (21, .own 0 1000001)]) (h' := [.row 34 (List.map Rule.av ((([] : List Rule) ++ a) ++ b)) 1000001 true]) (LSpec.append' hG Rule.av (([] : List Rule) ++ a) b 0 1000000 34 272 hfit (by kernel_rfl)) (by kernel_rfl) (by kernel_rfl) (by kernel_rfl) rfl ?_
    refine DK.seg hG 1 [0, 1, 5] (t' := [(0, .sl 34 (List.map Rule.av a) f_a), (1, .sl 34 (List.map Rule.av b) f_b), (5, .own 0 1000001)]) (h' := [.row 34 (List.map Rule.av ((([] : List Rule) ++ a) ++ b)) 1000001 true]) (by kernel_rfl) rfl ?_
    refine DK.done (by kernel_rfl) (by kernel_rfl) ?_
    refine AR.seg hG hm 1 [0, 1, 5] (k' := [.code [1, 1, 1, 0], .code [1, 1, 1, 1]]) (t' := [(0, .sl 34 (List.map Rule.av a) f_a), (1, .sl 34 (List.map Rule.av b) f_b), (5, .own 0 1000001)]) (h' := [.row 34 (List.map Rule.av ((([] : List Rule) ++ a) ++ b)) 1000001 true]) (by kernel_rfl) ?_
    refine AR.reg hm podestalaw05_RuleJoins_k3 (by kernel_rfl) ?_
    refine DK.seg hG 1 [0, 1, 5, 22] (t' := [(0, .sl 34 (List.map Rule.av a) f_a), (1, .sl 34 (List.map Rule.av b) f_b), (5, .own 0 1000001), (22, .own 0 1000001)]) (h' := [.row 34 (List.map Rule.av ((([] : List Rule) ++ a) ++ b)) 1000001 true]) (by kernel_rfl) rfl ?_
    refine DK.op' [0, 1, 5, 23] (t' := [(0, .sl 34 (List.map Rule.av a) f_a), (1, .sl 34 (List.map Rule.av b) f_b), (5, .own 0 1000001), (23, .sl 34 (List.map Rule.av (sortR ((([] : List Rule) ++ a) ++ b))) true)]) (h' := [.row 34 (List.map Rule.av ((([] : List Rule) ++ a) ++ b)) 1000001 false]) (LSpec.callC' [0] (rule_Sort_ok ((([] : List Rule) ++ a) ++ b) false) (by kernel_rfl) (by kernel_rfl)) (by kernel_rfl) (by kernel_rfl) (by kernel_rfl) rfl ?_
    refine DK.seg hG 1 [0, 1, 5, 6] (t' := [(0, .sl 34 (List.map Rule.av a) f_a), (1, .sl 34 (List.map Rule.av b) f_b), (5, .own 0 1000001), (6, .sl 34 (List.map Rule.av (sortR ((([] : List Rule) ++ a) ++ b))) true)]) (h' := [.row 34 (List.map Rule.av ((([] : List Rule) ++ a) ++ b)) 1000001 false]) (by kernel_rfl) rfl ?_
    refine DK.done (by kernel_rfl) (by kernel_rfl) ?_
    refine AR.seg hG hm 1 [0, 1, 5, 6] (k' := [.code [1, 1, 1, 1, 0], .code [1, 1, 1, 1, 1]]) (t' := [(0, .sl 34 (List.map Rule.av a) f_a), (1, .sl 34 (List.map Rule.av b) f_b), (5, .own 0 1000001), (6, .sl 34 (List.map Rule.av (sortR ((([] : List Rule) ++ a) ++ b))) true)]) (h' := [.row 34 (List.map Rule.av ((([] : List Rule) ++ a) ++ b)) 1000001 false]) (by kernel_rfl) ?_
    refine AR.reg hm podestalaw05_RuleJoins_k4 (by kernel_rfl) ?_
    refine DK.seg hG 1 [1, 5, 6, 24] (t' := [(1, .sl 34 (List.map Rule.av b) f_b), (5, .own 0 1000001), (6, .sl 34 (List.map Rule.av (sortR ((([] : List Rule) ++ a) ++ b))) true), (24, .sl 34 (List.map Rule.av a) f_a)]) (h' := [.row 34 (List.map Rule.av ((([] : List Rule) ++ a) ++ b)) 1000001 false]) (by kernel_rfl) rfl ?_
    refine DK.op' [1, 5, 6, 25] (t' := [(1, .sl 34 (List.map Rule.av b) f_b), (5, .own 0 1000001), (6, .sl 34 (List.map Rule.av (sortR ((([] : List Rule) ++ a) ++ b))) true), (25, .sl 34 (List.map Rule.av (sortR a)) true)]) (h' := [.row 34 (List.map Rule.av ((([] : List Rule) ++ a) ++ b)) 1000001 false]) (LSpec.callP' (rule_Sort_ok a f_a) (by kernel_rfl)) (by kernel_rfl) rfl (by kernel_rfl) rfl ?_
    refine DK.seg hG 1 [5, 6, 25, 26] (t' := [(5, .own 0 1000001), (6, .sl 34 (List.map Rule.av (sortR ((([] : List Rule) ++ a) ++ b))) true), (25, .sl 34 (List.map Rule.av (sortR a)) true), (26, .sl 34 (List.map Rule.av b) f_b)]) (h' := [.row 34 (List.map Rule.av ((([] : List Rule) ++ a) ++ b)) 1000001 false]) (by kernel_rfl) rfl ?_
    refine DK.op' [5, 6, 25, 27] (t' := [(5, .own 0 1000001), (6, .sl 34 (List.map Rule.av (sortR ((([] : List Rule) ++ a) ++ b))) true), (25, .sl 34 (List.map Rule.av (sortR a)) true), (27, .sl 34 (List.map Rule.av (sortR b)) true)]) (h' := [.row 34 (List.map Rule.av ((([] : List Rule) ++ a) ++ b)) 1000001 false]) (LSpec.callP' (rule_Sort_ok b f_b) (by kernel_rfl)) (by kernel_rfl) rfl (by kernel_rfl) rfl ?_
    obtain ⟨hfit, H⟩ := fitO_some H
    refine DK.op' [5, 6, 28] (t' := [(5, .own 0 1000001), (6, .sl 34 (List.map Rule.av (sortR ((([] : List Rule) ++ a) ++ b))) true), (28, .own 1 1)]) (h' := [.row 34 (List.map Rule.av ((([] : List Rule) ++ a) ++ b)) 1000001 false, .row 34 (List.map Rule.av ((sortR a) ++ (sortR b))) 1 true]) (LSpec.appendN hG Rule.av (sortR a) (sortR b) 34 272 hfit (by kernel_rfl)) (by kernel_rfl) (by kernel_rfl) (by kernel_rfl) rfl ?_
    refine DK.op' [5, 6, 29] (t' := [(5, .own 0 1000001), (6, .sl 34 (List.map Rule.av (sortR ((([] : List Rule) ++ a) ++ b))) true), (29, .sl 34 (List.map Rule.av (sortR ((sortR a) ++ (sortR b)))) true)]) (h' := [.row 34 (List.map Rule.av ((([] : List Rule) ++ a) ++ b)) 1000001 false, .row 34 (List.map Rule.av ((sortR a) ++ (sortR b))) 1 false]) (LSpec.callC' [1] (rule_Sort_ok ((sortR a) ++ (sortR b)) false) (by kernel_rfl) (by kernel_rfl)) (by kernel_rfl) (by kernel_rfl) (by kernel_rfl) rfl ?_
    refine DK.seg hG 1 [5, 6, 7] (t' := [(5, .own 0 1000001), (6, .sl 34 (List.map Rule.av (sortR ((([] : List Rule) ++ a) ++ b))) true), (7, .sl 34 (List.map Rule.av (sortR ((sortR a) ++ (sortR b)))) true)]) (h' := [.row 34 (List.map Rule.av ((([] : List Rule) ++ a) ++ b)) 1000001 false, .row 34 (List.map Rule.av ((sortR a) ++ (sortR b))) 1 false]) (by kernel_rfl) rfl ?_
    refine DK.done (by kernel_rfl) (by kernel_rfl) ?_
    refine AR.seg hG hm 1 [5, 6, 7] (k' := [.code [1, 1, 1, 1, 1, 0], .code [1, 1, 1, 1, 1, 1]]) (t' := [(5, .own 0 1000001), (6, .sl 34 (List.map Rule.av (sortR ((([] : List Rule) ++ a) ++ b))) true), (7, .sl 34 (List.map Rule.av (sortR ((sortR a) ++ (sortR b)))) true)]) (h' := [.row 34 (List.map Rule.av ((([] : List Rule) ++ a) ++ b)) 1000001 false, .row 34 (List.map Rule.av ((sortR a) ++ (sortR b))) 1 false]) (by kernel_rfl) ?_
    refine AR.reg hm podestalaw05_RuleJoins_k5 (by kernel_rfl) ?_
    refine DK.op' [5, 6, 7, 30] (t' := [(5, .own 0 1000001), (6, .sl 34 (List.map Rule.av (sortR ((([] : List Rule) ++ a) ++ b))) true), (7, .sl 34 (List.map Rule.av (sortR ((sortR a) ++ (sortR b)))) true), (30, .sc (.bool true))]) (h' := [.row 34 (List.map Rule.av ((([] : List Rule) ++ a) ++ b)) 1000001 false, .row 34 (List.map Rule.av ((sortR a) ++ (sortR b))) 1 false]) (LSpec.callP' (podestalaw05_answers_ok) (by kernel_rfl)) (by kernel_rfl) rfl (by kernel_rfl) rfl ?_
    refine DK.seg hG 3 [5, 6, 31, 32, 33] (t' := [(5, .own 0 1000001), (6, .sl 34 (List.map Rule.av (sortR ((([] : List Rule) ++ a) ++ b))) true), (31, .sc (.bool true)), (32, .sl 34 (List.map Rule.av (sortR ((([] : List Rule) ++ a) ++ b))) true), (33, .sl 34 (List.map Rule.av (sortR ((sortR a) ++ (sortR b)))) true)]) (h' := [.row 34 (List.map Rule.av ((([] : List Rule) ++ a) ++ b)) 1000001 false, .row 34 (List.map Rule.av ((sortR a) ++ (sortR b))) 1 false]) (by kernel_rfl) rfl ?_
    refine DK.op' [5, 6, 31, 34] (t' := [(5, .own 0 1000001), (6, .sl 34 (List.map Rule.av (sortR ((([] : List Rule) ++ a) ++ b))) true), (31, .sc (.bool true)), (34, .sc (.bool (rule_Same (sortR ((([] : List Rule) ++ a) ++ b)) (sortR ((sortR a) ++ (sortR b))))))]) (h' := [.row 34 (List.map Rule.av ((([] : List Rule) ++ a) ++ b)) 1000001 false, .row 34 (List.map Rule.av ((sortR a) ++ (sortR b))) 1 false]) (LSpec.callP' (rule_Same_calls (sortR ((([] : List Rule) ++ a) ++ b)) (sortR ((sortR a) ++ (sortR b))) true true) (by kernel_rfl)) (by kernel_rfl) rfl (by kernel_rfl) rfl ?_
    refine DK.seg hG 2 [5, 6, 36] (t' := [(5, .own 0 1000001), (6, .sl 34 (List.map Rule.av (sortR ((([] : List Rule) ++ a) ++ b))) true), (36, .sc (.bool (rule_Same (sortR ((([] : List Rule) ++ a) ++ b)) (sortR ((sortR a) ++ (sortR b))))))]) (h' := [.row 34 (List.map Rule.av ((([] : List Rule) ++ a) ++ b)) 1000001 false, .row 34 (List.map Rule.av ((sortR a) ++ (sortR b))) 1 false]) (by kernel_rfl) rfl ?_
    refine DK.mux 36 (rule_Same (sortR ((([] : List Rule) ++ a) ++ b)) (sortR ((sortR a) ++ (sortR b)))) (j := 13) (h' := [.row 34 (List.map Rule.av ((([] : List Rule) ++ a) ++ b)) 1000001 false, .row 34 (List.map Rule.av ((sortR a) ++ (sortR b))) 1 false]) (by kernel_rfl) (fun z => [(42, .sc (.bool (z && (decide ((((List.map Rule.av (sortR ((([] : List Rule) ++ a) ++ b))).length : Nat) : Int) ≤ (((List.map Rule.av ((([] : List Rule) ++ a) ++ b)).length : Nat) : Int))))))]) ?J3 (fun hb J => ?ht3) (fun hb J => ?hf3)
    case ht3 =>
      exact DK.seg hG 6 [42] (by kernel_rfl) rfl J
    case hf3 =>
      exact DK.seg hG 6 [42] (by kernel_rfl) rfl J
    refine DK.seg hG 1 [4] (t' := [(4, .sc (.bool ((rule_Same (sortR ((([] : List Rule) ++ a) ++ b)) (sortR ((sortR a) ++ (sortR b)))) && (decide ((((List.map Rule.av (sortR ((([] : List Rule) ++ a) ++ b))).length : Nat) : Int) ≤ (((List.map Rule.av ((([] : List Rule) ++ a) ++ b)).length : Nat) : Int))))))]) (h' := [.row 34 (List.map Rule.av ((([] : List Rule) ++ a) ++ b)) 1000001 false, .row 34 (List.map Rule.av ((sortR a) ++ (sortR b))) 1 false]) (by kernel_rfl) rfl ?_
    refine DK.done (by kernel_rfl) (by kernel_rfl) ?_
    obtain rfl := Option.some.inj H
    exact AR.ret0 (fn := Try.f7) hG Try.func7 (by kernel_rfl) hc0 (r0 := .sc (.bool ((rule_Same (sortR ((([] : List Rule) ++ a) ++ b)) (sortR ((sortR a) ++ (sortR b)))) && (decide ((((List.map Rule.av (sortR ((([] : List Rule) ++ a) ++ b))).length : Nat) : Int) ≤ (((List.map Rule.av ((([] : List Rule) ++ a) ++ b)).length : Nat) : Int)))))) (by kernel_rfl) (WkV.refl _)

theorem RuleJoins_true (a b : List Rule) (_ : ∀ y ∈ a, Rule.wf y) (_ : ∀ y ∈ b, Rule.wf y) (_ : a.length * 272 ≤ 140737488355328) (_ : b.length * 272 ≤ 140737488355328) : podestalaw05_RuleJoins_raw a b = some true := by
  rw [podestalaw05_RuleJoins_raw]
  simp only [List.length_map]
  by_cases ha : a.length > 20
  · rw [decide_eq_true (show ((a.length : Nat) : Int) > 20 by omega)]; rfl
  by_cases hb : b.length > 20
  · rw [decide_eq_true (show ((b.length : Nat) : Int) > 20 by omega), Bool.or_true]; rfl
  have h1 := sortR_len a
  have h2 := sortR_len b
  have h3 := sortR_len (a ++ b)
  rw [decide_eq_false (by omega), decide_eq_false (by omega), nil_app, fitO_eq (by rw [List.length_nil]; omega), fitO_eq (by omega), fitO_eq (by omega)]
  simp only [Bool.or_self, cond_false, rule_Same_eq, ← sortR_joins, beq_self_eq_true, Bool.true_and, Option.some.injEq, decide_eq_true_eq]
  omega

end Go.Proofs.Ytadolbhmdimbkaa

set_option linter.unusedVariables false
set_option linter.unusedSimpArgs false
set_option maxRecDepth 100000
set_option maxHeartbeats 4000000
namespace Go.Proofs.Ytadolbhmdimbkaa
open Go.Sh
/-! ### rule.Copy: function 25 -/
noncomputable def rule_Copy_F : Go.Sh.Fn := ⟨25, bodyOf Try.f25, 20⟩
def rule_Copy_k1 : List Kd := [.pure, .read, .pure, .pure, .loud, .pure]
def rule_Copy_k0 : List Kd := [.pure, .pure, .loud, .loud]
def rule_Copy_k2 : List Kd := [.pure, .loud, .pure]
def rule_Copy_l0s : List Rule → List Rule → Option ((List Rule))
  | [], out =>
    some out
  | x :: rest, out =>
    fitO (out.length + [(rule_copied x)].length) 272 (
    rule_Copy_l0s rest (out ++ [(rule_copied x)]))
theorem rule_Copy_l0_walk (list : List Rule) (f_list : Bool) (r : (List Rule)) (c0 : Ctx) (hc0 : c0.m.length = 0) (res : (List Rule)) (J : AR Try.prog tab rule_Copy_F c0 (Rp tab.S c0 (.sl 34 (List.map Rule.av r) true) []) [.code [1, 1, 1]] [(3, .own 0 1000000)] [.row 34 (List.map Rule.av res) 1000000 true]) :
    ∀ (rest : List Rule) (t8 : Nat) (hd : list.drop t8 = rest) (out : List Rule) (H : rule_Copy_l0s rest out = some res), AR Try.prog tab rule_Copy_F c0 (Rp tab.S c0 (.sl 34 (List.map Rule.av r) true) []) [.code [1, 1, 0, 1, 0, 0], .loop [1, 1, 0, 1, 0], .blk 0, .code [1, 1, 1]] [(3, .own 0 1000000), (6, .sl 34 (List.map Rule.av list) f_list), (7, .sc (.int .i64 (((List.map Rule.av list).length : Nat) : Int))), (8, .sc (.int .i64 ((t8 : Nat) : Int)))] [.row 34 (List.map Rule.av out) 1000000 true] := by
  have hG := tab_ok
  have hm := mixed
  intro rest
  induction rest with
  | nil =>
    intro t8 hd out H
    rw [rule_Copy_l0s] at H
    refine AR.facts 6 rfl fun hf => ?_
    have hlen : list.length ≤ 9223372036854775807 := by have hq := len_ok hf.2.1; rw [List.length_map] at hq; exact hq
    have hge : list.length ≤ t8 := List.drop_eq_nil_iff.1 hd
    have hc : (decide (((t8 : Nat) : Int) < (((List.map Rule.av list).length : Nat) : Int))) = false := by rw [List.length_map]; exact decide_eq_false (by omega)
    refine AR.seg hG hm 3 [3, 6, 7, 8, 9] (k' := [.code [1, 1, 0, 1, 0, 0, 1, 0], .code [1, 1, 0, 1, 0, 0, 1, 1], .loop [1, 1, 0, 1, 0], .blk 0, .code [1, 1, 1]]) (t' := [(3, .own 0 1000000), (6, .sl 34 (List.map Rule.av list) f_list), (7, .sc (.int .i64 (((List.map Rule.av list).length : Nat) : Int))), (8, .sc (.int .i64 ((t8 : Nat) : Int))), (9, .sc (.bool (decide (((t8 : Nat) : Int) < (((List.map Rule.av list).length : Nat) : Int)))))]) (h' := [.row 34 (List.map Rule.av out) 1000000 true]) (by kernel_rfl) ?_
    refine AR.cond (.tmp 9) (decide (((t8 : Nat) : Int) < (((List.map Rule.av list).length : Nat) : Int))) (by kernel_rfl) (by kernel_rfl) (fun hb => ?ht5) (fun hb => ?hf5)
    case ht5 => exact absurd (hb.symm.trans hc) (by decide)
    case hf5 =>
      refine AR.seg hG hm 1 [3] (k' := [.code [1, 1, 1]]) (t' := [(3, .own 0 1000000)]) (h' := [.row 34 (List.map Rule.av out) 1000000 true]) (by kernel_rfl) ?_
      refine AR.keep [3] (t' := [(3, .own 0 1000000)]) (by kernel_rfl) ?_
      obtain rfl := Option.some.inj H
      exact J
  | cons x rest ih =>
    intro t8 hd out H
    rw [rule_Copy_l0s] at H
    refine AR.facts 6 rfl fun hf => ?_
    have hlen : list.length ≤ 9223372036854775807 := by have hq := len_ok hf.2.1; rw [List.length_map] at hq; exact hq
    obtain ⟨hlt, hv_t8, hd2⟩ := drop_cons hd
    have hc : (decide (((t8 : Nat) : Int) < (((List.map Rule.av list).length : Nat) : Int))) = true := by rw [List.length_map]; exact decide_eq_true (by omega)
    have hw : IntKind.i64.wrap (((t8 : Nat) : Int) + 1) = ((t8 + 1 : Nat) : Int) := wrapI_succ (by omega)
    refine AR.seg hG hm 3 [3, 6, 7, 8, 9] (k' := [.code [1, 1, 0, 1, 0, 0, 1, 0], .code [1, 1, 0, 1, 0, 0, 1, 1], .loop [1, 1, 0, 1, 0], .blk 0, .code [1, 1, 1]]) (t' := [(3, .own 0 1000000), (6, .sl 34 (List.map Rule.av list) f_list), (7, .sc (.int .i64 (((List.map Rule.av list).length : Nat) : Int))), (8, .sc (.int .i64 ((t8 : Nat) : Int))), (9, .sc (.bool (decide (((t8 : Nat) : Int) < (((List.map Rule.av list).length : Nat) : Int)))))]) (h' := [.row 34 (List.map Rule.av out) 1000000 true]) (by kernel_rfl) ?_
    refine AR.cond (.tmp 9) (decide (((t8 : Nat) : Int) < (((List.map Rule.av list).length : Nat) : Int))) (by kernel_rfl) (by kernel_rfl) (fun hb => ?ht6) (fun hb => ?hf6)
    case ht6 =>
      refine AR.seg hG hm 4 [3, 6, 7, 8] (k' := [.code [1, 1, 0, 1, 0, 0, 1, 1, 0, 0, 0], .code [1, 1, 0, 1, 0, 0, 1, 1, 0, 0, 1], .blk 1, .code [1, 1, 0, 1, 0, 0, 1, 1, 1], .loop [1, 1, 0, 1, 0], .blk 0, .code [1, 1, 1]]) (t' := [(3, .own 0 1000000), (6, .sl 34 (List.map Rule.av list) f_list), (7, .sc (.int .i64 (((List.map Rule.av list).length : Nat) : Int))), (8, .sc (.int .i64 ((t8 : Nat) : Int)))]) (h' := [.row 34 (List.map Rule.av out) 1000000 true]) (by kernel_rfl) ?_
      refine AR.reg hm rule_Copy_k0 (by kernel_rfl) ?_
      refine DK.op' [3, 6, 7, 8, 10] (t' := [(3, .own 0 1000000), (6, .sl 34 (List.map Rule.av list) f_list), (7, .sc (.int .i64 (((List.map Rule.av list).length : Nat) : Int))), (8, .sc (.int .i64 ((t8 : Nat) : Int))), (10, .ep [.arr .u64 12 x.Match.Value, .arr .u64 12 x.Match.Care, .sc (.int .i64 x.Prio), .sl 42 (List.map Act.av x.Acts) false, .sc (.int .i64 x.Idle), .sc (.int .i64 x.Hard), .sc (.int .i64 x.Owner), .sc (.int .i64 x.Hits), .sc (.int .i64 x.Quiet), .sc (.int .i64 x.Age)] 0 none)]) (h' := [.row 34 (List.map Rule.av out) 1000000 true]) (LSpec.index' (r := Rule.av x) (fs := [.arr .u64 12 x.Match.Value, .arr .u64 12 x.Match.Care, .sc (.int .i64 x.Prio), .sl 42 (List.map Act.av x.Acts) false, .sc (.int .i64 x.Idle), .sc (.int .i64 x.Hard), .sc (.int .i64 x.Owner), .sc (.int .i64 x.Hits), .sc (.int .i64 x.Quiet), .sc (.int .i64 x.Age)]) hG (rows := List.map Rule.av list) (j := ((t8 : Nat) : Int)) (by kernel_rfl) (ixO_map hv_t8 _) (by kernel_rfl)) (by kernel_rfl) rfl (by kernel_rfl) rfl ?_
      refine DK.seg hG 3 [3, 5, 6, 7, 8] (t' := [(3, .own 0 1000000), (5, .ptr 1 0 none), (6, .sl 34 (List.map Rule.av list) f_list), (7, .sc (.int .i64 (((List.map Rule.av list).length : Nat) : Int))), (8, .sc (.int .i64 ((t8 : Nat) : Int)))]) (h' := [.row 34 (List.map Rule.av out) 1000000 true, .box 34 (Rule.ch x)]) (by kernel_rfl) rfl ?_
      refine DK.done (by kernel_rfl) (by kernel_rfl) ?_
      refine AR.reg hm rule_Copy_k1 (by kernel_rfl) ?_
      refine DK.seg hG 2 [6, 7, 8, 12, 13] (t' := [(6, .sl 34 (List.map Rule.av list) f_list), (7, .sc (.int .i64 (((List.map Rule.av list).length : Nat) : Int))), (8, .sc (.int .i64 ((t8 : Nat) : Int))), (12, .own 0 1000000), (13, Rule.av x)]) (h' := [.row 34 (List.map Rule.av out) 1000000 true, .box 34 (Rule.ch x)]) (by kernel_rfl) rfl ?_
      refine DK.op' [6, 7, 8, 12, 14] (t' := [(6, .sl 34 (List.map Rule.av list) f_list), (7, .sc (.int .i64 (((List.map Rule.av list).length : Nat) : Int))), (8, .sc (.int .i64 ((t8 : Nat) : Int))), (12, .own 0 1000000), (14, Rule.av (rule_copied x))]) (h' := [.row 34 (List.map Rule.av out) 1000000 true, .box 34 (Rule.ch x)]) (LSpec.callP' (rule_copied_calls x) (by kernel_rfl)) (by kernel_rfl) rfl (by kernel_rfl) rfl ?_
      refine DK.seg hG 1 [6, 7, 8, 12, 15] (t' := [(6, .sl 34 (List.map Rule.av list) f_list), (7, .sc (.int .i64 (((List.map Rule.av list).length : Nat) : Int))), (8, .sc (.int .i64 ((t8 : Nat) : Int))), (12, .own 0 1000000), (15, .sl 34 (List.map Rule.av [(rule_copied x)]) true)]) (h' := [.row 34 (List.map Rule.av out) 1000000 true, .box 34 (Rule.ch x)]) (by kernel_rfl) rfl ?_
      obtain ⟨hfit, H⟩ := fitO_some H
      refine DK.op' [6, 7, 8, 16] (t' := [(6, .sl 34 (List.map Rule.av list) f_list), (7, .sc (.int .i64 (((List.map Rule.av list).length : Nat) : Int))), (8, .sc (.int .i64 ((t8 : Nat) : Int))), (16, .own 0 1000001)]) (h' := [.row 34 (List.map Rule.av (out ++ [(rule_copied x)])) 1000001 true, .box 34 (Rule.ch x)]) (LSpec.append' hG Rule.av out [(rule_copied x)] 0 1000000 34 272 hfit (by kernel_rfl)) (by kernel_rfl) (by kernel_rfl) (by kernel_rfl) rfl ?_
      refine DK.seg hG 1 [3, 6, 7, 8] (t' := [(3, .own 0 1000001), (6, .sl 34 (List.map Rule.av list) f_list), (7, .sc (.int .i64 (((List.map Rule.av list).length : Nat) : Int))), (8, .sc (.int .i64 ((t8 : Nat) : Int)))]) (h' := [.row 34 (List.map Rule.av (out ++ [(rule_copied x)])) 1000001 true, .box 34 (Rule.ch x)]) (by kernel_rfl) rfl ?_
      refine DK.done (by kernel_rfl) (by kernel_rfl) ?_
      refine AR.seg hG hm 2 [3, 6, 7, 8] (k' := [.loop [1, 1, 0, 1, 0], .blk 0, .code [1, 1, 1]]) (t' := [(3, .own 0 1000001), (6, .sl 34 (List.map Rule.av list) f_list), (7, .sc (.int .i64 (((List.map Rule.av list).length : Nat) : Int))), (8, .sc (.int .i64 (IntKind.i64.wrap (((t8 : Nat) : Int) + 1))))]) (h' := [.row 34 (List.map Rule.av (out ++ [(rule_copied x)])) 1000001 true, .box 34 (Rule.ch x)]) (by kernel_rfl) ?_
      refine AR.keep [3, 6, 7, 8] (t' := [(3, .own 0 1000001), (6, .sl 34 (List.map Rule.av list) f_list), (7, .sc (.int .i64 (((List.map Rule.av list).length : Nat) : Int))), (8, .sc (.int .i64 (IntKind.i64.wrap (((t8 : Nat) : Int) + 1))))]) (by kernel_rfl) ?_
      refine AR.norm' 0 1000000 hc0 (t' := [(3, .own 0 1000000), (6, .sl 34 (List.map Rule.av list) f_list), (7, .sc (.int .i64 (((List.map Rule.av list).length : Nat) : Int))), (8, .sc (.int .i64 (IntKind.i64.wrap (((t8 : Nat) : Int) + 1))))]) (h' := [.row 34 (List.map Rule.av (out ++ [(rule_copied x)])) 1000000 true, .box 34 (Rule.ch x)]) (by kernel_rfl) ?_
      refine AR.drop' 1 hc0 (t' := [(3, .own 0 1000000), (6, .sl 34 (List.map Rule.av list) f_list), (7, .sc (.int .i64 (((List.map Rule.av list).length : Nat) : Int))), (8, .sc (.int .i64 (IntKind.i64.wrap (((t8 : Nat) : Int) + 1))))]) (h' := [.row 34 (List.map Rule.av (out ++ [(rule_copied x)])) 1000000 true]) (by kernel_rfl) ?_
      refine AR.loop_round ?_
      rw [hw]
      exact ih (t8 + 1) hd2 (out ++ [(rule_copied x)]) H
    case hf6 => exact absurd (hc.symm.trans hb) (by decide)

def rule_Copy_raw (list : List Rule) : Option ((List Rule)) :=
  (rule_Copy_l0s list ([] : List Rule)).bind fun v =>
  some v
theorem rule_Copy_walk (list : List Rule) (f_list : Bool) (r : (List Rule)) (H : rule_Copy_raw list = some r) :
    ACalls Try.prog tab.S 25 [.sl 34 (List.map Rule.av list) f_list] [] (.sl 34 (List.map Rule.av r) true) [] := by
  have hG := tab_ok
  have hm := mixed
  refine ACalls.of_AR (G := tab) rule_Copy_F (fn := Try.f25) Try.func25 (by kernel_rfl) (by kernel_rfl) (by kernel_rfl) (Nat.le_of_ble_eq_true (by kernel_rfl)) ?_
  intro c0 hc0
  replace hc0 : c0.m.length = 0 := hc0
  rw [rule_Copy_raw] at H
  refine AR.seg hG hm 8 [3, 6, 7, 8] (k' := [.code [1, 1, 0, 1, 0], .blk 0, .code [1, 1, 1]]) (t' := [(3, .sl 0 [] true), (6, .sl 34 (List.map Rule.av list) f_list), (7, .sc (.int .i64 (((List.map Rule.av list).length : Nat) : Int))), (8, .sc (.int .i64 0))]) (h' := []) (by kernel_rfl) ?_
  refine AR.adoptB' 3 34 (t' := [(3, .own 0 1000000), (6, .sl 34 (List.map Rule.av list) f_list), (7, .sc (.int .i64 (((List.map Rule.av list).length : Nat) : Int))), (8, .sc (.int .i64 0))]) (h' := [.row 34 (List.map Rule.av ([] : List Rule)) 1000000 true]) (by kernel_rfl) ?_
  refine AR.keep [3, 6, 7, 8] (t' := [(3, .own 0 1000000), (6, .sl 34 (List.map Rule.av list) f_list), (7, .sc (.int .i64 (((List.map Rule.av list).length : Nat) : Int))), (8, .sc (.int .i64 0))]) (by kernel_rfl) ?_
  obtain ⟨v, hv, H⟩ := Option.bind_eq_some_iff.1 H
  refine AR.into (by kernel_rfl) ?_
  refine rule_Copy_l0_walk list f_list r c0 hc0 v ?_ list 0 rfl ([] : List Rule) hv
  refine AR.seg hG hm 1 [3] (k' := [.code [1, 1, 1, 0], .code [1, 1, 1, 1]]) (t' := [(3, .own 0 1000000)]) (h' := [.row 34 (List.map Rule.av v) 1000000 true]) (by kernel_rfl) ?_
  refine AR.reg hm rule_Copy_k2 (by kernel_rfl) ?_
  refine DK.seg hG 1 [18] (t' := [(18, .own 0 1000000)]) (h' := [.row 34 (List.map Rule.av v) 1000000 true]) (by kernel_rfl) rfl ?_
  refine DK.op' [19] (t' := [(19, .sl 34 (List.map Rule.av v) true)]) (h' := [.row 34 (List.map Rule.av v) 1000000 false]) (LSpec.callC' [0] (slices_Clip__api_Rule_calls v false) (by kernel_rfl) (by kernel_rfl)) (by kernel_rfl) (by kernel_rfl) (by kernel_rfl) rfl ?_
  refine DK.seg hG 1 [2] (t' := [(2, .sl 34 (List.map Rule.av v) true)]) (h' := [.row 34 (List.map Rule.av v) 1000000 false]) (by kernel_rfl) rfl ?_
  refine DK.done (by kernel_rfl) (by kernel_rfl) ?_
  obtain rfl := Option.some.inj H
  exact AR.ret0 (fn := Try.f25) hG Try.func25 (by kernel_rfl) hc0 (r0 := .sl 34 (List.map Rule.av v) true) (by kernel_rfl) (WkV.refl _)

theorem rule_Copy_l0s_eq : ∀ (l out : List Rule), (out.length + l.length) * 272 ≤ 140737488355328 → rule_Copy_l0s l out = some (out ++ l)
  | [], out, _ => by rw [rule_Copy_l0s, List.append_nil]
  | x :: l, out, h => by
      rw [List.length_cons] at h
      rw [rule_Copy_l0s, fitO_eq (by rw [List.length_cons, List.length_nil]; omega), rule_Copy_l0s_eq l (out ++ [rule_copied x]) (by rw [List.length_append, List.length_cons, List.length_nil]; omega), copied_eq, List.append_assoc]
      rfl
theorem rule_Copy_ok (l : List Rule) (f : Bool) : ACalls Try.prog tab.S 25 [.sl 34 (List.map Rule.av l) f] [] (.sl 34 (List.map Rule.av l) true) [] := by
  refine ACalls.facts (ent_of Try.func25 (by kernel_rfl) (by kernel_rfl)) fun hf => ?_
  have l0 : l.length * 272 ≤ 140737488355328 := by have h := hf.1.1; rw [List.length_map] at h; exact h
  refine rule_Copy_walk l f _ ?_
  rw [rule_Copy_raw, rule_Copy_l0s_eq l [] (by rw [List.length_nil, Nat.zero_add]; exact l0)]
  rfl

/-! ### rule.Table: function 26 -/
noncomputable def rule_Table_F : Go.Sh.Fn := ⟨26, bodyOf Try.f26, 30⟩
def rule_Table_k1 : List Kd := [.read, .pure, .pure, .pure, .pure, .pure, .pure, .pure, .pure, .pure, .pure, .pure, .read, .pure, .pure, .pure, .pure]
def rule_Table_k0 : List Kd := [.pure, .pure, .pure, .loud, .pure, .loud]
def rule_Table_l0s (list : List Rule) : List Rule → Nat → Option (Sum (Unit) (Bool))
  | [], t7 =>
    some (.inl ())
  | x :: rest, t7 =>
    (bif (!(rule_Sound x)) then
      some (.inr false)
    else
      (bif (decide (((t7 : Nat) : Int) > 0)) then
        (ixO list (IntKind.i64.wrap (((t7 : Nat) : Int) - 1))).bind fun x1 =>
        (bif (!(rule_Before x1 x)) then
          some (.inr false)
        else
          rule_Table_l0s list rest (t7 + 1) )
      else
        rule_Table_l0s list rest (t7 + 1) ))
theorem rule_Table_l0_walk (list : List Rule) (f_list : Bool) (r : Bool) (c0 : Ctx) (hc0 : c0.m.length = 0) (res : Sum (Unit) (Bool)) (J : ∀ w : Unit, res = .inl w → AR Try.prog tab rule_Table_F c0 (Rp tab.S c0 (.sc (.bool r)) []) [.code [1, 1]] [] []) (Jr : ∀ w, res = .inr w → w = r) :
    ∀ (rest : List Rule) (t7 : Nat) (hd : list.drop t7 = rest) (H : rule_Table_l0s list rest t7 = some res), AR Try.prog tab rule_Table_F c0 (Rp tab.S c0 (.sc (.bool r)) []) [.code [1, 0, 1, 0, 0], .loop [1, 0, 1, 0], .blk 0, .code [1, 1]] [(0, .sl 34 (List.map Rule.av list) f_list), (5, .sl 34 (List.map Rule.av list) f_list), (6, .sc (.int .i64 (((List.map Rule.av list).length : Nat) : Int))), (7, .sc (.int .i64 ((t7 : Nat) : Int)))] [] := by
  have hG := tab_ok
  have hm := mixed
  intro rest
  induction rest with
  | nil =>
    intro t7 hd  H
    rw [rule_Table_l0s] at H
    refine AR.facts 0 rfl fun hf => ?_
    have hlen : list.length ≤ 9223372036854775807 := by have hq := len_ok hf.2.1; rw [List.length_map] at hq; exact hq
    have hge : list.length ≤ t7 := List.drop_eq_nil_iff.1 hd
    have hc : (decide (((t7 : Nat) : Int) < (((List.map Rule.av list).length : Nat) : Int))) = false := by rw [List.length_map]; exact decide_eq_false (by omega)
    refine AR.seg hG hm 3 [0, 5, 6, 7, 8] (k' := [.code [1, 0, 1, 0, 0, 1, 0], .code [1, 0, 1, 0, 0, 1, 1], .loop [1, 0, 1, 0], .blk 0, .code [1, 1]]) (t' := [(0, .sl 34 (List.map Rule.av list) f_list), (5, .sl 34 (List.map Rule.av list) f_list), (6, .sc (.int .i64 (((List.map Rule.av list).length : Nat) : Int))), (7, .sc (.int .i64 ((t7 : Nat) : Int))), (8, .sc (.bool (decide (((t7 : Nat) : Int) < (((List.map Rule.av list).length : Nat) : Int)))))]) (h' := []) (by kernel_rfl) ?_
    refine AR.cond (.tmp 8) (decide (((t7 : Nat) : Int) < (((List.map Rule.av list).length : Nat) : Int))) (by kernel_rfl) (by kernel_rfl) (fun hb => ?ht13) (fun hb => ?hf13)
    case ht13 => exact absurd (hb.symm.trans hc) (by decide)
    case hf13 =>
      refine AR.seg hG hm 1 [] (k' := [.code [1, 1]]) (t' := []) (h' := []) (by kernel_rfl) ?_
      refine AR.keep [] (t' := []) (by kernel_rfl) ?_
      exact J () (Option.some.inj H).symm
  | cons x rest ih =>
    intro t7 hd  H
    rw [rule_Table_l0s] at H
    refine AR.facts 0 rfl fun hf => ?_
    have hlen : list.length ≤ 9223372036854775807 := by have hq := len_ok hf.2.1; rw [List.length_map] at hq; exact hq
    obtain ⟨hlt, hv_t7, hd2⟩ := drop_cons hd
    have hc : (decide (((t7 : Nat) : Int) < (((List.map Rule.av list).length : Nat) : Int))) = true := by rw [List.length_map]; exact decide_eq_true (by omega)
    have hw : IntKind.i64.wrap (((t7 : Nat) : Int) + 1) = ((t7 + 1 : Nat) : Int) := wrapI_succ (by omega)
    refine AR.seg hG hm 3 [0, 5, 6, 7, 8] (k' := [.code [1, 0, 1, 0, 0, 1, 0], .code [1, 0, 1, 0, 0, 1, 1], .loop [1, 0, 1, 0], .blk 0, .code [1, 1]]) (t' := [(0, .sl 34 (List.map Rule.av list) f_list), (5, .sl 34 (List.map Rule.av list) f_list), (6, .sc (.int .i64 (((List.map Rule.av list).length : Nat) : Int))), (7, .sc (.int .i64 ((t7 : Nat) : Int))), (8, .sc (.bool (decide (((t7 : Nat) : Int) < (((List.map Rule.av list).length : Nat) : Int)))))]) (h' := []) (by kernel_rfl) ?_
    refine AR.cond (.tmp 8) (decide (((t7 : Nat) : Int) < (((List.map Rule.av list).length : Nat) : Int))) (by kernel_rfl) (by kernel_rfl) (fun hb => ?ht14) (fun hb => ?hf14)
    case ht14 =>
      refine AR.seg hG hm 4 [0, 5, 6, 7] (k' := [.code [1, 0, 1, 0, 0, 1, 1, 0, 0, 0], .code [1, 0, 1, 0, 0, 1, 1, 0, 0, 1], .blk 1, .code [1, 0, 1, 0, 0, 1, 1, 1], .loop [1, 0, 1, 0], .blk 0, .code [1, 1]]) (t' := [(0, .sl 34 (List.map Rule.av list) f_list), (5, .sl 34 (List.map Rule.av list) f_list), (6, .sc (.int .i64 (((List.map Rule.av list).length : Nat) : Int))), (7, .sc (.int .i64 ((t7 : Nat) : Int)))]) (h' := []) (by kernel_rfl) ?_
      refine AR.reg hm rule_Table_k0 (by kernel_rfl) ?_
      refine DK.seg hG 1 [0, 5, 6, 7, 9] (t' := [(0, .sl 34 (List.map Rule.av list) f_list), (5, .sl 34 (List.map Rule.av list) f_list), (6, .sc (.int .i64 (((List.map Rule.av list).length : Nat) : Int))), (7, .sc (.int .i64 ((t7 : Nat) : Int))), (9, .sc (.int .i64 ((t7 : Nat) : Int)))]) (h' := []) (by kernel_rfl) rfl ?_
      refine DK.op' [0, 5, 6, 7, 9, 10] (t' := [(0, .sl 34 (List.map Rule.av list) f_list), (5, .sl 34 (List.map Rule.av list) f_list), (6, .sc (.int .i64 (((List.map Rule.av list).length : Nat) : Int))), (7, .sc (.int .i64 ((t7 : Nat) : Int))), (9, .sc (.int .i64 ((t7 : Nat) : Int))), (10, .ep [.arr .u64 12 x.Match.Value, .arr .u64 12 x.Match.Care, .sc (.int .i64 x.Prio), .sl 42 (List.map Act.av x.Acts) false, .sc (.int .i64 x.Idle), .sc (.int .i64 x.Hard), .sc (.int .i64 x.Owner), .sc (.int .i64 x.Hits), .sc (.int .i64 x.Quiet), .sc (.int .i64 x.Age)] 0 none)]) (h' := []) (LSpec.index' (r := Rule.av x) (fs := [.arr .u64 12 x.Match.Value, .arr .u64 12 x.Match.Care, .sc (.int .i64 x.Prio), .sl 42 (List.map Act.av x.Acts) false, .sc (.int .i64 x.Idle), .sc (.int .i64 x.Hard), .sc (.int .i64 x.Owner), .sc (.int .i64 x.Hits), .sc (.int .i64 x.Quiet), .sc (.int .i64 x.Age)]) hG (rows := List.map Rule.av list) (j := ((t7 : Nat) : Int)) (by kernel_rfl) (ixO_map hv_t7 _) (by kernel_rfl)) (by kernel_rfl) rfl (by kernel_rfl) rfl ?_
      refine DK.seg hG 4 [0, 3, 4, 5, 6, 7] (t' := [(0, .sl 34 (List.map Rule.av list) f_list), (3, .sc (.int .i64 ((t7 : Nat) : Int))), (4, .ptr 0 0 none), (5, .sl 34 (List.map Rule.av list) f_list), (6, .sc (.int .i64 (((List.map Rule.av list).length : Nat) : Int))), (7, .sc (.int .i64 ((t7 : Nat) : Int)))]) (h' := [.box 34 (Rule.ch x)]) (by kernel_rfl) rfl ?_
      refine DK.done (by kernel_rfl) (by kernel_rfl) ?_
      refine AR.seg hG hm 1 [0, 3, 4, 5, 6, 7] (k' := [.code [1, 0, 1, 0, 0, 1, 1, 0, 0, 1, 0], .code [1, 0, 1, 0, 0, 1, 1, 0, 0, 1, 1], .blk 1, .code [1, 0, 1, 0, 0, 1, 1, 1], .loop [1, 0, 1, 0], .blk 0, .code [1, 1]]) (t' := [(0, .sl 34 (List.map Rule.av list) f_list), (3, .sc (.int .i64 ((t7 : Nat) : Int))), (4, .ptr 0 0 none), (5, .sl 34 (List.map Rule.av list) f_list), (6, .sc (.int .i64 (((List.map Rule.av list).length : Nat) : Int))), (7, .sc (.int .i64 ((t7 : Nat) : Int)))]) (h' := [.box 34 (Rule.ch x)]) (by kernel_rfl) ?_
      refine AR.reg hm rule_Table_k1 (by kernel_rfl) ?_
      refine DK.seg hG 1 [0, 3, 4, 5, 6, 7, 12] (t' := [(0, .sl 34 (List.map Rule.av list) f_list), (3, .sc (.int .i64 ((t7 : Nat) : Int))), (4, .ptr 0 0 none), (5, .sl 34 (List.map Rule.av list) f_list), (6, .sc (.int .i64 (((List.map Rule.av list).length : Nat) : Int))), (7, .sc (.int .i64 ((t7 : Nat) : Int))), (12, Rule.av x)]) (h' := [.box 34 (Rule.ch x)]) (by kernel_rfl) rfl ?_
      refine DK.op' [0, 3, 4, 5, 6, 7, 13] (t' := [(0, .sl 34 (List.map Rule.av list) f_list), (3, .sc (.int .i64 ((t7 : Nat) : Int))), (4, .ptr 0 0 none), (5, .sl 34 (List.map Rule.av list) f_list), (6, .sc (.int .i64 (((List.map Rule.av list).length : Nat) : Int))), (7, .sc (.int .i64 ((t7 : Nat) : Int))), (13, .sc (.bool (rule_Sound x)))]) (h' := [.box 34 (Rule.ch x)]) (LSpec.callP' (rule_Sound_calls x) (by kernel_rfl)) (by kernel_rfl) rfl (by kernel_rfl) rfl ?_
      refine DK.seg hG 2 [0, 3, 4, 5, 6, 7, 15] (t' := [(0, .sl 34 (List.map Rule.av list) f_list), (3, .sc (.int .i64 ((t7 : Nat) : Int))), (4, .ptr 0 0 none), (5, .sl 34 (List.map Rule.av list) f_list), (6, .sc (.int .i64 (((List.map Rule.av list).length : Nat) : Int))), (7, .sc (.int .i64 ((t7 : Nat) : Int))), (15, .sc (.bool (!(rule_Sound x))))]) (h' := [.box 34 (Rule.ch x)]) (by kernel_rfl) rfl ?_
      refine DK.split 15 (!(rule_Sound x)) (by kernel_rfl) (fun hb => ?ht15) (fun hb => ?hf15)
      case ht15 =>
        replace H := cond_t hb H
        refine DK.seg hG 13 [0, 5, 6, 7, 28] (t' := [(0, .sl 34 (List.map Rule.av list) f_list), (5, .sl 34 (List.map Rule.av list) f_list), (6, .sc (.int .i64 (((List.map Rule.av list).length : Nat) : Int))), (7, .sc (.int .i64 ((t7 : Nat) : Int))), (28, .sc (.bool true))]) (h' := [.box 34 (Rule.ch x)]) (by kernel_rfl) rfl ?_
        refine DK.done (by kernel_rfl) (by kernel_rfl) ?_
        refine AR.seg hG hm 3 [2] (k' := [.code [1, 0, 1, 0, 0, 1, 1, 0, 0, 1, 1, 0, 1], .blk 1, .code [1, 0, 1, 0, 0, 1, 1, 1], .loop [1, 0, 1, 0], .blk 0, .code [1, 1]]) (t' := [(2, .sc (.bool false))]) (h' := [.box 34 (Rule.ch x)]) (by kernel_rfl) ?_
        obtain rfl := Option.some.inj H
        obtain rfl := Jr _ rfl
        exact AR.ret0 (fn := Try.f26) hG Try.func26 (by kernel_rfl) hc0 (r0 := .sc (.bool false)) (by kernel_rfl) (WkV.refl _)
      case hf15 =>
        replace H := cond_f hb H
        refine DK.seg hG 3 [0, 3, 4, 5, 6, 7, 15, 18] (t' := [(0, .sl 34 (List.map Rule.av list) f_list), (3, .sc (.int .i64 ((t7 : Nat) : Int))), (4, .ptr 0 0 none), (5, .sl 34 (List.map Rule.av list) f_list), (6, .sc (.int .i64 (((List.map Rule.av list).length : Nat) : Int))), (7, .sc (.int .i64 ((t7 : Nat) : Int))), (15, .sc (.bool false)), (18, .sc (.bool (decide (((t7 : Nat) : Int) > 0))))]) (h' := [.box 34 (Rule.ch x)]) (by kernel_rfl) rfl ?_
        refine DK.split 18 (decide (((t7 : Nat) : Int) > 0)) (by kernel_rfl) (fun hb => ?ht16) (fun hb => ?hf16)
        case ht16 =>
          replace H := cond_t hb H
          refine DK.seg hG 3 [0, 4, 5, 6, 7, 15, 18, 19, 21] (t' := [(0, .sl 34 (List.map Rule.av list) f_list), (4, .ptr 0 0 none), (5, .sl 34 (List.map Rule.av list) f_list), (6, .sc (.int .i64 (((List.map Rule.av list).length : Nat) : Int))), (7, .sc (.int .i64 ((t7 : Nat) : Int))), (15, .sc (.bool false)), (18, .sc (.bool true)), (19, .sl 34 (List.map Rule.av list) f_list), (21, .sc (.int .i64 (IntKind.i64.wrap (((t7 : Nat) : Int) - 1))))]) (h' := [.box 34 (Rule.ch x)]) (by kernel_rfl) rfl ?_
          obtain ⟨x1, hv, H⟩ := Option.bind_eq_some_iff.1 H
          refine DK.op' [0, 4, 5, 6, 7, 15, 18, 22] (t' := [(0, .sl 34 (List.map Rule.av list) f_list), (4, .ptr 0 0 none), (5, .sl 34 (List.map Rule.av list) f_list), (6, .sc (.int .i64 (((List.map Rule.av list).length : Nat) : Int))), (7, .sc (.int .i64 ((t7 : Nat) : Int))), (15, .sc (.bool false)), (18, .sc (.bool true)), (22, .ep [.arr .u64 12 x1.Match.Value, .arr .u64 12 x1.Match.Care, .sc (.int .i64 x1.Prio), .sl 42 (List.map Act.av x1.Acts) false, .sc (.int .i64 x1.Idle), .sc (.int .i64 x1.Hard), .sc (.int .i64 x1.Owner), .sc (.int .i64 x1.Hits), .sc (.int .i64 x1.Quiet), .sc (.int .i64 x1.Age)] 0 none)]) (h' := [.box 34 (Rule.ch x)]) (LSpec.index' (r := Rule.av x1) (fs := [.arr .u64 12 x1.Match.Value, .arr .u64 12 x1.Match.Care, .sc (.int .i64 x1.Prio), .sl 42 (List.map Act.av x1.Acts) false, .sc (.int .i64 x1.Idle), .sc (.int .i64 x1.Hard), .sc (.int .i64 x1.Owner), .sc (.int .i64 x1.Hits), .sc (.int .i64 x1.Quiet), .sc (.int .i64 x1.Age)]) hG (rows := List.map Rule.av list) (j := (IntKind.i64.wrap (((t7 : Nat) : Int) - 1))) (by kernel_rfl) (ixO_map hv _) (by kernel_rfl)) (by kernel_rfl) rfl (by kernel_rfl) rfl ?_
          refine DK.seg hG 2 [0, 5, 6, 7, 15, 18, 23, 24] (t' := [(0, .sl 34 (List.map Rule.av list) f_list), (5, .sl 34 (List.map Rule.av list) f_list), (6, .sc (.int .i64 (((List.map Rule.av list).length : Nat) : Int))), (7, .sc (.int .i64 ((t7 : Nat) : Int))), (15, .sc (.bool false)), (18, .sc (.bool true)), (23, Rule.av x1), (24, Rule.av x)]) (h' := [.box 34 (Rule.ch x)]) (by kernel_rfl) rfl ?_
          refine DK.op' [0, 5, 6, 7, 15, 18, 25] (t' := [(0, .sl 34 (List.map Rule.av list) f_list), (5, .sl 34 (List.map Rule.av list) f_list), (6, .sc (.int .i64 (((List.map Rule.av list).length : Nat) : Int))), (7, .sc (.int .i64 ((t7 : Nat) : Int))), (15, .sc (.bool false)), (18, .sc (.bool true)), (25, .sc (.bool (rule_Before x1 x)))]) (h' := [.box 34 (Rule.ch x)]) (LSpec.callP' (rule_Before_calls x1 x) (by kernel_rfl)) (by kernel_rfl) rfl (by kernel_rfl) rfl ?_
          refine DK.seg hG 3 [0, 5, 6, 7, 28] (t' := [(0, .sl 34 (List.map Rule.av list) f_list), (5, .sl 34 (List.map Rule.av list) f_list), (6, .sc (.int .i64 (((List.map Rule.av list).length : Nat) : Int))), (7, .sc (.int .i64 ((t7 : Nat) : Int))), (28, .sc (.bool (!(rule_Before x1 x))))]) (h' := [.box 34 (Rule.ch x)]) (by kernel_rfl) rfl ?_
          refine DK.done (by kernel_rfl) (by kernel_rfl) ?_
          refine AR.cond (.tmp 28) (!(rule_Before x1 x)) (by kernel_rfl) (by kernel_rfl) (fun hb => ?ht17) (fun hb => ?hf17)
          case ht17 =>
            replace H := cond_t hb H
            refine AR.seg hG hm 2 [2] (k' := [.code [1, 0, 1, 0, 0, 1, 1, 0, 0, 1, 1, 0, 1], .blk 1, .code [1, 0, 1, 0, 0, 1, 1, 1], .loop [1, 0, 1, 0], .blk 0, .code [1, 1]]) (t' := [(2, .sc (.bool false))]) (h' := [.box 34 (Rule.ch x)]) (by kernel_rfl) ?_
            obtain rfl := Option.some.inj H
            obtain rfl := Jr _ rfl
            exact AR.ret0 (fn := Try.f26) hG Try.func26 (by kernel_rfl) hc0 (r0 := .sc (.bool false)) (by kernel_rfl) (WkV.refl _)
          case hf17 =>
            replace H := cond_f hb H
            refine AR.seg hG hm 3 [0, 5, 6, 7] (k' := [.loop [1, 0, 1, 0], .blk 0, .code [1, 1]]) (t' := [(0, .sl 34 (List.map Rule.av list) f_list), (5, .sl 34 (List.map Rule.av list) f_list), (6, .sc (.int .i64 (((List.map Rule.av list).length : Nat) : Int))), (7, .sc (.int .i64 (IntKind.i64.wrap (((t7 : Nat) : Int) + 1))))]) (h' := [.box 34 (Rule.ch x)]) (by kernel_rfl) ?_
            refine AR.keep [0, 5, 6, 7] (t' := [(0, .sl 34 (List.map Rule.av list) f_list), (5, .sl 34 (List.map Rule.av list) f_list), (6, .sc (.int .i64 (((List.map Rule.av list).length : Nat) : Int))), (7, .sc (.int .i64 (IntKind.i64.wrap (((t7 : Nat) : Int) + 1))))]) (by kernel_rfl) ?_
            refine AR.drop' 0 hc0 (t' := [(0, .sl 34 (List.map Rule.av list) f_list), (5, .sl 34 (List.map Rule.av list) f_list), (6, .sc (.int .i64 (((List.map Rule.av list).length : Nat) : Int))), (7, .sc (.int .i64 (IntKind.i64.wrap (((t7 : Nat) : Int) + 1))))]) (h' := []) (by kernel_rfl) ?_
            refine AR.loop_round ?_
            rw [hw]
            exact ih (t7 + 1) hd2 H
        case hf16 =>
          replace H := cond_f hb H
          refine DK.seg hG 10 [0, 5, 6, 7, 28] (t' := [(0, .sl 34 (List.map Rule.av list) f_list), (5, .sl 34 (List.map Rule.av list) f_list), (6, .sc (.int .i64 (((List.map Rule.av list).length : Nat) : Int))), (7, .sc (.int .i64 ((t7 : Nat) : Int))), (28, .sc (.bool false))]) (h' := [.box 34 (Rule.ch x)]) (by kernel_rfl) rfl ?_
          refine DK.done (by kernel_rfl) (by kernel_rfl) ?_
          refine AR.seg hG hm 4 [0, 5, 6, 7] (k' := [.loop [1, 0, 1, 0], .blk 0, .code [1, 1]]) (t' := [(0, .sl 34 (List.map Rule.av list) f_list), (5, .sl 34 (List.map Rule.av list) f_list), (6, .sc (.int .i64 (((List.map Rule.av list).length : Nat) : Int))), (7, .sc (.int .i64 (IntKind.i64.wrap (((t7 : Nat) : Int) + 1))))]) (h' := [.box 34 (Rule.ch x)]) (by kernel_rfl) ?_
          refine AR.keep [0, 5, 6, 7] (t' := [(0, .sl 34 (List.map Rule.av list) f_list), (5, .sl 34 (List.map Rule.av list) f_list), (6, .sc (.int .i64 (((List.map Rule.av list).length : Nat) : Int))), (7, .sc (.int .i64 (IntKind.i64.wrap (((t7 : Nat) : Int) + 1))))]) (by kernel_rfl) ?_
          refine AR.drop' 0 hc0 (t' := [(0, .sl 34 (List.map Rule.av list) f_list), (5, .sl 34 (List.map Rule.av list) f_list), (6, .sc (.int .i64 (((List.map Rule.av list).length : Nat) : Int))), (7, .sc (.int .i64 (IntKind.i64.wrap (((t7 : Nat) : Int) + 1))))]) (h' := []) (by kernel_rfl) ?_
          refine AR.loop_round ?_
          rw [hw]
          exact ih (t7 + 1) hd2 H
    case hf14 => exact absurd (hc.symm.trans hb) (by decide)

def rule_Table_raw (list : List Rule) : Option (Bool) :=
  loopO (rule_Table_l0s list list 0) fun v =>
  some true
theorem rule_Table_walk (list : List Rule) (f_list : Bool) (r : Bool) (H : rule_Table_raw list = some r) :
    ACalls Try.prog tab.S 26 [.sl 34 (List.map Rule.av list) f_list] [] (.sc (.bool r)) [] := by
  have hG := tab_ok
  have hm := mixed
  refine ACalls.of_AR (G := tab) rule_Table_F (fn := Try.f26) Try.func26 (by kernel_rfl) (by kernel_rfl) (by kernel_rfl) (Nat.le_of_ble_eq_true (by kernel_rfl)) ?_
  intro c0 hc0
  replace hc0 : c0.m.length = 0 := hc0
  rw [rule_Table_raw] at H
  refine AR.seg hG hm 6 [0, 5, 6, 7] (k' := [.code [1, 0, 1, 0], .blk 0, .code [1, 1]]) (t' := [(0, .sl 34 (List.map Rule.av list) f_list), (5, .sl 34 (List.map Rule.av list) f_list), (6, .sc (.int .i64 (((List.map Rule.av list).length : Nat) : Int))), (7, .sc (.int .i64 0))]) (h' := []) (by kernel_rfl) ?_
  rcases loopO_some H with ⟨v, hv, H⟩ | hv
  case inr =>
    refine AR.into (by kernel_rfl) ?_
    exact rule_Table_l0_walk list f_list _ c0 hc0 (.inr _) (fun _ e => by cases e) (fun _ e => (Sum.inr.inj e).symm) list 0 rfl hv
  refine AR.into (by kernel_rfl) ?_
  refine rule_Table_l0_walk list f_list r c0 hc0 (.inl v) (fun w e => ?_) (fun _ e => by cases e) list 0 rfl hv
  have e := Sum.inl.inj e
  subst e
  refine AR.seg hG hm 2 [2] (k' := [.code [1, 1, 1]]) (t' := [(2, .sc (.bool true))]) (h' := []) (by kernel_rfl) ?_
  obtain rfl := Option.some.inj H
  exact AR.ret0 (fn := Try.f26) hG Try.func26 (by kernel_rfl) hc0 (r0 := .sc (.bool true)) (by kernel_rfl) (WkV.refl _)

def tableF : Option Rule → List Rule → Bool
  | _, [] => true
  | p, x :: l => rule_Sound x && (match p with | some y => rule_Before y x | none => true) && tableF (some x) l
def befO (p : Option Rule) (x : Rule) : Bool := match p with | some y => rule_Before y x | none => true
theorem tableF_cons (p : Option Rule) (x : Rule) (l : List Rule) : tableF p (x :: l) = (rule_Sound x && befO p x && tableF (some x) l) := by cases p <;> rfl
def tableR (l : List Rule) : Bool := tableF none l
theorem rule_Table_l0s_eq (all : List Rule) (hall : all.length ≤ 1000000000000000) : ∀ (l : List Rule) (i : Nat), all.drop i = l → rule_Table_l0s all l i = some (if tableF (if i = 0 then none else all[i - 1]?) l then .inl () else .inr false)
  | [], i, _ => by rw [rule_Table_l0s, tableF]; rfl
  | x :: l, i, h => by
      have hlt : i < all.length := by
        rcases Nat.lt_or_ge i all.length with q | q
        · exact q
        · rw [List.drop_eq_nil_of_le q] at h; cases h
      rw [List.drop_eq_getElem_cons hlt] at h
      injection h with h1 h2
      have ih : rule_Table_l0s all l (i + 1) = some (if tableF (some x) l then .inl () else .inr false) := by
        have q := rule_Table_l0s_eq all hall l (i + 1) h2
        have e : (if i + 1 = 0 then (none : Option Rule) else all[i + 1 - 1]?) = some x := by rw [if_neg (by omega), Nat.add_sub_cancel, List.getElem?_eq_getElem hlt, h1]
        rw [e] at q
        exact q
      rw [rule_Table_l0s, tableF_cons]
      cases hs : rule_Sound x
      · rfl
      · simp only [Bool.not_true, cond_false, Bool.true_and]
        by_cases hi : i = 0
        · subst hi
          rw [decide_eq_false (by omega), cond_false, ih, if_pos rfl]
          rfl
        · rw [decide_eq_true (by omega), cond_true, if_neg hi, wrap_eq (by omega) (by omega)]
          have e : ((i : Nat) : Int) - 1 = ((i - 1 : Nat) : Int) := by omega
          rw [e, ixO_lt (show i - 1 < all.length by omega), Option.bind_some, List.getElem?_eq_getElem (by omega), ih]
          show (bif !(rule_Before all[i - 1] x) then _ else _) = some (if (rule_Before all[i - 1] x && _) = true then _ else _)
          cases rule_Before all[i - 1] x <;> rfl
theorem rule_Table_ok (l : List Rule) (f : Bool) : ACalls Try.prog tab.S 26 [.sl 34 (List.map Rule.av l) f] [] (.sc (.bool (tableR l))) [] := by
  refine ACalls.facts (ent_of Try.func26 (by kernel_rfl) (by kernel_rfl)) fun hf => ?_
  have l0 : l.length * 272 ≤ 140737488355328 := by have h := hf.1.1; rw [List.length_map] at h; exact h
  refine rule_Table_walk l f _ ?_
  rw [rule_Table_raw, rule_Table_l0s_eq l (by omega) l 0 rfl, if_pos rfl]
  unfold tableR
  cases tableF none l <;> rfl

theorem befO_iff (p : Option Rule) (x : Rule) : befO p x = true ↔ ∀ q, p = some q → RLt q x := by
  cases p with
  | none => simp [befO]
  | some q => simp [befO, Before_key, RLt]
theorem tableF_spec : ∀ (l : List Rule) (p : Option Rule), tableF p l = true ↔ (∀ y ∈ l, rule_Sound y = true) ∧ Srt l ∧ ∀ q, p = some q → ∀ y ∈ l, RLt q y
  | [], p => by
      rw [tableF]
      exact ⟨fun _ => ⟨by simp, List.Pairwise.nil, by simp⟩, fun _ => rfl⟩
  | x :: l, p => by
      rw [tableF_cons, Bool.and_eq_true, Bool.and_eq_true, tableF_spec l (some x), befO_iff]
      constructor
      · rintro ⟨⟨h1, h2⟩, h3, h4, h5⟩
        refine ⟨?_, List.pairwise_cons.2 ⟨h5 x rfl, h4⟩, ?_⟩
        · intro y hy
          rcases List.mem_cons.1 hy with rfl | hy
          · exact h1
          · exact h3 y hy
        · intro q hq y hy
          rcases List.mem_cons.1 hy with rfl | hy
          · exact h2 q hq
          · exact (h2 q hq).trans (h5 x rfl y hy)
      · rintro ⟨h1, h2, h3⟩
        obtain ⟨h4, h5⟩ := List.pairwise_cons.1 h2
        exact ⟨⟨h1 x (by simp), fun q hq => h3 q hq x (by simp)⟩, fun y hy => h1 y (by simp [hy]), h5, fun q hq y hy => by
          injection hq with hq
          subst hq
          exact h4 y hy⟩
theorem tableR_iff (l : List Rule) : tableR l = true ↔ (∀ y ∈ l, rule_Sound y = true) ∧ Srt l := by
  unfold tableR
  rw [tableF_spec]
  simp
theorem tableR_sort (l : List Rule) : tableR (sortR l) = true := (tableR_iff _).2 ⟨sortR_sound l, sortR_srt l⟩
theorem sort_again (l : List Rule) (r : Rule) : sortR (sortR (l ++ [r]) ++ [r]) = sortR (l ++ [r]) :=
  srt_uniq _ _ (sortR_srt _) (sortR_srt _) (fun k => by
    rw [sortR_look, sortR_look, last_append, last_look _ (sortR_srt _) (sortR_sound _), sortR_look, last_append]
    cases last [r] k <;> rfl)

end Go.Proofs.Ytadolbhmdimbkaa
