import Derived.Test.YtadolbhmdimbkaaM4RuleFinds
set_option linter.unusedVariables false
set_option linter.unusedSimpArgs false
set_option maxRecDepth 100000
set_option maxHeartbeats 4000000
namespace Go.Proofs.Ytadolbhmdimbkaa
open Go.Sh
/-! ### podestaref01.Has: function 13 -/
noncomputable def podestaref01_Has_F : Go.Sh.Fn := ⟨13, bodyOf Try.f13, 43⟩
def podestaref01_Has_k2 : List Kd := [.pure, .pure, .pure, .pure, .pure, .pure, .pure, .pure, .pure, .pure, .pure, .pure, .pure, .pure, .pure, .pure, .pure]
def podestaref01_Has_k3 : List Kd := [.pure, .pure, .read, .pure, .pure, .pure]
def podestaref01_Has_k1 : List Kd := [.read, .pure, .pure]
def podestaref01_Has_k0 : List Kd := [.read, .pure, .pure, .pure, .pure, .pure, .pure]
def podestaref01_Has_l0 (c : Cube) (h1 : List Int) : Nat → Bool → Int → Option (Bool)
  | 0, _, _ => none
  | m + 1, ok, i =>
    (bif (decide (i < ((((textT c).1).size : Nat) : Int))) then
    (bif ok then
      reqO (decide (0 ≤ i) && decide (i < ((((textT c).1).size : Nat) : Int))) (
      (bif ((byteAt ((textT c).1) i) == 120) then
        podestaref01_Has_l0 c h1 m true (IntKind.i64.wrap (i + 1))
      else
        reqO (decide (0 ≤ i) && decide (i < ((((textT c).1).size : Nat) : Int))) (
        reqO (decide (0 ≤ i) && decide (i < (((wholeT h1).size : Nat) : Int))) (
        podestaref01_Has_l0 c h1 m ((byteAt ((textT c).1) i) == (byteAt (wholeT h1) i)) (IntKind.i64.wrap (i + 1))))))
    else
      podestaref01_Has_l0 c h1 m false (IntKind.i64.wrap (i + 1)))
  else
    some ok)
theorem podestaref01_Has_l0_walk (q0 : Nat) (c : Cube) (h1 : List Int)  (r : Bool) (c0 : Ctx) (hc0 : c0.m.length = 0) (res : Bool) (J : AR Try.prog tab podestaref01_Has_F c0 (Rp tab.S c0 (.sc (.bool r)) []) [.code [1, 1, 1, 1]] [(3, .ptr 1 0 none), (6, .sc (.bool res))] [.box 31 (Cube.ch c), .box 25 [.arr .u64 12 h1]]) :
    ∀ (m : Nat) (ok : Bool) (i : Int) (H : podestaref01_Has_l0 c h1 m ok i = some res), AR Try.prog tab podestaref01_Has_F c0 (Rp tab.S c0 (.sc (.bool r)) []) [.code [1, 1, 1, 0, 1, 0, 0], .loop [1, 1, 1, 0, 1, 0], .blk 0, .code [1, 1, 1, 1]] [(3, .ptr 1 0 none), (5, .sc (.string ((textT c).1))), (6, .sc (.bool ok)), (7, .sc (.string (wholeT h1))), (8, .sc (.int .i64 i))] [.box 31 (Cube.ch c), .box 25 [.arr .u64 12 h1]] := by
  have hG := tab_ok
  have hm := mixed
  intro m
  induction m with
  | zero => intro ok i H; cases H
  | succ m ih =>
    intro ok i H
    rw [podestaref01_Has_l0] at H
    refine AR.seg hG hm 3 [3, 5, 6, 7, 8, 19] (k' := [.code [1, 1, 1, 0, 1, 0, 0, 0, 1], .code [1, 1, 1, 0, 1, 0, 0, 1], .loop [1, 1, 1, 0, 1, 0], .blk 0, .code [1, 1, 1, 1]]) (t' := [(3, .ptr 1 0 none), (5, .sc (.string ((textT c).1))), (6, .sc (.bool ok)), (7, .sc (.string (wholeT h1))), (8, .sc (.int .i64 i)), (19, .sc (.bool (decide (i < ((((textT c).1).size : Nat) : Int)))))]) (h' := [.box 31 (Cube.ch c), .box 25 [.arr .u64 12 h1]]) (by kernel_rfl) ?_
    refine AR.cond (.tmp 19) (decide (i < ((((textT c).1).size : Nat) : Int))) (by kernel_rfl) (by kernel_rfl) (fun hb => ?ht7) (fun hb => ?hf7)
    case ht7 =>
      replace H := cond_t hb H
      refine AR.seg hG hm 3 [3, 5, 6, 7, 8] (k' := [.code [1, 1, 1, 0, 1, 0, 0, 1, 0, 0], .blk 1, .code [1, 1, 1, 0, 1, 0, 0, 1, 1], .loop [1, 1, 1, 0, 1, 0], .blk 0, .code [1, 1, 1, 1]]) (t' := [(3, .ptr 1 0 none), (5, .sc (.string ((textT c).1))), (6, .sc (.bool ok)), (7, .sc (.string (wholeT h1))), (8, .sc (.int .i64 i))]) (h' := [.box 31 (Cube.ch c), .box 25 [.arr .u64 12 h1]]) (by kernel_rfl) ?_
      refine AR.reg hm podestaref01_Has_k2 (by kernel_rfl) ?_
      refine DK.seg hG 2 [3, 5, 7, 8, 23] (t' := [(3, .ptr 1 0 none), (5, .sc (.string ((textT c).1))), (7, .sc (.string (wholeT h1))), (8, .sc (.int .i64 i)), (23, .sc (.bool ok))]) (h' := [.box 31 (Cube.ch c), .box 25 [.arr .u64 12 h1]]) (by kernel_rfl) rfl ?_
      refine DK.split 23 ok (by kernel_rfl) (fun hb => ?ht8) (fun hb => ?hf8)
      case ht8 =>
        replace H := cond_t hb H
        refine DK.seg hG 2 [3, 5, 7, 8, 23, 24, 25] (t' := [(3, .ptr 1 0 none), (5, .sc (.string ((textT c).1))), (7, .sc (.string (wholeT h1))), (8, .sc (.int .i64 i)), (23, .sc (.bool true)), (24, .sc (.string ((textT c).1))), (25, .sc (.int .i64 i))]) (h' := [.box 31 (Cube.ch c), .box 25 [.arr .u64 12 h1]]) (by kernel_rfl) rfl ?_
        obtain ⟨hreq, H⟩ := reqO_some H
        refine DK.op' [3, 5, 7, 8, 23, 26] (t' := [(3, .ptr 1 0 none), (5, .sc (.string ((textT c).1))), (7, .sc (.string (wholeT h1))), (8, .sc (.int .i64 i)), (23, .sc (.bool true)), (26, .sc (.int .u8 (byteAt ((textT c).1) i)))]) (h' := [.box 31 (Cube.ch c), .box 25 [.arr .u64 12 h1]]) (LSpec.idxStr (s := ((textT c).1)) (j := i) hG hreq (by kernel_rfl)) (by kernel_rfl) rfl (by kernel_rfl) rfl ?_
        refine DK.seg hG 2 [3, 5, 7, 8, 23, 28] (t' := [(3, .ptr 1 0 none), (5, .sc (.string ((textT c).1))), (7, .sc (.string (wholeT h1))), (8, .sc (.int .i64 i)), (23, .sc (.bool true)), (28, .sc (.bool ((byteAt ((textT c).1) i) == 120)))]) (h' := [.box 31 (Cube.ch c), .box 25 [.arr .u64 12 h1]]) (by kernel_rfl) rfl ?_
        refine DK.split 28 ((byteAt ((textT c).1) i) == 120) (by kernel_rfl) (fun hb => ?ht9) (fun hb => ?hf9)
        case ht9 =>
          replace H := cond_t hb H
          refine DK.seg hG 10 [3, 5, 6, 7, 8] (t' := [(3, .ptr 1 0 none), (5, .sc (.string ((textT c).1))), (6, .sc (.bool true)), (7, .sc (.string (wholeT h1))), (8, .sc (.int .i64 i))]) (h' := [.box 31 (Cube.ch c), .box 25 [.arr .u64 12 h1]]) (by kernel_rfl) rfl ?_
          refine DK.done (by kernel_rfl) (by kernel_rfl) ?_
          refine AR.seg hG hm 2 [3, 5, 6, 7, 8] (k' := [.loop [1, 1, 1, 0, 1, 0], .blk 0, .code [1, 1, 1, 1]]) (t' := [(3, .ptr 1 0 none), (5, .sc (.string ((textT c).1))), (6, .sc (.bool true)), (7, .sc (.string (wholeT h1))), (8, .sc (.int .i64 (IntKind.i64.wrap (i + 1))))]) (h' := [.box 31 (Cube.ch c), .box 25 [.arr .u64 12 h1]]) (by kernel_rfl) ?_
          refine AR.keep [3, 5, 6, 7, 8] (t' := [(3, .ptr 1 0 none), (5, .sc (.string ((textT c).1))), (6, .sc (.bool true)), (7, .sc (.string (wholeT h1))), (8, .sc (.int .i64 (IntKind.i64.wrap (i + 1))))]) (by kernel_rfl) ?_
          refine AR.loop_round ?_
          exact ih true (IntKind.i64.wrap (i + 1)) H
        case hf9 =>
          replace H := cond_f hb H
          refine DK.seg hG 2 [3, 5, 7, 8, 23, 28, 29, 30] (t' := [(3, .ptr 1 0 none), (5, .sc (.string ((textT c).1))), (7, .sc (.string (wholeT h1))), (8, .sc (.int .i64 i)), (23, .sc (.bool true)), (28, .sc (.bool false)), (29, .sc (.string ((textT c).1))), (30, .sc (.int .i64 i))]) (h' := [.box 31 (Cube.ch c), .box 25 [.arr .u64 12 h1]]) (by kernel_rfl) rfl ?_
          obtain ⟨hreq, H⟩ := reqO_some H
          refine DK.op' [3, 5, 7, 8, 23, 28, 31] (t' := [(3, .ptr 1 0 none), (5, .sc (.string ((textT c).1))), (7, .sc (.string (wholeT h1))), (8, .sc (.int .i64 i)), (23, .sc (.bool true)), (28, .sc (.bool false)), (31, .sc (.int .u8 (byteAt ((textT c).1) i)))]) (h' := [.box 31 (Cube.ch c), .box 25 [.arr .u64 12 h1]]) (LSpec.idxStr (s := ((textT c).1)) (j := i) hG hreq (by kernel_rfl)) (by kernel_rfl) rfl (by kernel_rfl) rfl ?_
          refine DK.seg hG 2 [3, 5, 7, 8, 23, 28, 31, 32, 33] (t' := [(3, .ptr 1 0 none), (5, .sc (.string ((textT c).1))), (7, .sc (.string (wholeT h1))), (8, .sc (.int .i64 i)), (23, .sc (.bool true)), (28, .sc (.bool false)), (31, .sc (.int .u8 (byteAt ((textT c).1) i))), (32, .sc (.string (wholeT h1))), (33, .sc (.int .i64 i))]) (h' := [.box 31 (Cube.ch c), .box 25 [.arr .u64 12 h1]]) (by kernel_rfl) rfl ?_
          obtain ⟨hreq, H⟩ := reqO_some H
          refine DK.op' [3, 5, 7, 8, 23, 28, 31, 34] (t' := [(3, .ptr 1 0 none), (5, .sc (.string ((textT c).1))), (7, .sc (.string (wholeT h1))), (8, .sc (.int .i64 i)), (23, .sc (.bool true)), (28, .sc (.bool false)), (31, .sc (.int .u8 (byteAt ((textT c).1) i))), (34, .sc (.int .u8 (byteAt (wholeT h1) i)))]) (h' := [.box 31 (Cube.ch c), .box 25 [.arr .u64 12 h1]]) (LSpec.idxStr (s := (wholeT h1)) (j := i) hG hreq (by kernel_rfl)) (by kernel_rfl) rfl (by kernel_rfl) rfl ?_
          refine DK.seg hG 4 [3, 5, 6, 7, 8] (t' := [(3, .ptr 1 0 none), (5, .sc (.string ((textT c).1))), (6, .sc (.bool ((byteAt ((textT c).1) i) == (byteAt (wholeT h1) i)))), (7, .sc (.string (wholeT h1))), (8, .sc (.int .i64 i))]) (h' := [.box 31 (Cube.ch c), .box 25 [.arr .u64 12 h1]]) (by kernel_rfl) rfl ?_
          refine DK.done (by kernel_rfl) (by kernel_rfl) ?_
          refine AR.seg hG hm 2 [3, 5, 6, 7, 8] (k' := [.loop [1, 1, 1, 0, 1, 0], .blk 0, .code [1, 1, 1, 1]]) (t' := [(3, .ptr 1 0 none), (5, .sc (.string ((textT c).1))), (6, .sc (.bool ((byteAt ((textT c).1) i) == (byteAt (wholeT h1) i)))), (7, .sc (.string (wholeT h1))), (8, .sc (.int .i64 (IntKind.i64.wrap (i + 1))))]) (h' := [.box 31 (Cube.ch c), .box 25 [.arr .u64 12 h1]]) (by kernel_rfl) ?_
          refine AR.keep [3, 5, 6, 7, 8] (t' := [(3, .ptr 1 0 none), (5, .sc (.string ((textT c).1))), (6, .sc (.bool ((byteAt ((textT c).1) i) == (byteAt (wholeT h1) i)))), (7, .sc (.string (wholeT h1))), (8, .sc (.int .i64 (IntKind.i64.wrap (i + 1))))]) (by kernel_rfl) ?_
          refine AR.loop_round ?_
          exact ih ((byteAt ((textT c).1) i) == (byteAt (wholeT h1) i)) (IntKind.i64.wrap (i + 1)) H
      case hf8 =>
        replace H := cond_f hb H
        refine DK.seg hG 15 [3, 5, 6, 7, 8] (t' := [(3, .ptr 1 0 none), (5, .sc (.string ((textT c).1))), (6, .sc (.bool false)), (7, .sc (.string (wholeT h1))), (8, .sc (.int .i64 i))]) (h' := [.box 31 (Cube.ch c), .box 25 [.arr .u64 12 h1]]) (by kernel_rfl) rfl ?_
        refine DK.done (by kernel_rfl) (by kernel_rfl) ?_
        refine AR.seg hG hm 2 [3, 5, 6, 7, 8] (k' := [.loop [1, 1, 1, 0, 1, 0], .blk 0, .code [1, 1, 1, 1]]) (t' := [(3, .ptr 1 0 none), (5, .sc (.string ((textT c).1))), (6, .sc (.bool false)), (7, .sc (.string (wholeT h1))), (8, .sc (.int .i64 (IntKind.i64.wrap (i + 1))))]) (h' := [.box 31 (Cube.ch c), .box 25 [.arr .u64 12 h1]]) (by kernel_rfl) ?_
        refine AR.keep [3, 5, 6, 7, 8] (t' := [(3, .ptr 1 0 none), (5, .sc (.string ((textT c).1))), (6, .sc (.bool false)), (7, .sc (.string (wholeT h1))), (8, .sc (.int .i64 (IntKind.i64.wrap (i + 1))))]) (by kernel_rfl) ?_
        refine AR.loop_round ?_
        exact ih false (IntKind.i64.wrap (i + 1)) H
    case hf7 =>
      replace H := cond_f hb H
      refine AR.seg hG hm 1 [3, 6] (k' := [.code [1, 1, 1, 1]]) (t' := [(3, .ptr 1 0 none), (6, .sc (.bool ok))]) (h' := [.box 31 (Cube.ch c), .box 25 [.arr .u64 12 h1]]) (by kernel_rfl) ?_
      refine AR.keep [3, 6] (t' := [(3, .ptr 1 0 none), (6, .sc (.bool ok))]) (by kernel_rfl) ?_
      obtain rfl := Option.some.inj H
      exact J
def podestaref01_Has_raw (q0 : Nat) (c : Cube) (h1 : List Int) : Option (Bool) :=
  (podestaref01_Has_l0 c h1 q0 ((textT c).2) 0).bind fun v =>
  some (v && (podestaref01_Head h1))
theorem podestaref01_Has_walk (q0 : Nat) (c : Cube) (h1 : List Int) (r : Bool) (H : podestaref01_Has_raw q0 c h1 = some r) :
    ACalls Try.prog tab.S 13 [Cube.av c, .arr .u64 12 h1] [] (.sc (.bool r)) [] := by
  have hG := tab_ok
  have hm := mixed
  refine ACalls.of_AR (G := tab) podestaref01_Has_F (fn := Try.f13) Try.func13 (by kernel_rfl) (by kernel_rfl) (by kernel_rfl) (Nat.le_of_ble_eq_true (by kernel_rfl)) ?_
  intro c0 hc0
  replace hc0 : c0.m.length = 0 := hc0
  rw [podestaref01_Has_raw] at H
  refine AR.seg hG hm 3 [2, 3] (k' := [.code [1, 0], .code [1, 1]]) (t' := [(2, .ptr 0 0 none), (3, .ptr 1 0 none)]) (h' := [.box 31 (Cube.ch c), .box 25 [.arr .u64 12 h1]]) (by kernel_rfl) ?_
  refine AR.reg hm podestaref01_Has_k0 (by kernel_rfl) ?_
  refine DK.seg hG 1 [3, 10] (t' := [(3, .ptr 1 0 none), (10, Cube.av c)]) (h' := [.box 31 (Cube.ch c), .box 25 [.arr .u64 12 h1]]) (by kernel_rfl) rfl ?_
  refine DK.op' [3, 11] (t' := [(3, .ptr 1 0 none), (11, .tup [.sc (.string ((textT c).1)), .sc (.bool ((textT c).2))])]) (h' := [.box 31 (Cube.ch c), .box 25 [.arr .u64 12 h1]]) (LSpec.callP' (podestaref01_Text_ok c) (by kernel_rfl)) (by kernel_rfl) rfl (by kernel_rfl) rfl ?_
  refine DK.seg hG 5 [3, 5, 6] (t' := [(3, .ptr 1 0 none), (5, .sc (.string ((textT c).1))), (6, .sc (.bool ((textT c).2)))]) (h' := [.box 31 (Cube.ch c), .box 25 [.arr .u64 12 h1]]) (by kernel_rfl) rfl ?_
  refine DK.done (by kernel_rfl) (by kernel_rfl) ?_
  refine AR.seg hG hm 1 [3, 5, 6] (k' := [.code [1, 1, 0], .code [1, 1, 1]]) (t' := [(3, .ptr 1 0 none), (5, .sc (.string ((textT c).1))), (6, .sc (.bool ((textT c).2)))]) (h' := [.box 31 (Cube.ch c), .box 25 [.arr .u64 12 h1]]) (by kernel_rfl) ?_
  refine AR.reg hm podestaref01_Has_k1 (by kernel_rfl) ?_
  refine DK.seg hG 1 [3, 5, 6, 14] (t' := [(3, .ptr 1 0 none), (5, .sc (.string ((textT c).1))), (6, .sc (.bool ((textT c).2))), (14, .arr .u64 12 h1)]) (h' := [.box 31 (Cube.ch c), .box 25 [.arr .u64 12 h1]]) (by kernel_rfl) rfl ?_
  refine DK.op' [3, 5, 6, 15] (t' := [(3, .ptr 1 0 none), (5, .sc (.string ((textT c).1))), (6, .sc (.bool ((textT c).2))), (15, .sc (.string (wholeT h1)))]) (h' := [.box 31 (Cube.ch c), .box 25 [.arr .u64 12 h1]]) (LSpec.callP' (podestaref01_Whole_ok h1) (by kernel_rfl)) (by kernel_rfl) rfl (by kernel_rfl) rfl ?_
  refine DK.seg hG 1 [3, 5, 6, 7] (t' := [(3, .ptr 1 0 none), (5, .sc (.string ((textT c).1))), (6, .sc (.bool ((textT c).2))), (7, .sc (.string (wholeT h1)))]) (h' := [.box 31 (Cube.ch c), .box 25 [.arr .u64 12 h1]]) (by kernel_rfl) rfl ?_
  refine DK.done (by kernel_rfl) (by kernel_rfl) ?_
  refine AR.seg hG hm 4 [3, 5, 6, 7, 8] (k' := [.code [1, 1, 1, 0, 1, 0], .blk 0, .code [1, 1, 1, 1]]) (t' := [(3, .ptr 1 0 none), (5, .sc (.string ((textT c).1))), (6, .sc (.bool ((textT c).2))), (7, .sc (.string (wholeT h1))), (8, .sc (.int .i64 0))]) (h' := [.box 31 (Cube.ch c), .box 25 [.arr .u64 12 h1]]) (by kernel_rfl) ?_
  obtain ⟨v, hv, H⟩ := Option.bind_eq_some_iff.1 H
  refine AR.into (by kernel_rfl) ?_
  refine podestaref01_Has_l0_walk q0 c h1 r c0 hc0 v ?_ q0 ((textT c).2) 0 hv
  refine AR.seg hG hm 1 [3, 6] (k' := [.code [1, 1, 1, 1, 0], .code [1, 1, 1, 1, 1]]) (t' := [(3, .ptr 1 0 none), (6, .sc (.bool v))]) (h' := [.box 31 (Cube.ch c), .box 25 [.arr .u64 12 h1]]) (by kernel_rfl) ?_
  refine AR.reg hm podestaref01_Has_k3 (by kernel_rfl) ?_
  refine DK.seg hG 2 [3, 39] (t' := [(3, .ptr 1 0 none), (39, .sc (.bool v))]) (h' := [.box 31 (Cube.ch c), .box 25 [.arr .u64 12 h1]]) (by kernel_rfl) rfl ?_
  refine DK.mux 39 v (j := 5) (h' := [.box 31 (Cube.ch c), .box 25 [.arr .u64 12 h1]]) (by kernel_rfl) (fun z => [(42, .sc (.bool (z && (podestaref01_Head h1))))]) ?J10 (fun hb J => ?ht10) (fun hb J => ?hf10)
  case ht10 =>
    refine DK.seg hG 1 [39, 40] (t' := [(39, .sc (.bool true)), (40, .arr .u64 12 h1)]) (h' := [.box 31 (Cube.ch c), .box 25 [.arr .u64 12 h1]]) (by kernel_rfl) rfl ?_
    refine DK.op' [39, 41] (t' := [(39, .sc (.bool true)), (41, .sc (.bool (podestaref01_Head h1)))]) (h' := [.box 31 (Cube.ch c), .box 25 [.arr .u64 12 h1]]) (LSpec.callP' (podestaref01_Head_calls h1) (by kernel_rfl)) (by kernel_rfl) rfl (by kernel_rfl) rfl ?_
    exact DK.seg hG 1 [42] (by kernel_rfl) rfl J
  case hf10 =>
    exact DK.seg hG 3 [42] (by kernel_rfl) rfl J
  refine DK.seg hG 1 [4] (t' := [(4, .sc (.bool (v && (podestaref01_Head h1))))]) (h' := [.box 31 (Cube.ch c), .box 25 [.arr .u64 12 h1]]) (by kernel_rfl) rfl ?_
  refine DK.done (by kernel_rfl) (by kernel_rfl) ?_
  obtain rfl := Option.some.inj H
  exact AR.ret0 (fn := Try.f13) hG Try.func13 (by kernel_rfl) hc0 (r0 := .sc (.bool (v && (podestaref01_Head h1)))) (by kernel_rfl) (WkV.refl _)

theorem byteAt_nums (L : List Int) (hL : ∀ x ∈ L, 0 ≤ x ∧ x ≤ 255) {j : Nat} (hj : j < L.length) : byteAt (strOfNums L) (j : Int) = L[j] := by
  have h := hL L[j] (List.getElem_mem hj)
  unfold byteAt strOfNums
  rw [Int.toNat_natCast, List.getD_eq_getElem?_getD]
  simp [hj]
  omega
theorem text_bytes (c : Cube) : ∀ (r i : Nat), ∀ x ∈ textS c r i, 0 ≤ x ∧ x ≤ 255
  | 0, _, x, h => by cases h
  | r + 1, i, x, h => by
      rw [textS] at h
      rcases List.mem_append.1 h with q | q
      · obtain ⟨k, hk, rfl⟩ := List.getElem_of_mem q
        rw [List.getElem_zipWith]
        exact chr_ok _ _
      · exact text_bytes c r (i + 1) x q
theorem whole_bytes (h : List Int) : ∀ (r i : Nat), ∀ x ∈ wholeS h r i, 0 ≤ x ∧ x ≤ 255
  | 0, _, x, hx => by cases hx
  | r + 1, i, x, hx => by
      rw [wholeS] at hx
      rcases List.mem_append.1 hx with q | q
      · obtain ⟨b, _, rfl⟩ := List.mem_map.1 q
        exact bit01_ok b
      · exact whole_bytes h r (i + 1) x q
theorem Has_l0_eq (c : Cube) (h : List Int) (hN : (textS c 12 0).length ≤ 100000) : ∀ (m i : Nat) (ok : Bool), i ≤ (textS c 12 0).length → (textS c 12 0).length - i < m → podestaref01_Has_l0 c h m ok (i : Int) = some (ok && hasL ((textS c 12 0).drop i) ((wholeS h 12 0).drop i))
  | 0, i, ok, _, hm => absurd hm (by omega)
  | m + 1, i, ok, hi, hm => by
      have e1 : (textT c).1 = strOfNums (textS c 12 0) := rfl
      have e2 : wholeT h = strOfNums (wholeS h 12 0) := rfl
      have hl := text_whole_len c h 12 0
      rw [podestaref01_Has_l0, e1, e2, show ∀ L : List Int, (strOfNums L).size = L.length from fun L => by simp [strOfNums, ByteArray.size], show ∀ L : List Int, (strOfNums L).size = L.length from fun L => by simp [strOfNums, ByteArray.size]]
      by_cases hlt : i < (textS c 12 0).length
      · have hw : i < (wholeS h 12 0).length := by omega
        rw [decide_eq_true (by omega), cond_true, byteAt_nums _ (text_bytes c 12 0) hlt, byteAt_nums _ (whole_bytes h 12 0) hw, wrap_succ (by omega), List.drop_eq_getElem_cons hlt, List.drop_eq_getElem_cons hw, hasL]
        have r1 : (decide (0 ≤ (i : Int)) && true) = true := by rw [decide_eq_true (by omega)]; rfl
        have r2 : (decide (0 ≤ (i : Int)) && decide ((i : Int) < (((wholeS h 12 0).length : Nat) : Int))) = true := by rw [decide_eq_true (by omega), decide_eq_true (by omega)]; rfl
        have ih := fun ok => Has_l0_eq c h hN m (i + 1) ok (by omega) (by omega)
        rw [ih, ih, ih]
        cases ok
        · rfl
        · rw [cond_true, reqO_eq r1, reqO_eq r1, reqO_eq r2]
          cases (textS c 12 0)[i] == 120 <;> rfl
      · rw [decide_eq_false (by omega), cond_false, List.drop_eq_nil_of_le (by omega)]
        cases ok <;> rfl
theorem textS_len (c : Cube) : ∀ (r i : Nat), (textS c r i).length ≤ r * 64
  | 0, _ => Nat.le_refl _
  | r + 1, i => by
      have ih := textS_len c r (i + 1)
      have hs := sizeT_in ((i : Nat) : Int)
      have hn : sizeN i ≤ 64 := by unfold sizeN; omega
      rw [textS, List.length_append, List.length_zipWith, bitsL_len, bitsL_len, Nat.min_self]
      omega
def refHasP (c : Cube) (h : List Int) : Bool := ((textT c).2 && hasL (textS c 12 0) (wholeS h 12 0)) && podestaref01_Head h
theorem podestaref01_Has_ok (c : Cube) (h : List Int) : ACalls Try.prog tab.S 13 [Cube.av c, .arr .u64 12 h] [] (.sc (.bool (refHasP c h))) [] := by
  have hl := textS_len c 12 0
  refine podestaref01_Has_walk ((textS c 12 0).length + 1) c h _ ?_
  have e := Has_l0_eq c h (by omega) ((textS c 12 0).length + 1) 0 (textT c).2 (Nat.zero_le _) (by omega)
  rw [List.drop_zero, List.drop_zero, show ((0 : Nat) : Int) = 0 from rfl] at e
  rw [podestaref01_Has_raw, e]
  rfl

/-! ### podestaref04.Find: function 12 -/
noncomputable def podestaref04_Find_F : Go.Sh.Fn := ⟨12, bodyOf Try.f12, 21⟩
def podestaref04_Find_k0 : List Kd := [.pure, .pure, .pure, .pure, .pure, .read, .pure]
def podestaref04_Find_l0s (h1 : List Int) : List Rule → Nat → Sum (Unit) (Int × Bool)
  | [], i =>
    (.inl ())
  | x :: rest, i =>
    (bif (refHasP x.Match h1) then
      (.inr (((i : Nat) : Int), true))
    else
      podestaref04_Find_l0s h1 rest (i + 1) )
theorem podestaref04_Find_l0_walk (l : List Rule) (h1 : List Int) (f_l : Bool) (r : Int × Bool) (c0 : Ctx) (hc0 : c0.m.length = 0) (res : Sum (Unit) (Int × Bool)) (J : ∀ w : Unit, res = .inl w → AR Try.prog tab podestaref04_Find_F c0 (Rp tab.S c0 (.tup [.sc (.int .i64 r.1), .sc (.bool r.2)]) []) [.code [1, 1]] [] [.box 25 [.arr .u64 12 h1]]) (Jr : ∀ w, res = .inr w → w = r) :
    ∀ (rest : List Rule) (i : Nat) (hd : l.drop i = rest) (H : podestaref04_Find_l0s h1 rest i = res), AR Try.prog tab podestaref04_Find_F c0 (Rp tab.S c0 (.tup [.sc (.int .i64 r.1), .sc (.bool r.2)]) []) [.code [1, 0, 1, 0, 0], .loop [1, 0, 1, 0], .blk 0, .code [1, 1]] [(0, .sl 34 (List.map Rule.av l) f_l), (3, .ptr 0 0 none), (6, .sc (.int .i64 ((i : Nat) : Int)))] [.box 25 [.arr .u64 12 h1]] := by
  have hG := tab_ok
  have hm := mixed
  intro rest
  induction rest with
  | nil =>
    intro i hd  H
    rw [podestaref04_Find_l0s] at H
    refine AR.facts 0 rfl fun hf => ?_
    have hlen : l.length ≤ 9223372036854775807 := by have hq := len_ok hf.2.1; rw [List.length_map] at hq; exact hq
    have hge : l.length ≤ i := List.drop_eq_nil_iff.1 hd
    have hc : (decide (((i : Nat) : Int) < (((List.map Rule.av l).length : Nat) : Int))) = false := by rw [List.length_map]; exact decide_eq_false (by omega)
    refine AR.seg hG hm 3 [0, 3, 6, 10] (k' := [.code [1, 0, 1, 0, 0, 0, 1], .code [1, 0, 1, 0, 0, 1], .loop [1, 0, 1, 0], .blk 0, .code [1, 1]]) (t' := [(0, .sl 34 (List.map Rule.av l) f_l), (3, .ptr 0 0 none), (6, .sc (.int .i64 ((i : Nat) : Int))), (10, .sc (.bool (decide (((i : Nat) : Int) < (((List.map Rule.av l).length : Nat) : Int)))))]) (h' := [.box 25 [.arr .u64 12 h1]]) (by kernel_rfl) ?_
    refine AR.cond (.tmp 10) (decide (((i : Nat) : Int) < (((List.map Rule.av l).length : Nat) : Int))) (by kernel_rfl) (by kernel_rfl) (fun hb => ?ht7) (fun hb => ?hf7)
    case ht7 => exact absurd (hb.symm.trans hc) (by decide)
    case hf7 =>
      refine AR.seg hG hm 1 [] (k' := [.code [1, 1]]) (t' := []) (h' := [.box 25 [.arr .u64 12 h1]]) (by kernel_rfl) ?_
      refine AR.keep [] (t' := []) (by kernel_rfl) ?_
      exact J () H.symm
  | cons x rest ih =>
    intro i hd  H
    rw [podestaref04_Find_l0s] at H
    refine AR.facts 0 rfl fun hf => ?_
    have hlen : l.length ≤ 9223372036854775807 := by have hq := len_ok hf.2.1; rw [List.length_map] at hq; exact hq
    obtain ⟨hlt, hv_i, hd2⟩ := drop_cons hd
    have hc : (decide (((i : Nat) : Int) < (((List.map Rule.av l).length : Nat) : Int))) = true := by rw [List.length_map]; exact decide_eq_true (by omega)
    have hw : IntKind.i64.wrap (((i : Nat) : Int) + 1) = ((i + 1 : Nat) : Int) := wrapI_succ (by omega)
    refine AR.seg hG hm 3 [0, 3, 6, 10] (k' := [.code [1, 0, 1, 0, 0, 0, 1], .code [1, 0, 1, 0, 0, 1], .loop [1, 0, 1, 0], .blk 0, .code [1, 1]]) (t' := [(0, .sl 34 (List.map Rule.av l) f_l), (3, .ptr 0 0 none), (6, .sc (.int .i64 ((i : Nat) : Int))), (10, .sc (.bool (decide (((i : Nat) : Int) < (((List.map Rule.av l).length : Nat) : Int)))))]) (h' := [.box 25 [.arr .u64 12 h1]]) (by kernel_rfl) ?_
    refine AR.cond (.tmp 10) (decide (((i : Nat) : Int) < (((List.map Rule.av l).length : Nat) : Int))) (by kernel_rfl) (by kernel_rfl) (fun hb => ?ht8) (fun hb => ?hf8)
    case ht8 =>
      refine AR.seg hG hm 4 [0, 3, 6] (k' := [.code [1, 0, 1, 0, 0, 1, 0, 0, 0], .code [1, 0, 1, 0, 0, 1, 0, 0, 1], .blk 1, .code [1, 0, 1, 0, 0, 1, 1], .loop [1, 0, 1, 0], .blk 0, .code [1, 1]]) (t' := [(0, .sl 34 (List.map Rule.av l) f_l), (3, .ptr 0 0 none), (6, .sc (.int .i64 ((i : Nat) : Int)))]) (h' := [.box 25 [.arr .u64 12 h1]]) (by kernel_rfl) ?_
      refine AR.reg hm podestaref04_Find_k0 (by kernel_rfl) ?_
      refine DK.seg hG 2 [0, 3, 6, 13, 14] (t' := [(0, .sl 34 (List.map Rule.av l) f_l), (3, .ptr 0 0 none), (6, .sc (.int .i64 ((i : Nat) : Int))), (13, .sl 34 (List.map Rule.av l) f_l), (14, .sc (.int .i64 ((i : Nat) : Int)))]) (h' := [.box 25 [.arr .u64 12 h1]]) (by kernel_rfl) rfl ?_
      refine DK.op' [0, 3, 6, 15] (t' := [(0, .sl 34 (List.map Rule.av l) f_l), (3, .ptr 0 0 none), (6, .sc (.int .i64 ((i : Nat) : Int))), (15, .ep [.arr .u64 12 x.Match.Value, .arr .u64 12 x.Match.Care, .sc (.int .i64 x.Prio), .sl 42 (List.map Act.av x.Acts) false, .sc (.int .i64 x.Idle), .sc (.int .i64 x.Hard), .sc (.int .i64 x.Owner), .sc (.int .i64 x.Hits), .sc (.int .i64 x.Quiet), .sc (.int .i64 x.Age)] 0 none)]) (h' := [.box 25 [.arr .u64 12 h1]]) (LSpec.index' (r := Rule.av x) (fs := [.arr .u64 12 x.Match.Value, .arr .u64 12 x.Match.Care, .sc (.int .i64 x.Prio), .sl 42 (List.map Act.av x.Acts) false, .sc (.int .i64 x.Idle), .sc (.int .i64 x.Hard), .sc (.int .i64 x.Owner), .sc (.int .i64 x.Hits), .sc (.int .i64 x.Quiet), .sc (.int .i64 x.Age)]) hG (rows := List.map Rule.av l) (j := ((i : Nat) : Int)) (by kernel_rfl) (ixO_map hv_i _) (by kernel_rfl)) (by kernel_rfl) rfl (by kernel_rfl) rfl ?_
      refine DK.seg hG 3 [0, 3, 6, 17, 18] (t' := [(0, .sl 34 (List.map Rule.av l) f_l), (3, .ptr 0 0 none), (6, .sc (.int .i64 ((i : Nat) : Int))), (17, Cube.av x.Match), (18, .arr .u64 12 h1)]) (h' := [.box 25 [.arr .u64 12 h1]]) (by kernel_rfl) rfl ?_
      refine DK.op' [0, 3, 6, 19] (t' := [(0, .sl 34 (List.map Rule.av l) f_l), (3, .ptr 0 0 none), (6, .sc (.int .i64 ((i : Nat) : Int))), (19, .sc (.bool (refHasP x.Match h1)))]) (h' := [.box 25 [.arr .u64 12 h1]]) (LSpec.callP' (podestaref01_Has_ok x.Match h1) (by kernel_rfl)) (by kernel_rfl) rfl (by kernel_rfl) rfl ?_
      refine DK.done (by kernel_rfl) (by kernel_rfl) ?_
      refine AR.cond (.tmp 19) (refHasP x.Match h1) (by kernel_rfl) (by kernel_rfl) (fun hb => ?ht9) (fun hb => ?hf9)
      case ht9 =>
        replace H := cond_t hb H
        refine AR.seg hG hm 2 [4, 5] (k' := [.code [1, 0, 1, 0, 0, 1, 0, 0, 1, 0, 1], .blk 1, .code [1, 0, 1, 0, 0, 1, 1], .loop [1, 0, 1, 0], .blk 0, .code [1, 1]]) (t' := [(4, .sc (.int .i64 ((i : Nat) : Int))), (5, .sc (.bool true))]) (h' := [.box 25 [.arr .u64 12 h1]]) (by kernel_rfl) ?_
        subst H
        obtain rfl := Jr _ rfl
        exact AR.ret0 (fn := Try.f12) hG Try.func12 (by kernel_rfl) hc0 (r0 := .tup [.sc (.int .i64 ((i : Nat) : Int)), .sc (.bool true)]) (by kernel_rfl) (WkV.refl _)
      case hf9 =>
        replace H := cond_f hb H
        refine AR.seg hG hm 3 [0, 3, 6] (k' := [.loop [1, 0, 1, 0], .blk 0, .code [1, 1]]) (t' := [(0, .sl 34 (List.map Rule.av l) f_l), (3, .ptr 0 0 none), (6, .sc (.int .i64 (IntKind.i64.wrap (((i : Nat) : Int) + 1))))]) (h' := [.box 25 [.arr .u64 12 h1]]) (by kernel_rfl) ?_
        refine AR.keep [0, 3, 6] (t' := [(0, .sl 34 (List.map Rule.av l) f_l), (3, .ptr 0 0 none), (6, .sc (.int .i64 (IntKind.i64.wrap (((i : Nat) : Int) + 1))))]) (by kernel_rfl) ?_
        refine AR.loop_round ?_
        rw [hw]
        exact ih (i + 1) hd2 H
    case hf8 => exact absurd (hc.symm.trans hb) (by decide)

def podestaref04_Find (l : List Rule) (h1 : List Int) : Int × Bool :=
  sumG (fun q => q) (podestaref04_Find_l0s h1 l 0) fun v =>
  (0, false)
theorem podestaref04_Find_walk (l : List Rule) (h1 : List Int) (f_l : Bool) (r : Int × Bool) (H : podestaref04_Find l h1 = r) :
    ACalls Try.prog tab.S 12 [.sl 34 (List.map Rule.av l) f_l, .arr .u64 12 h1] [] (.tup [.sc (.int .i64 r.1), .sc (.bool r.2)]) [] := by
  have hG := tab_ok
  have hm := mixed
  refine ACalls.of_AR (G := tab) podestaref04_Find_F (fn := Try.f12) Try.func12 (by kernel_rfl) (by kernel_rfl) (by kernel_rfl) (Nat.le_of_ble_eq_true (by kernel_rfl)) ?_
  intro c0 hc0
  replace hc0 : c0.m.length = 0 := hc0
  rw [podestaref04_Find] at H
  refine AR.seg hG hm 6 [0, 3, 6] (k' := [.code [1, 0, 1, 0], .blk 0, .code [1, 1]]) (t' := [(0, .sl 34 (List.map Rule.av l) f_l), (3, .ptr 0 0 none), (6, .sc (.int .i64 0))]) (h' := [.box 25 [.arr .u64 12 h1]]) (by kernel_rfl) ?_
  rcases sumG_eq H with ⟨v, hv, H⟩ | ⟨r1, hv, hr1⟩
  case inr =>
    refine AR.into (by kernel_rfl) ?_
    replace hr1 : r1 = r := hr1
    subst hr1
    exact podestaref04_Find_l0_walk l h1 f_l _ c0 hc0 (.inr _) (fun _ e => by cases e) (fun _ e => (Sum.inr.inj e).symm) l 0 rfl hv
  refine AR.into (by kernel_rfl) ?_
  refine podestaref04_Find_l0_walk l h1 f_l r c0 hc0 (.inl v) (fun w e => ?_) (fun _ e => by cases e) l 0 rfl hv
  have e := Sum.inl.inj e
  subst e
  refine AR.seg hG hm 2 [4, 5] (k' := [.code [1, 1, 1]]) (t' := [(4, .sc (.int .i64 0)), (5, .sc (.bool false))]) (h' := [.box 25 [.arr .u64 12 h1]]) (by kernel_rfl) ?_
  subst H
  exact AR.ret0 (fn := Try.f12) hG Try.func12 (by kernel_rfl) hc0 (r0 := .tup [.sc (.int .i64 0), .sc (.bool false)]) (by kernel_rfl) (WkV.refl _)
theorem podestaref04_Find_calls (l : List Rule) (h1 : List Int) (f_l : Bool) : ACalls Try.prog tab.S 12 [.sl 34 (List.map Rule.av l) f_l, .arr .u64 12 h1] [] (.tup [.sc (.int .i64 ((podestaref04_Find l h1).1)), .sc (.bool ((podestaref04_Find l h1).2))]) [] := podestaref04_Find_walk l h1 f_l _ rfl

end Go.Proofs.Ytadolbhmdimbkaa

set_option linter.unusedVariables false
set_option linter.unusedSimpArgs false
set_option maxRecDepth 100000
set_option maxHeartbeats 4000000
namespace Go.Proofs.Ytadolbhmdimbkaa
open Go.Sh
/-- the fields, one by one -/
def hasF (c : Cube) (h : List Int) : Nat → Nat → Bool
  | 0, _ => true
  | r + 1, i => bitsHas (bitsL (c.Value.getD i 0) (sizeN i)) (bitsL (c.Care.getD i 0) (sizeN i)) (bitsL (h.getD i 0) (sizeN i)) && hasF c h r (i + 1)
theorem hasL_fields (c : Cube) (h : List Int) : ∀ (r i : Nat), hasL (textS c r i) (wholeS h r i) = hasF c h r i
  | 0, _ => rfl
  | r + 1, i => by
      rw [textS, wholeS, hasF, hasL_append _ _ _ _ (by rw [List.length_zipWith, bitsL_len, bitsL_len, List.length_map, bitsL_len, Nat.min_self]), hasL_bits _ _ _ (by rw [bitsL_len, bitsL_len]) (by rw [bitsL_len, bitsL_len]), hasL_fields c h r (i + 1)]

end Go.Proofs.Ytadolbhmdimbkaa

set_option linter.unusedVariables false
set_option linter.unusedSimpArgs false
set_option maxRecDepth 100000
set_option maxHeartbeats 4000000
namespace Go.Proofs.Ytadolbhmdimbkaa
open Go.Sh
def fieldE (c : Cube) (h : List Int) (i : Nat) : Bool := (IntKind.u64.wrap ((BitVec.ofInt 64 (h.getD i 0) &&& BitVec.ofInt 64 (c.Care.getD i 0)).toNat)) == (c.Value.getD i 0)
def fieldsE (c : Cube) (h : List Int) : Nat → Nat → Bool
  | 0, _ => true
  | r + 1, i => fieldE c h i && fieldsE c h r (i + 1)
theorem cube_Has_l0s_eq (c : Cube) (h : List Int) : ∀ (r i : Nat), cube_Has_l0s c h r i = if fieldsE c h r i then .inl () else .inr false
  | 0, _ => rfl
  | r + 1, i => by
      rw [cube_Has_l0s, cube_Has_l0s_eq c h r (i + 1), fieldsE]
      show (bif !(fieldE c h i) then _ else _) = _
      cases fieldE c h i <;> rfl
theorem u64_range {xs : List Int} {n : Nat} (h : arrW .u64 n xs) (i : Nat) : ∃ k : Nat, xs.getD i 0 = (k : Int) ∧ k < 18446744073709551616 := by
  rw [List.getD_eq_getElem?_getD]
  by_cases hi : i < xs.length
  · rw [List.getElem?_eq_getElem hi]
    have := h.2 _ (List.getElem_mem hi)
    unfold Go.Lit.wf at this
    rw [Bool.and_eq_true, decide_eq_true_eq, decide_eq_true_eq] at this
    have h0 : 0 ≤ xs[i] := this.1
    have h2 : xs[i] ≤ 18446744073709551615 := this.2
    refine ⟨xs[i].toNat, ?_, ?_⟩
    · simp only [Option.getD_some]; omega
    · omega
  · rw [List.getElem?_eq_none (by omega)]
    exact ⟨0, rfl, by decide⟩
theorem ofInt_nat {n : Nat} (hn : n < 18446744073709551616) : (BitVec.ofInt 64 ((n : Nat) : Int)).toNat = n := by
  rw [BitVec.toNat_ofInt]
  have p : ((2 ^ 64 : Nat) : Int) = 18446744073709551616 := by decide
  rw [p]; omega
theorem wrapU_nat {n : Nat} (hn : n < 18446744073709551616) : IntKind.u64.wrap ((n : Nat) : Int) = (n : Int) := by
  have hw : ∀ z : Int, IntKind.u64.wrap z = z % 18446744073709551616 := fun z => by simp [IntKind.wrap, IntKind.bits, IntKind.signed]
  rw [hw]; omega
theorem field_eq {c : Cube} {h : List Int} (wc : Cube.wf c) (wh : arrW .u64 12 h) {i : Nat} (hb : badAt c i = false) (hf : fitsT ((i : Nat) : Int) (c.Care.getD i 0) = true) :
    bitsHas (bitsL (c.Value.getD i 0) (sizeN i)) (bitsL (c.Care.getD i 0) (sizeN i)) (bitsL (h.getD i 0) (sizeN i)) = fieldE c h i := by
  obtain ⟨v, ev, hv⟩ := u64_range wc.1 i
  obtain ⟨k, ek, hk⟩ := u64_range wc.2 i
  obtain ⟨q, eq, hq⟩ := u64_range wh i
  have hs := sizeT_in ((i : Nat) : Int)
  have hn : sizeN i ≤ 64 := by unfold sizeN; omega
  unfold badAt at hb
  unfold fieldE
  rw [ev, ek] at hb
  rw [ek] at hf
  rw [ev, ek, eq]
  have hkn : k < 2 ^ sizeN i := by
    unfold fitsT at hf
    rw [decide_eq_true_eq] at hf
    have : ((k : Nat) : Int) < ((2 ^ sizeN i : Nat) : Int) := by
      unfold sizeN
      push_cast
      exact hf
    omega
  have hvc : ∀ j, v.testBit j = true → k.testBit j = true := by
    intro j hj
    by_cases hj64 : j < 64
    · have h0 : (BitVec.ofInt 64 ((v : Nat) : Int) &&& ~~~ (BitVec.ofInt 64 ((k : Nat) : Int))) = 0#64 := by
        have hlt := (BitVec.ofInt 64 ((v : Nat) : Int) &&& ~~~ (BitVec.ofInt 64 ((k : Nat) : Int))).isLt
        rw [wrapU_nat (by omega)] at hb
        apply BitVec.eq_of_toNat_eq
        have : (((BitVec.ofInt 64 ((v : Nat) : Int) &&& ~~~ (BitVec.ofInt 64 ((k : Nat) : Int))).toNat : Nat) : Int) = 0 := by simpa using hb
        simpa using this
      have h1 := congrArg (fun b => b.getLsbD j) h0
      simp only [BitVec.getLsbD_and, BitVec.getLsbD_not, BitVec.getLsbD_zero, hj64, decide_true, Bool.true_and] at h1
      rw [BitVec.getLsbD, BitVec.getLsbD, ofInt_nat hv, ofInt_nat hk, hj, Bool.true_and] at h1
      simpa using h1
    · have : v.testBit j = false := Nat.testBit_lt_two_pow (Nat.lt_of_lt_of_le hv (Nat.pow_le_pow_right (n := 2) (by decide) (show 64 ≤ j by omega)))
      rw [this] at hj; cases hj
  rw [field_has hv hk hq hn hkn hvc, BitVec.toNat_and, ofInt_nat hq, ofInt_nat hk, wrapU_nat (Nat.lt_of_le_of_lt Nat.and_le_left hq), Bool.eq_iff_iff, decide_eq_true_eq, beq_iff_eq]
  omega

end Go.Proofs.Ytadolbhmdimbkaa

set_option linter.unusedVariables false
set_option linter.unusedSimpArgs false
set_option maxRecDepth 100000
set_option maxHeartbeats 4000000
namespace Go.Proofs.Ytadolbhmdimbkaa
open Go.Sh
def HeadOk (h : List Int) : Bool := (List.range' 0 12).all fun i => fitsT ((i : Nat) : Int) (h.getD i 0)
theorem refHead_l0s_eq (h : List Int) : ∀ (n i : Nat), podestaref01_Head_l0s h n i = if (List.range' i n).all (fun i => fitsT ((i : Nat) : Int) (h.getD i 0)) then .inl () else .inr false
  | 0, i => rfl
  | n + 1, i => by
      rw [podestaref01_Head_l0s, refFits_eq, refHead_l0s_eq h n (i + 1), List.range'_succ, List.all_cons]
      cases fitsT ((i : Nat) : Int) (h.getD i 0)
      · rfl
      · simp only [Bool.not_true, cond_false, Bool.true_and]
theorem refHead_eq (h : List Int) : podestaref01_Head h = HeadOk h := by
  unfold podestaref01_Head HeadOk
  rw [refHead_l0s_eq]
  cases (List.range' 0 12).all _ <;> rfl

theorem textOk_parts (c : Cube) : ∀ (r i : Nat) (ok : Bool), textOk c r i ok = true → ok = true ∧ ∀ j, i ≤ j → j < i + r → badAt c j = false
  | 0, i, ok, h => ⟨h, fun j h1 h2 => absurd h2 (by omega)⟩
  | r + 1, i, ok, h => by
      rw [textOk] at h
      obtain ⟨h1, h2⟩ := textOk_parts c r (i + 1) _ h
      cases hb : badAt c i
      · rw [hb] at h1
        refine ⟨h1, fun j h3 h4 => ?_⟩
        rcases Nat.eq_or_lt_of_le h3 with q | q
        · subst q; exact hb
        · exact h2 j (by omega) (by omega)
      · rw [hb] at h1; cases h1
theorem fields_eq {c : Cube} {h : List Int} (wc : Cube.wf c) (wh : arrW .u64 12 h) (hb : ∀ j, j < 12 → badAt c j = false) (hf : ∀ j : Nat, j < 12 → fitsT ((j : Nat) : Int) (c.Care.getD j 0) = true) : ∀ (r i : Nat), i + r = 12 → hasF c h r i = fieldsE c h r i
  | 0, _, _ => rfl
  | r + 1, i, e => by
      rw [hasF, fieldsE, field_eq wc wh (hb i (by omega)) (hf i (by omega)), fields_eq wc wh hb hf r (i + 1) (by omega)]
theorem cube_Has_eq {c : Cube} {h : List Int} (wc : Cube.wf c) (wh : arrW .u64 12 h) : cube_Has c h = refHasP c h := by
  rw [cube_Has, cube_Has_l0s_eq, refHasP, hasL_fields, cube_Sound_eq wc, head_Sound_eq wh, podestaref01_Cube]
  cases hT : (textT c).2
  · cases fieldsE c h 12 0 <;> rfl
  · obtain ⟨h1, h2⟩ := textOk_parts c 12 0 _ hT
    rw [refHead_eq] at h1
    unfold HeadOk at h1
    rw [List.all_eq_true] at h1
    rw [fields_eq wc wh (fun j hj => h2 j (Nat.zero_le _) (by omega)) (fun j hj => h1 j (by rw [List.mem_range'_1]; omega)) 12 0 rfl]
    cases fieldsE c h 12 0
    · rfl
    · cases podestaref01_Head h <;> rfl

end Go.Proofs.Ytadolbhmdimbkaa

set_option linter.unusedVariables false
set_option linter.unusedSimpArgs false
set_option maxRecDepth 100000
set_option maxHeartbeats 4000000
namespace Go.Proofs.Ytadolbhmdimbkaa
open Go.Sh
/-! ### podestalaw05.RuleFinds: function 3 -/
noncomputable def podestalaw05_RuleFinds_F : Go.Sh.Fn := ⟨3, bodyOf Try.f3, 59⟩
def podestalaw05_RuleFinds_k0 : List Kd := [.pure, .pure]
def podestalaw05_RuleFinds_k5 : List Kd := [.pure, .pure, .pure, .pure, .pure, .read, .pure]
def podestalaw05_RuleFinds_k4 : List Kd := [.pure, .pure, .pure, .pure, .pure, .pure, .pure, .pure, .pure, .pure, .pure, .pure]
def podestalaw05_RuleFinds_k3 : List Kd := [.pure, .pure, .pure, .pure, .pure, .pure, .pure, .pure, .pure, .pure, .pure, .pure]
def podestalaw05_RuleFinds_k2 : List Kd := [.pure, .read, .pure, .pure, .pure, .pure, .pure, .pure]
def podestalaw05_RuleFinds_k1 : List Kd := [.pure, .read, .pure, .pure, .pure, .pure, .pure, .pure]
def podestalaw05_RuleFinds_l0 (l : List Rule) (h1 : List Int) (n : Int) (ok : Bool) : Nat → Int → Option (Sum (Unit) (Bool))
  | 0, _ => none
  | m + 1, i =>
    (bif (((decide (i < (((List.map Rule.av l).length : Nat) : Int))) && ok) && (decide (i < n))) then
    (ixO l i).bind fun x =>
    (bif (refHasP x.Match h1) then
      some (.inr false)
    else
      podestalaw05_RuleFinds_l0 l h1 n ok m (IntKind.i64.wrap (i + 1)))
  else
    some (.inl ()))
theorem podestalaw05_RuleFinds_l0_walk (q0 : Nat) (l : List Rule) (h1 : List Int) (n : Int) (ok : Bool) (f_l : Bool) (r : Bool) (c0 : Ctx) (hc0 : c0.m.length = 0) (res : Sum (Unit) (Bool)) (J : ∀ w : Unit, res = .inl w → AR Try.prog tab podestalaw05_RuleFinds_F c0 (Rp tab.S c0 (.sc (.bool r)) []) [.code [1, 1, 1, 1, 1, 1]] [] [.box 25 [.arr .u64 12 h1]]) (Jr : ∀ w, res = .inr w → w = r) :
    ∀ (m : Nat) (i : Int) (H : podestalaw05_RuleFinds_l0 l h1 n ok m i = some res), AR Try.prog tab podestalaw05_RuleFinds_F c0 (Rp tab.S c0 (.sc (.bool r)) []) [.code [1, 1, 1, 1, 1, 0, 1, 0, 0], .loop [1, 1, 1, 1, 1, 0, 1, 0], .blk 0, .code [1, 1, 1, 1, 1, 1]] [(0, .sl 34 (List.map Rule.av l) f_l), (3, .ptr 0 0 none), (5, .sc (.int .i64 n)), (6, .sc (.bool ok)), (9, .sc (.int .i64 i))] [.box 25 [.arr .u64 12 h1]] := by
  have hG := tab_ok
  have hm := mixed
  intro m
  induction m with
  | zero => intro i H; cases H
  | succ m ih =>
    intro i H
    rw [podestalaw05_RuleFinds_l0] at H
    refine AR.seg hG hm 2 [0, 3, 5, 6, 9] (k' := [.code [1, 1, 1, 1, 1, 0, 1, 0, 0, 0, 0], .code [1, 1, 1, 1, 1, 0, 1, 0, 0, 0, 1], .code [1, 1, 1, 1, 1, 0, 1, 0, 0, 1], .loop [1, 1, 1, 1, 1, 0, 1, 0], .blk 0, .code [1, 1, 1, 1, 1, 1]]) (t' := [(0, .sl 34 (List.map Rule.av l) f_l), (3, .ptr 0 0 none), (5, .sc (.int .i64 n)), (6, .sc (.bool ok)), (9, .sc (.int .i64 i))]) (h' := [.box 25 [.arr .u64 12 h1]]) (by kernel_rfl) ?_
    refine AR.reg hm podestalaw05_RuleFinds_k4 (by kernel_rfl) ?_
    refine DK.seg hG 5 [0, 3, 5, 6, 9, 42] (t' := [(0, .sl 34 (List.map Rule.av l) f_l), (3, .ptr 0 0 none), (5, .sc (.int .i64 n)), (6, .sc (.bool ok)), (9, .sc (.int .i64 i)), (42, .sc (.bool (decide (i < (((List.map Rule.av l).length : Nat) : Int)))))]) (h' := [.box 25 [.arr .u64 12 h1]]) (by kernel_rfl) rfl ?_
    refine DK.mux 42 (decide (i < (((List.map Rule.av l).length : Nat) : Int))) (j := 7) (h' := [.box 25 [.arr .u64 12 h1]]) (by kernel_rfl) (fun z => [(0, .sl 34 (List.map Rule.av l) f_l), (3, .ptr 0 0 none), (5, .sc (.int .i64 n)), (6, .sc (.bool ok)), (9, .sc (.int .i64 i)), (44, .sc (.bool (z && ok)))]) ?J16 (fun hb J => ?ht16) (fun hb J => ?hf16)
    case ht16 =>
      exact DK.seg hG 2 [0, 3, 5, 6, 9, 44] (by kernel_rfl) rfl J
    case hf16 =>
      exact DK.seg hG 2 [0, 3, 5, 6, 9, 44] (by kernel_rfl) rfl J
    refine DK.seg hG 1 [0, 3, 5, 6, 9, 45] (t' := [(0, .sl 34 (List.map Rule.av l) f_l), (3, .ptr 0 0 none), (5, .sc (.int .i64 n)), (6, .sc (.bool ok)), (9, .sc (.int .i64 i)), (45, .sc (.bool ((decide (i < (((List.map Rule.av l).length : Nat) : Int))) && ok)))]) (h' := [.box 25 [.arr .u64 12 h1]]) (by kernel_rfl) rfl ?_
    refine DK.mux 45 ((decide (i < (((List.map Rule.av l).length : Nat) : Int))) && ok) (j := 12) (h' := [.box 25 [.arr .u64 12 h1]]) (by kernel_rfl) (fun z => [(0, .sl 34 (List.map Rule.av l) f_l), (3, .ptr 0 0 none), (5, .sc (.int .i64 n)), (6, .sc (.bool ok)), (9, .sc (.int .i64 i)), (49, .sc (.bool (z && (decide (i < n)))))]) ?J17 (fun hb J => ?ht17) (fun hb J => ?hf17)
    case ht17 =>
      exact DK.seg hG 4 [0, 3, 5, 6, 9, 49] (by kernel_rfl) rfl J
    case hf17 =>
      exact DK.seg hG 4 [0, 3, 5, 6, 9, 49] (by kernel_rfl) rfl J
    refine DK.done (by kernel_rfl) (by kernel_rfl) ?_
    refine AR.cond (.tmp 49) (((decide (i < (((List.map Rule.av l).length : Nat) : Int))) && ok) && (decide (i < n))) (by kernel_rfl) (by kernel_rfl) (fun hb => ?ht18) (fun hb => ?hf18)
    case ht18 =>
      replace H := cond_t hb H
      refine AR.seg hG hm 4 [0, 3, 5, 6, 9] (k' := [.code [1, 1, 1, 1, 1, 0, 1, 0, 0, 1, 0, 0, 0], .code [1, 1, 1, 1, 1, 0, 1, 0, 0, 1, 0, 0, 1], .blk 1, .code [1, 1, 1, 1, 1, 0, 1, 0, 0, 1, 1], .loop [1, 1, 1, 1, 1, 0, 1, 0], .blk 0, .code [1, 1, 1, 1, 1, 1]]) (t' := [(0, .sl 34 (List.map Rule.av l) f_l), (3, .ptr 0 0 none), (5, .sc (.int .i64 n)), (6, .sc (.bool ok)), (9, .sc (.int .i64 i))]) (h' := [.box 25 [.arr .u64 12 h1]]) (by kernel_rfl) ?_
      refine AR.reg hm podestalaw05_RuleFinds_k5 (by kernel_rfl) ?_
      refine DK.seg hG 2 [0, 3, 5, 6, 9, 52, 53] (t' := [(0, .sl 34 (List.map Rule.av l) f_l), (3, .ptr 0 0 none), (5, .sc (.int .i64 n)), (6, .sc (.bool ok)), (9, .sc (.int .i64 i)), (52, .sl 34 (List.map Rule.av l) f_l), (53, .sc (.int .i64 i))]) (h' := [.box 25 [.arr .u64 12 h1]]) (by kernel_rfl) rfl ?_
      obtain ⟨x, hv, H⟩ := Option.bind_eq_some_iff.1 H
      refine DK.op' [0, 3, 5, 6, 9, 54] (t' := [(0, .sl 34 (List.map Rule.av l) f_l), (3, .ptr 0 0 none), (5, .sc (.int .i64 n)), (6, .sc (.bool ok)), (9, .sc (.int .i64 i)), (54, .ep [.arr .u64 12 x.Match.Value, .arr .u64 12 x.Match.Care, .sc (.int .i64 x.Prio), .sl 42 (List.map Act.av x.Acts) false, .sc (.int .i64 x.Idle), .sc (.int .i64 x.Hard), .sc (.int .i64 x.Owner), .sc (.int .i64 x.Hits), .sc (.int .i64 x.Quiet), .sc (.int .i64 x.Age)] 0 none)]) (h' := [.box 25 [.arr .u64 12 h1]]) (LSpec.index' (r := Rule.av x) (fs := [.arr .u64 12 x.Match.Value, .arr .u64 12 x.Match.Care, .sc (.int .i64 x.Prio), .sl 42 (List.map Act.av x.Acts) false, .sc (.int .i64 x.Idle), .sc (.int .i64 x.Hard), .sc (.int .i64 x.Owner), .sc (.int .i64 x.Hits), .sc (.int .i64 x.Quiet), .sc (.int .i64 x.Age)]) hG (rows := List.map Rule.av l) (j := i) (by kernel_rfl) (ixO_map hv _) (by kernel_rfl)) (by kernel_rfl) rfl (by kernel_rfl) rfl ?_
      refine DK.seg hG 3 [0, 3, 5, 6, 9, 56, 57] (t' := [(0, .sl 34 (List.map Rule.av l) f_l), (3, .ptr 0 0 none), (5, .sc (.int .i64 n)), (6, .sc (.bool ok)), (9, .sc (.int .i64 i)), (56, Cube.av x.Match), (57, .arr .u64 12 h1)]) (h' := [.box 25 [.arr .u64 12 h1]]) (by kernel_rfl) rfl ?_
      refine DK.op' [0, 3, 5, 6, 9, 58] (t' := [(0, .sl 34 (List.map Rule.av l) f_l), (3, .ptr 0 0 none), (5, .sc (.int .i64 n)), (6, .sc (.bool ok)), (9, .sc (.int .i64 i)), (58, .sc (.bool (refHasP x.Match h1)))]) (h' := [.box 25 [.arr .u64 12 h1]]) (LSpec.callP' (podestaref01_Has_ok x.Match h1) (by kernel_rfl)) (by kernel_rfl) rfl (by kernel_rfl) rfl ?_
      refine DK.done (by kernel_rfl) (by kernel_rfl) ?_
      refine AR.cond (.tmp 58) (refHasP x.Match h1) (by kernel_rfl) (by kernel_rfl) (fun hb => ?ht19) (fun hb => ?hf19)
      case ht19 =>
        replace H := cond_t hb H
        refine AR.seg hG hm 2 [4] (k' := [.code [1, 1, 1, 1, 1, 0, 1, 0, 0, 1, 0, 0, 1, 0, 1], .blk 1, .code [1, 1, 1, 1, 1, 0, 1, 0, 0, 1, 1], .loop [1, 1, 1, 1, 1, 0, 1, 0], .blk 0, .code [1, 1, 1, 1, 1, 1]]) (t' := [(4, .sc (.bool false))]) (h' := [.box 25 [.arr .u64 12 h1]]) (by kernel_rfl) ?_
        obtain rfl := Option.some.inj H
        obtain rfl := Jr _ rfl
        exact AR.ret0 (fn := Try.f3) hG Try.func3 (by kernel_rfl) hc0 (r0 := .sc (.bool false)) (by kernel_rfl) (WkV.refl _)
      case hf19 =>
        replace H := cond_f hb H
        refine AR.seg hG hm 3 [0, 3, 5, 6, 9] (k' := [.loop [1, 1, 1, 1, 1, 0, 1, 0], .blk 0, .code [1, 1, 1, 1, 1, 1]]) (t' := [(0, .sl 34 (List.map Rule.av l) f_l), (3, .ptr 0 0 none), (5, .sc (.int .i64 n)), (6, .sc (.bool ok)), (9, .sc (.int .i64 (IntKind.i64.wrap (i + 1))))]) (h' := [.box 25 [.arr .u64 12 h1]]) (by kernel_rfl) ?_
        refine AR.keep [0, 3, 5, 6, 9] (t' := [(0, .sl 34 (List.map Rule.av l) f_l), (3, .ptr 0 0 none), (5, .sc (.int .i64 n)), (6, .sc (.bool ok)), (9, .sc (.int .i64 (IntKind.i64.wrap (i + 1))))]) (by kernel_rfl) ?_
        refine AR.loop_round ?_
        exact ih (IntKind.i64.wrap (i + 1)) H
    case hf18 =>
      replace H := cond_f hb H
      refine AR.seg hG hm 1 [] (k' := [.code [1, 1, 1, 1, 1, 1]]) (t' := []) (h' := [.box 25 [.arr .u64 12 h1]]) (by kernel_rfl) ?_
      refine AR.keep [] (t' := []) (by kernel_rfl) ?_
      exact J () (Option.some.inj H).symm
def podestalaw05_RuleFinds_raw (q0 : Nat) (l : List Rule) (h1 : List Int) : Option (Bool) :=
  (bif (decide ((((List.map Rule.av l).length : Nat) : Int) > 60)) then
    some true
  else
    (bif (((rule_Find l h1).1 != (podestaref04_Find l h1).1) || ((rule_Find l h1).2 != (podestaref04_Find l h1).2)) then
      some false
    else
      loopO (podestalaw05_RuleFinds_l0 l h1 ((rule_Find l h1).1) ((rule_Find l h1).2) q0 0) fun v =>
      some true))
theorem podestalaw05_RuleFinds_walk (q0 : Nat) (l : List Rule) (h1 : List Int) (f_l : Bool) (r : Bool) (H : podestalaw05_RuleFinds_raw q0 l h1 = some r) :
    ACalls Try.prog tab.S 3 [.sl 34 (List.map Rule.av l) f_l, .arr .u64 12 h1] [] (.sc (.bool r)) [] := by
  have hG := tab_ok
  have hm := mixed
  refine ACalls.of_AR (G := tab) podestalaw05_RuleFinds_F (fn := Try.f3) Try.func3 (by kernel_rfl) (by kernel_rfl) (by kernel_rfl) (Nat.le_of_ble_eq_true (by kernel_rfl)) ?_
  intro c0 hc0
  replace hc0 : c0.m.length = 0 := hc0
  rw [podestalaw05_RuleFinds_raw] at H
  refine AR.seg hG hm 5 [0, 3, 12] (k' := [.code [1, 0, 1], .code [1, 1]]) (t' := [(0, .sl 34 (List.map Rule.av l) f_l), (3, .ptr 0 0 none), (12, .sc (.bool (decide ((((List.map Rule.av l).length : Nat) : Int) > 60))))]) (h' := [.box 25 [.arr .u64 12 h1]]) (by kernel_rfl) ?_
  refine AR.cond (.tmp 12) (decide ((((List.map Rule.av l).length : Nat) : Int) > 60)) (by kernel_rfl) (by kernel_rfl) (fun hb => ?ht1) (fun hb => ?hf1)
  case ht1 =>
    replace H := cond_t hb H
    refine AR.seg hG hm 1 [] (k' := [.code [1, 0, 1, 0, 0], .code [1, 0, 1, 0, 1], .code [1, 1]]) (t' := []) (h' := [.box 25 [.arr .u64 12 h1]]) (by kernel_rfl) ?_
    refine AR.reg hm podestalaw05_RuleFinds_k0 (by kernel_rfl) ?_
    refine DK.op' [13] (t' := [(13, .sc (.bool true))]) (h' := [.box 25 [.arr .u64 12 h1]]) (LSpec.callP' (podestalaw05_answers_ok) (by kernel_rfl)) (by kernel_rfl) rfl (by kernel_rfl) rfl ?_
    refine DK.seg hG 1 [4] (t' := [(4, .sc (.bool true))]) (h' := [.box 25 [.arr .u64 12 h1]]) (by kernel_rfl) rfl ?_
    refine DK.done (by kernel_rfl) (by kernel_rfl) ?_
    obtain rfl := Option.some.inj H
    exact AR.ret0 (fn := Try.f3) hG Try.func3 (by kernel_rfl) hc0 (r0 := .sc (.bool true)) (by kernel_rfl) (WkV.refl _)
  case hf1 =>
    replace H := cond_f hb H
    refine AR.seg hG hm 2 [0, 3] (k' := [.code [1, 1, 0], .code [1, 1, 1]]) (t' := [(0, .sl 34 (List.map Rule.av l) f_l), (3, .ptr 0 0 none)]) (h' := [.box 25 [.arr .u64 12 h1]]) (by kernel_rfl) ?_
    refine AR.reg hm podestalaw05_RuleFinds_k1 (by kernel_rfl) ?_
    refine DK.seg hG 2 [0, 3, 15, 16] (t' := [(0, .sl 34 (List.map Rule.av l) f_l), (3, .ptr 0 0 none), (15, .sl 34 (List.map Rule.av l) f_l), (16, .arr .u64 12 h1)]) (h' := [.box 25 [.arr .u64 12 h1]]) (by kernel_rfl) rfl ?_
    refine DK.op' [0, 3, 17] (t' := [(0, .sl 34 (List.map Rule.av l) f_l), (3, .ptr 0 0 none), (17, .tup [.sc (.int .i64 ((rule_Find l h1).1)), .sc (.bool ((rule_Find l h1).2))])]) (h' := [.box 25 [.arr .u64 12 h1]]) (LSpec.callP' (rule_Find_calls l h1 f_l) (by kernel_rfl)) (by kernel_rfl) rfl (by kernel_rfl) rfl ?_
    refine DK.seg hG 5 [0, 3, 5, 6] (t' := [(0, .sl 34 (List.map Rule.av l) f_l), (3, .ptr 0 0 none), (5, .sc (.int .i64 ((rule_Find l h1).1))), (6, .sc (.bool ((rule_Find l h1).2)))]) (h' := [.box 25 [.arr .u64 12 h1]]) (by kernel_rfl) rfl ?_
    refine DK.done (by kernel_rfl) (by kernel_rfl) ?_
    refine AR.seg hG hm 1 [0, 3, 5, 6] (k' := [.code [1, 1, 1, 0], .code [1, 1, 1, 1]]) (t' := [(0, .sl 34 (List.map Rule.av l) f_l), (3, .ptr 0 0 none), (5, .sc (.int .i64 ((rule_Find l h1).1))), (6, .sc (.bool ((rule_Find l h1).2)))]) (h' := [.box 25 [.arr .u64 12 h1]]) (by kernel_rfl) ?_
    refine AR.reg hm podestalaw05_RuleFinds_k2 (by kernel_rfl) ?_
    refine DK.seg hG 2 [0, 3, 5, 6, 21, 22] (t' := [(0, .sl 34 (List.map Rule.av l) f_l), (3, .ptr 0 0 none), (5, .sc (.int .i64 ((rule_Find l h1).1))), (6, .sc (.bool ((rule_Find l h1).2))), (21, .sl 34 (List.map Rule.av l) f_l), (22, .arr .u64 12 h1)]) (h' := [.box 25 [.arr .u64 12 h1]]) (by kernel_rfl) rfl ?_
    refine DK.op' [0, 3, 5, 6, 23] (t' := [(0, .sl 34 (List.map Rule.av l) f_l), (3, .ptr 0 0 none), (5, .sc (.int .i64 ((rule_Find l h1).1))), (6, .sc (.bool ((rule_Find l h1).2))), (23, .tup [.sc (.int .i64 ((podestaref04_Find l h1).1)), .sc (.bool ((podestaref04_Find l h1).2))])]) (h' := [.box 25 [.arr .u64 12 h1]]) (LSpec.callP' (podestaref04_Find_calls l h1 f_l) (by kernel_rfl)) (by kernel_rfl) rfl (by kernel_rfl) rfl ?_
    refine DK.seg hG 5 [0, 3, 5, 6, 7, 8] (t' := [(0, .sl 34 (List.map Rule.av l) f_l), (3, .ptr 0 0 none), (5, .sc (.int .i64 ((rule_Find l h1).1))), (6, .sc (.bool ((rule_Find l h1).2))), (7, .sc (.int .i64 ((podestaref04_Find l h1).1))), (8, .sc (.bool ((podestaref04_Find l h1).2)))]) (h' := [.box 25 [.arr .u64 12 h1]]) (by kernel_rfl) rfl ?_
    refine DK.done (by kernel_rfl) (by kernel_rfl) ?_
    refine AR.seg hG hm 2 [0, 3, 5, 6, 7, 8] (k' := [.code [1, 1, 1, 1, 0, 0], .code [1, 1, 1, 1, 0, 1], .code [1, 1, 1, 1, 1]]) (t' := [(0, .sl 34 (List.map Rule.av l) f_l), (3, .ptr 0 0 none), (5, .sc (.int .i64 ((rule_Find l h1).1))), (6, .sc (.bool ((rule_Find l h1).2))), (7, .sc (.int .i64 ((podestaref04_Find l h1).1))), (8, .sc (.bool ((podestaref04_Find l h1).2)))]) (h' := [.box 25 [.arr .u64 12 h1]]) (by kernel_rfl) ?_
    refine AR.reg hm podestalaw05_RuleFinds_k3 (by kernel_rfl) ?_
    refine DK.op' [0, 3, 5, 6, 7, 8, 26] (t' := [(0, .sl 34 (List.map Rule.av l) f_l), (3, .ptr 0 0 none), (5, .sc (.int .i64 ((rule_Find l h1).1))), (6, .sc (.bool ((rule_Find l h1).2))), (7, .sc (.int .i64 ((podestaref04_Find l h1).1))), (8, .sc (.bool ((podestaref04_Find l h1).2))), (26, .sc (.bool true))]) (h' := [.box 25 [.arr .u64 12 h1]]) (LSpec.callP' (podestalaw05_answers_ok) (by kernel_rfl)) (by kernel_rfl) rfl (by kernel_rfl) rfl ?_
    refine DK.seg hG 7 [0, 3, 5, 6, 8, 33] (t' := [(0, .sl 34 (List.map Rule.av l) f_l), (3, .ptr 0 0 none), (5, .sc (.int .i64 ((rule_Find l h1).1))), (6, .sc (.bool ((rule_Find l h1).2))), (8, .sc (.bool ((podestaref04_Find l h1).2))), (33, .sc (.bool ((rule_Find l h1).1 != (podestaref04_Find l h1).1)))]) (h' := [.box 25 [.arr .u64 12 h1]]) (by kernel_rfl) rfl ?_
    refine DK.mux 33 ((rule_Find l h1).1 != (podestaref04_Find l h1).1) (j := 12) (h' := [.box 25 [.arr .u64 12 h1]]) (by kernel_rfl) (fun z => [(0, .sl 34 (List.map Rule.av l) f_l), (3, .ptr 0 0 none), (5, .sc (.int .i64 ((rule_Find l h1).1))), (6, .sc (.bool ((rule_Find l h1).2))), (37, .sc (.bool (z || ((rule_Find l h1).2 != (podestaref04_Find l h1).2))))]) ?J2 (fun hb J => ?ht2) (fun hb J => ?hf2)
    case ht2 =>
      exact DK.seg hG 4 [0, 3, 5, 6, 37] (by kernel_rfl) rfl J
    case hf2 =>
      exact DK.seg hG 4 [0, 3, 5, 6, 37] (by kernel_rfl) rfl J
    refine DK.done (by kernel_rfl) (by kernel_rfl) ?_
    refine AR.cond (.tmp 37) (((rule_Find l h1).1 != (podestaref04_Find l h1).1) || ((rule_Find l h1).2 != (podestaref04_Find l h1).2)) (by kernel_rfl) (by kernel_rfl) (fun hb => ?ht3) (fun hb => ?hf3)
    case ht3 =>
      replace H := cond_t hb H
      refine AR.seg hG hm 2 [4] (k' := [.code [1, 1, 1, 1, 0, 1, 0, 1], .code [1, 1, 1, 1, 1]]) (t' := [(4, .sc (.bool false))]) (h' := [.box 25 [.arr .u64 12 h1]]) (by kernel_rfl) ?_
      obtain rfl := Option.some.inj H
      exact AR.ret0 (fn := Try.f3) hG Try.func3 (by kernel_rfl) hc0 (r0 := .sc (.bool false)) (by kernel_rfl) (WkV.refl _)
    case hf3 =>
      replace H := cond_f hb H
      refine AR.seg hG hm 5 [0, 3, 5, 6, 9] (k' := [.code [1, 1, 1, 1, 1, 0, 1, 0], .blk 0, .code [1, 1, 1, 1, 1, 1]]) (t' := [(0, .sl 34 (List.map Rule.av l) f_l), (3, .ptr 0 0 none), (5, .sc (.int .i64 ((rule_Find l h1).1))), (6, .sc (.bool ((rule_Find l h1).2))), (9, .sc (.int .i64 0))]) (h' := [.box 25 [.arr .u64 12 h1]]) (by kernel_rfl) ?_
      rcases loopO_some H with ⟨v, hv, H⟩ | hv
      case inr =>
        refine AR.into (by kernel_rfl) ?_
        exact podestalaw05_RuleFinds_l0_walk q0 l h1 ((rule_Find l h1).1) ((rule_Find l h1).2) f_l r c0 hc0 (.inr r) (fun _ e => by cases e) (fun _ e => (Sum.inr.inj e).symm) q0 0 hv
      refine AR.into (by kernel_rfl) ?_
      refine podestalaw05_RuleFinds_l0_walk q0 l h1 ((rule_Find l h1).1) ((rule_Find l h1).2) f_l r c0 hc0 (.inl v) (fun w e => ?_) (fun _ e => by cases e) q0 0 hv
      have e := Sum.inl.inj e
      subst e
      refine AR.seg hG hm 2 [4] (k' := [.code [1, 1, 1, 1, 1, 1, 1]]) (t' := [(4, .sc (.bool true))]) (h' := [.box 25 [.arr .u64 12 h1]]) (by kernel_rfl) ?_
      obtain rfl := Option.some.inj H
      exact AR.ret0 (fn := Try.f3) hG Try.func3 (by kernel_rfl) hc0 (r0 := .sc (.bool true)) (by kernel_rfl) (WkV.refl _)

theorem refFind_l0s_eq (h : List Int) (wh : arrW .u64 12 h) : ∀ (l : List Rule) (i : Nat), (∀ y ∈ l, Rule.wf y) → podestaref04_Find_l0s h l i = match l.findIdx? (fun y => cube_Has y.Match h) with | some k => .inr (((i + k : Nat) : Int), true) | none => .inl ()
  | [], i, _ => rfl
  | x :: l, i, w => by
      rw [podestaref04_Find_l0s, List.findIdx?_cons, refFind_l0s_eq h wh l (i + 1) (fun y hy => w y (by simp [hy])), ← cube_Has_eq (w x (by simp)).1 wh]
      cases cube_Has x.Match h
      · simp only [cond_false, Bool.false_eq_true, if_false]
        cases l.findIdx? (fun y => cube_Has y.Match h) with
        | none => rfl
        | some k => simp only [Option.map_some]; rw [show i + 1 + k = i + (k + 1) by omega]
      · rfl
theorem Finds_eq (l : List Rule) (h : List Int) (wh : arrW .u64 12 h) (w : ∀ y ∈ l, Rule.wf y) : rule_Find l h = podestaref04_Find l h := by
  rw [rule_Find, podestaref04_Find, refFind_l0s_eq h wh l 0 w, slices_IndexFunc__api_Rule_idx]
  unfold idxF
  have e : (fun y0 => rule_Find_1 y0 h) = (fun y => cube_Has y.Match h) := rfl
  rw [e]
  cases l.findIdx? (fun y => cube_Has y.Match h) with
  | none => rfl
  | some k =>
    simp only [Nat.zero_add]
    rw [if_neg (by omega), decide_eq_true (by omega)]
    rfl
theorem Finds_l0_eq (l : List Rule) (h : List Int) (wh : arrW .u64 12 h) (w : ∀ y ∈ l, Rule.wf y) (hl : l.length ≤ 1000) : ∀ (m i : Nat), i ≤ l.length → l.length - i < m → podestalaw05_RuleFinds_l0 l h (rule_Find l h).1 (rule_Find l h).2 m (i : Int) = some (.inl ())
  | 0, i, _, hm => absurd hm (by omega)
  | m + 1, i, hi, hm => by
      rw [podestalaw05_RuleFinds_l0, List.length_map]
      cases hc : ((decide (((i : Nat) : Int) < ((l.length : Nat) : Int))) && (rule_Find l h).2) && (decide (((i : Nat) : Int) < (rule_Find l h).1))
      · rfl
      · rw [Bool.and_eq_true, Bool.and_eq_true, decide_eq_true_eq, decide_eq_true_eq] at hc
        obtain ⟨⟨h1, h2⟩, h3⟩ := hc
        have hlt : i < l.length := by omega
        rw [cond_true, ixO_lt hlt, Option.bind_some]
        have hno : refHasP l[i].Match h = false := by
          rw [← cube_Has_eq (w _ (List.getElem_mem hlt)).1 wh]
          rw [rule_Find, slices_IndexFunc__api_Rule_idx] at h3
          unfold idxF at h3
          have e : (fun y0 => rule_Find_1 y0 h) = (fun y => cube_Has y.Match h) := rfl
          rw [e] at h3
          cases hf : l.findIdx? (fun y => cube_Has y.Match h) with
          | none => rw [hf] at h3; simp at h3; omega
          | some k =>
            rw [hf] at h3
            obtain ⟨_, _, hb⟩ := List.findIdx?_eq_some_iff_getElem.1 hf
            have : i < k := by
              simp only at h3
              rw [if_neg (by omega)] at h3
              omega
            simpa using hb i this
        rw [hno, cond_false, wrap_succ (by omega)]
        exact Finds_l0_eq l h wh w hl m (i + 1) (by omega) (by omega)
theorem RuleFinds_true (l : List Rule) (h : List Int) (w : ∀ y ∈ l, Rule.wf y) (wh : arrW .u64 12 h) (_ : l.length * 272 ≤ 140737488355328) : ∃ q, podestalaw05_RuleFinds_raw q l h = some true := by
  refine ⟨l.length + 1, ?_⟩
  rw [podestalaw05_RuleFinds_raw, List.length_map]
  by_cases hl : l.length > 60
  · rw [decide_eq_true (show ((l.length : Nat) : Int) > 60 by omega)]; rfl
  have e := Finds_l0_eq l h wh w (by omega) (l.length + 1) 0 (Nat.zero_le _) (by omega)
  rw [show ((0 : Nat) : Int) = 0 from rfl] at e
  rw [decide_eq_false (by omega), cond_false, ← Finds_eq l h wh w, e]
  simp only [bne_self_eq_false, Bool.or_self, cond_false]
  rfl

end Go.Proofs.Ytadolbhmdimbkaa
