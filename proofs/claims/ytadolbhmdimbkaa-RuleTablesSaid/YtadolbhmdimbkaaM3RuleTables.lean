import Derived.Test.YtadolbhmdimbkaaM2RuleTables
set_option linter.unusedVariables false
set_option linter.unusedSimpArgs false
set_option maxRecDepth 100000
set_option maxHeartbeats 4000000
namespace Go.Proofs.Ytadolbhmdimbkaa
open Go.Sh
/-! ### rule.Sort: function 24 -/
noncomputable def rule_Sort_F : Go.Sh.Fn := ⟨24, bodyOf Try.f24, 38⟩
def rule_Sort_k3 : List Kd := [.pure, .pure, .read, .pure, .read, .loud]
def rule_Sort_k4 : List Kd := [.pure, .pure, .read, .pure, .pure, .loud, .pure]
def rule_Sort_k2 : List Kd := [.pure, .read, .read, .pure, .pure, .pure, .pure, .pure]
def rule_Sort_k1 : List Kd := [.read, .pure, .pure]
def rule_Sort_k0 : List Kd := [.pure, .pure, .loud, .loud]
def rule_Sort_k5 : List Kd := [.pure, .loud, .pure]
def rule_Sort_l0s : List Rule → List Rule → Option ((List Rule))
  | [], out =>
    some out
  | x :: rest, out =>
    (bif (!(rule_Sound x)) then
      rule_Sort_l0s rest out
    else
      (bif (bsR out x rule_compare).2 then
        (ixO out ((bsR out x rule_compare).1)).bind fun x1 =>
        rule_Sort_l0s rest (out.set (((bsR out x rule_compare).1).toNat) (rule_copied x))
      else
        fitO (out.length + [(rule_copied x)].length) 272 (
        (insO out ((bsR out x rule_compare).1) (rule_copied x)).bind fun rows =>
        rule_Sort_l0s rest rows)))
theorem rule_Sort_l0_walk (list : List Rule) (f_list : Bool) (r : (List Rule)) (c0 : Ctx) (hc0 : c0.m.length = 0) (res : (List Rule)) (J : AR Try.prog tab rule_Sort_F c0 (Rp tab.S c0 (.sl 34 (List.map Rule.av r) true) []) [.code [1, 1, 1]] [(3, .own 0 1000000)] [.row 34 (List.map Rule.av res) 1000000 true]) :
    ∀ (rest : List Rule) (t10 : Nat) (hd : list.drop t10 = rest) (out : List Rule) (H : rule_Sort_l0s rest out = some res), AR Try.prog tab rule_Sort_F c0 (Rp tab.S c0 (.sl 34 (List.map Rule.av r) true) []) [.code [1, 1, 0, 1, 0, 0], .loop [1, 1, 0, 1, 0], .blk 0, .code [1, 1, 1]] [(3, .own 0 1000000), (8, .sl 34 (List.map Rule.av list) f_list), (9, .sc (.int .i64 (((List.map Rule.av list).length : Nat) : Int))), (10, .sc (.int .i64 ((t10 : Nat) : Int)))] [.row 34 (List.map Rule.av out) 1000000 true] := by
  have hG := tab_ok
  have hm := mixed
  intro rest
  induction rest with
  | nil =>
    intro t10 hd out H
    rw [rule_Sort_l0s] at H
    refine AR.facts 8 rfl fun hf => ?_
    have hlen : list.length ≤ 9223372036854775807 := by have hq := len_ok hf.2.1; rw [List.length_map] at hq; exact hq
    have hge : list.length ≤ t10 := List.drop_eq_nil_iff.1 hd
    have hc : (decide (((t10 : Nat) : Int) < (((List.map Rule.av list).length : Nat) : Int))) = false := by rw [List.length_map]; exact decide_eq_false (by omega)
    refine AR.seg hG hm 3 [3, 8, 9, 10, 11] (k' := [.code [1, 1, 0, 1, 0, 0, 1, 0], .code [1, 1, 0, 1, 0, 0, 1, 1], .loop [1, 1, 0, 1, 0], .blk 0, .code [1, 1, 1]]) (t' := [(3, .own 0 1000000), (8, .sl 34 (List.map Rule.av list) f_list), (9, .sc (.int .i64 (((List.map Rule.av list).length : Nat) : Int))), (10, .sc (.int .i64 ((t10 : Nat) : Int))), (11, .sc (.bool (decide (((t10 : Nat) : Int) < (((List.map Rule.av list).length : Nat) : Int)))))]) (h' := [.row 34 (List.map Rule.av out) 1000000 true]) (by kernel_rfl) ?_
    refine AR.cond (.tmp 11) (decide (((t10 : Nat) : Int) < (((List.map Rule.av list).length : Nat) : Int))) (by kernel_rfl) (by kernel_rfl) (fun hb => ?ht13) (fun hb => ?hf13)
    case ht13 => exact absurd (hb.symm.trans hc) (by decide)
    case hf13 =>
      refine AR.seg hG hm 1 [3] (k' := [.code [1, 1, 1]]) (t' := [(3, .own 0 1000000)]) (h' := [.row 34 (List.map Rule.av out) 1000000 true]) (by kernel_rfl) ?_
      refine AR.keep [3] (t' := [(3, .own 0 1000000)]) (by kernel_rfl) ?_
      obtain rfl := Option.some.inj H
      exact J
  | cons x rest ih =>
    intro t10 hd out H
    rw [rule_Sort_l0s] at H
    refine AR.facts 8 rfl fun hf => ?_
    have hlen : list.length ≤ 9223372036854775807 := by have hq := len_ok hf.2.1; rw [List.length_map] at hq; exact hq
    obtain ⟨hlt, hv_t10, hd2⟩ := drop_cons hd
    have hc : (decide (((t10 : Nat) : Int) < (((List.map Rule.av list).length : Nat) : Int))) = true := by rw [List.length_map]; exact decide_eq_true (by omega)
    have hw : IntKind.i64.wrap (((t10 : Nat) : Int) + 1) = ((t10 + 1 : Nat) : Int) := wrapI_succ (by omega)
    refine AR.seg hG hm 3 [3, 8, 9, 10, 11] (k' := [.code [1, 1, 0, 1, 0, 0, 1, 0], .code [1, 1, 0, 1, 0, 0, 1, 1], .loop [1, 1, 0, 1, 0], .blk 0, .code [1, 1, 1]]) (t' := [(3, .own 0 1000000), (8, .sl 34 (List.map Rule.av list) f_list), (9, .sc (.int .i64 (((List.map Rule.av list).length : Nat) : Int))), (10, .sc (.int .i64 ((t10 : Nat) : Int))), (11, .sc (.bool (decide (((t10 : Nat) : Int) < (((List.map Rule.av list).length : Nat) : Int)))))]) (h' := [.row 34 (List.map Rule.av out) 1000000 true]) (by kernel_rfl) ?_
    refine AR.cond (.tmp 11) (decide (((t10 : Nat) : Int) < (((List.map Rule.av list).length : Nat) : Int))) (by kernel_rfl) (by kernel_rfl) (fun hb => ?ht14) (fun hb => ?hf14)
    case ht14 =>
      refine AR.seg hG hm 4 [3, 8, 9, 10] (k' := [.code [1, 1, 0, 1, 0, 0, 1, 1, 0, 0, 0], .code [1, 1, 0, 1, 0, 0, 1, 1, 0, 0, 1], .blk 1, .code [1, 1, 0, 1, 0, 0, 1, 1, 1], .loop [1, 1, 0, 1, 0], .blk 0, .code [1, 1, 1]]) (t' := [(3, .own 0 1000000), (8, .sl 34 (List.map Rule.av list) f_list), (9, .sc (.int .i64 (((List.map Rule.av list).length : Nat) : Int))), (10, .sc (.int .i64 ((t10 : Nat) : Int)))]) (h' := [.row 34 (List.map Rule.av out) 1000000 true]) (by kernel_rfl) ?_
      refine AR.reg hm rule_Sort_k0 (by kernel_rfl) ?_
      refine DK.op' [3, 8, 9, 10, 12] (t' := [(3, .own 0 1000000), (8, .sl 34 (List.map Rule.av list) f_list), (9, .sc (.int .i64 (((List.map Rule.av list).length : Nat) : Int))), (10, .sc (.int .i64 ((t10 : Nat) : Int))), (12, .ep [.arr .u64 12 x.Match.Value, .arr .u64 12 x.Match.Care, .sc (.int .i64 x.Prio), .sl 42 (List.map Act.av x.Acts) false, .sc (.int .i64 x.Idle), .sc (.int .i64 x.Hard), .sc (.int .i64 x.Owner), .sc (.int .i64 x.Hits), .sc (.int .i64 x.Quiet), .sc (.int .i64 x.Age)] 0 none)]) (h' := [.row 34 (List.map Rule.av out) 1000000 true]) (LSpec.index' (r := Rule.av x) (fs := [.arr .u64 12 x.Match.Value, .arr .u64 12 x.Match.Care, .sc (.int .i64 x.Prio), .sl 42 (List.map Act.av x.Acts) false, .sc (.int .i64 x.Idle), .sc (.int .i64 x.Hard), .sc (.int .i64 x.Owner), .sc (.int .i64 x.Hits), .sc (.int .i64 x.Quiet), .sc (.int .i64 x.Age)]) hG (rows := List.map Rule.av list) (j := ((t10 : Nat) : Int)) (by kernel_rfl) (ixO_map hv_t10 _) (by kernel_rfl)) (by kernel_rfl) rfl (by kernel_rfl) rfl ?_
      refine DK.seg hG 3 [3, 5, 8, 9, 10] (t' := [(3, .own 0 1000000), (5, .ptr 1 0 none), (8, .sl 34 (List.map Rule.av list) f_list), (9, .sc (.int .i64 (((List.map Rule.av list).length : Nat) : Int))), (10, .sc (.int .i64 ((t10 : Nat) : Int)))]) (h' := [.row 34 (List.map Rule.av out) 1000000 true, .box 34 [.arr .u64 12 x.Match.Value, .arr .u64 12 x.Match.Care, .sc (.int .i64 x.Prio), .sl 42 (List.map Act.av x.Acts) false, .sc (.int .i64 x.Idle), .sc (.int .i64 x.Hard), .sc (.int .i64 x.Owner), .sc (.int .i64 x.Hits), .sc (.int .i64 x.Quiet), .sc (.int .i64 x.Age)]]) (by kernel_rfl) rfl ?_
      refine DK.done (by kernel_rfl) (by kernel_rfl) ?_
      refine AR.seg hG hm 2 [3, 5, 8, 9, 10] (k' := [.code [1, 1, 0, 1, 0, 0, 1, 1, 0, 0, 1, 0, 0], .code [1, 1, 0, 1, 0, 0, 1, 1, 0, 0, 1, 0, 1], .code [1, 1, 0, 1, 0, 0, 1, 1, 0, 0, 1, 1], .blk 1, .code [1, 1, 0, 1, 0, 0, 1, 1, 1], .loop [1, 1, 0, 1, 0], .blk 0, .code [1, 1, 1]]) (t' := [(3, .own 0 1000000), (5, .ptr 1 0 none), (8, .sl 34 (List.map Rule.av list) f_list), (9, .sc (.int .i64 (((List.map Rule.av list).length : Nat) : Int))), (10, .sc (.int .i64 ((t10 : Nat) : Int)))]) (h' := [.row 34 (List.map Rule.av out) 1000000 true, .box 34 [.arr .u64 12 x.Match.Value, .arr .u64 12 x.Match.Care, .sc (.int .i64 x.Prio), .sl 42 (List.map Act.av x.Acts) false, .sc (.int .i64 x.Idle), .sc (.int .i64 x.Hard), .sc (.int .i64 x.Owner), .sc (.int .i64 x.Hits), .sc (.int .i64 x.Quiet), .sc (.int .i64 x.Age)]]) (by kernel_rfl) ?_
      refine AR.reg hm rule_Sort_k1 (by kernel_rfl) ?_
      refine DK.seg hG 1 [3, 5, 8, 9, 10, 14] (t' := [(3, .own 0 1000000), (5, .ptr 1 0 none), (8, .sl 34 (List.map Rule.av list) f_list), (9, .sc (.int .i64 (((List.map Rule.av list).length : Nat) : Int))), (10, .sc (.int .i64 ((t10 : Nat) : Int))), (14, Rule.av x)]) (h' := [.row 34 (List.map Rule.av out) 1000000 true, .box 34 [.arr .u64 12 x.Match.Value, .arr .u64 12 x.Match.Care, .sc (.int .i64 x.Prio), .sl 42 (List.map Act.av x.Acts) false, .sc (.int .i64 x.Idle), .sc (.int .i64 x.Hard), .sc (.int .i64 x.Owner), .sc (.int .i64 x.Hits), .sc (.int .i64 x.Quiet), .sc (.int .i64 x.Age)]]) (by kernel_rfl) rfl ?_
      refine DK.op' [3, 5, 8, 9, 10, 15] (t' := [(3, .own 0 1000000), (5, .ptr 1 0 none), (8, .sl 34 (List.map Rule.av list) f_list), (9, .sc (.int .i64 (((List.map Rule.av list).length : Nat) : Int))), (10, .sc (.int .i64 ((t10 : Nat) : Int))), (15, .sc (.bool (rule_Sound x)))]) (h' := [.row 34 (List.map Rule.av out) 1000000 true, .box 34 [.arr .u64 12 x.Match.Value, .arr .u64 12 x.Match.Care, .sc (.int .i64 x.Prio), .sl 42 (List.map Act.av x.Acts) false, .sc (.int .i64 x.Idle), .sc (.int .i64 x.Hard), .sc (.int .i64 x.Owner), .sc (.int .i64 x.Hits), .sc (.int .i64 x.Quiet), .sc (.int .i64 x.Age)]]) (LSpec.callP' (rule_Sound_calls x) (by kernel_rfl)) (by kernel_rfl) rfl (by kernel_rfl) rfl ?_
      refine DK.seg hG 1 [3, 5, 8, 9, 10, 16] (t' := [(3, .own 0 1000000), (5, .ptr 1 0 none), (8, .sl 34 (List.map Rule.av list) f_list), (9, .sc (.int .i64 (((List.map Rule.av list).length : Nat) : Int))), (10, .sc (.int .i64 ((t10 : Nat) : Int))), (16, .sc (.bool (!(rule_Sound x))))]) (h' := [.row 34 (List.map Rule.av out) 1000000 true, .box 34 [.arr .u64 12 x.Match.Value, .arr .u64 12 x.Match.Care, .sc (.int .i64 x.Prio), .sl 42 (List.map Act.av x.Acts) false, .sc (.int .i64 x.Idle), .sc (.int .i64 x.Hard), .sc (.int .i64 x.Owner), .sc (.int .i64 x.Hits), .sc (.int .i64 x.Quiet), .sc (.int .i64 x.Age)]]) (by kernel_rfl) rfl ?_
      refine DK.done (by kernel_rfl) (by kernel_rfl) ?_
      refine AR.cond (.tmp 16) (!(rule_Sound x)) (by kernel_rfl) (by kernel_rfl) (fun hb => ?ht15) (fun hb => ?hf15)
      case ht15 =>
        replace H := cond_t hb H
        refine AR.seg hG hm 2 [3, 8, 9, 10] (k' := [.loop [1, 1, 0, 1, 0], .blk 0, .code [1, 1, 1]]) (t' := [(3, .own 0 1000000), (8, .sl 34 (List.map Rule.av list) f_list), (9, .sc (.int .i64 (((List.map Rule.av list).length : Nat) : Int))), (10, .sc (.int .i64 (IntKind.i64.wrap (((t10 : Nat) : Int) + 1))))]) (h' := [.row 34 (List.map Rule.av out) 1000000 true, .box 34 [.arr .u64 12 x.Match.Value, .arr .u64 12 x.Match.Care, .sc (.int .i64 x.Prio), .sl 42 (List.map Act.av x.Acts) false, .sc (.int .i64 x.Idle), .sc (.int .i64 x.Hard), .sc (.int .i64 x.Owner), .sc (.int .i64 x.Hits), .sc (.int .i64 x.Quiet), .sc (.int .i64 x.Age)]]) (by kernel_rfl) ?_
        refine AR.keep [3, 8, 9, 10] (t' := [(3, .own 0 1000000), (8, .sl 34 (List.map Rule.av list) f_list), (9, .sc (.int .i64 (((List.map Rule.av list).length : Nat) : Int))), (10, .sc (.int .i64 (IntKind.i64.wrap (((t10 : Nat) : Int) + 1))))]) (by kernel_rfl) ?_
        refine AR.drop' 1 hc0 (t' := [(3, .own 0 1000000), (8, .sl 34 (List.map Rule.av list) f_list), (9, .sc (.int .i64 (((List.map Rule.av list).length : Nat) : Int))), (10, .sc (.int .i64 (IntKind.i64.wrap (((t10 : Nat) : Int) + 1))))]) (h' := [.row 34 (List.map Rule.av out) 1000000 true]) (by kernel_rfl) ?_
        refine AR.loop_round ?_
        rw [hw]
        exact ih (t10 + 1) hd2 out H
      case hf15 =>
        replace H := cond_f hb H
        refine AR.seg hG hm 2 [3, 5, 8, 9, 10] (k' := [.code [1, 1, 0, 1, 0, 0, 1, 1, 0, 0, 1, 1, 0], .code [1, 1, 0, 1, 0, 0, 1, 1, 0, 0, 1, 1, 1], .blk 1, .code [1, 1, 0, 1, 0, 0, 1, 1, 1], .loop [1, 1, 0, 1, 0], .blk 0, .code [1, 1, 1]]) (t' := [(3, .own 0 1000000), (5, .ptr 1 0 none), (8, .sl 34 (List.map Rule.av list) f_list), (9, .sc (.int .i64 (((List.map Rule.av list).length : Nat) : Int))), (10, .sc (.int .i64 ((t10 : Nat) : Int)))]) (h' := [.row 34 (List.map Rule.av out) 1000000 true, .box 34 [.arr .u64 12 x.Match.Value, .arr .u64 12 x.Match.Care, .sc (.int .i64 x.Prio), .sl 42 (List.map Act.av x.Acts) false, .sc (.int .i64 x.Idle), .sc (.int .i64 x.Hard), .sc (.int .i64 x.Owner), .sc (.int .i64 x.Hits), .sc (.int .i64 x.Quiet), .sc (.int .i64 x.Age)]]) (by kernel_rfl) ?_
        refine AR.reg hm rule_Sort_k2 (by kernel_rfl) ?_
        refine DK.seg hG 2 [3, 5, 8, 9, 10, 18, 19] (t' := [(3, .own 0 1000000), (5, .ptr 1 0 none), (8, .sl 34 (List.map Rule.av list) f_list), (9, .sc (.int .i64 (((List.map Rule.av list).length : Nat) : Int))), (10, .sc (.int .i64 ((t10 : Nat) : Int))), (18, .own 0 1000000), (19, Rule.av x)]) (h' := [.row 34 (List.map Rule.av out) 1000000 true, .box 34 [.arr .u64 12 x.Match.Value, .arr .u64 12 x.Match.Care, .sc (.int .i64 x.Prio), .sl 42 (List.map Act.av x.Acts) false, .sc (.int .i64 x.Idle), .sc (.int .i64 x.Hard), .sc (.int .i64 x.Owner), .sc (.int .i64 x.Hits), .sc (.int .i64 x.Quiet), .sc (.int .i64 x.Age)]]) (by kernel_rfl) rfl ?_
        refine DK.op' [3, 5, 8, 9, 10, 20] (t' := [(3, .own 0 1000000), (5, .ptr 1 0 none), (8, .sl 34 (List.map Rule.av list) f_list), (9, .sc (.int .i64 (((List.map Rule.av list).length : Nat) : Int))), (10, .sc (.int .i64 ((t10 : Nat) : Int))), (20, .tup [.sc (.int .i64 ((bsR out x rule_compare).1)), .sc (.bool ((bsR out x rule_compare).2))])]) (h' := [.row 34 (List.map Rule.av out) 1000000 true, .box 34 [.arr .u64 12 x.Match.Value, .arr .u64 12 x.Match.Care, .sc (.int .i64 x.Prio), .sl 42 (List.map Act.av x.Acts) false, .sc (.int .i64 x.Idle), .sc (.int .i64 x.Hard), .sc (.int .i64 x.Owner), .sc (.int .i64 x.Hits), .sc (.int .i64 x.Quiet), .sc (.int .i64 x.Age)]]) (LSpec.callF' (caps := []) (slices_BinarySearchFunc__api_Rule_ok out x 35 [] rule_compare rfl rfl (fun y0 y1 => rule_compare_calls y0 y1) false) (by kernel_rfl) (.same rfl (.same rfl (.fn (caps := []) (by kernel_rfl) .nil))) (by kernel_rfl) rfl rfl) (by kernel_rfl) rfl (by kernel_rfl) rfl ?_
        refine DK.seg hG 5 [3, 5, 6, 7, 8, 9, 10] (t' := [(3, .own 0 1000000), (5, .ptr 1 0 none), (6, .sc (.int .i64 ((bsR out x rule_compare).1))), (7, .sc (.bool ((bsR out x rule_compare).2))), (8, .sl 34 (List.map Rule.av list) f_list), (9, .sc (.int .i64 (((List.map Rule.av list).length : Nat) : Int))), (10, .sc (.int .i64 ((t10 : Nat) : Int)))]) (h' := [.row 34 (List.map Rule.av out) 1000000 true, .box 34 [.arr .u64 12 x.Match.Value, .arr .u64 12 x.Match.Care, .sc (.int .i64 x.Prio), .sl 42 (List.map Act.av x.Acts) false, .sc (.int .i64 x.Idle), .sc (.int .i64 x.Hard), .sc (.int .i64 x.Owner), .sc (.int .i64 x.Hits), .sc (.int .i64 x.Quiet), .sc (.int .i64 x.Age)]]) (by kernel_rfl) rfl ?_
        refine DK.done (by kernel_rfl) (by kernel_rfl) ?_
        refine AR.seg hG hm 2 [3, 5, 6, 8, 9, 10, 23] (k' := [.code [1, 1, 0, 1, 0, 0, 1, 1, 0, 0, 1, 1, 1, 1], .blk 1, .code [1, 1, 0, 1, 0, 0, 1, 1, 1], .loop [1, 1, 0, 1, 0], .blk 0, .code [1, 1, 1]]) (t' := [(3, .own 0 1000000), (5, .ptr 1 0 none), (6, .sc (.int .i64 ((bsR out x rule_compare).1))), (8, .sl 34 (List.map Rule.av list) f_list), (9, .sc (.int .i64 (((List.map Rule.av list).length : Nat) : Int))), (10, .sc (.int .i64 ((t10 : Nat) : Int))), (23, .sc (.bool ((bsR out x rule_compare).2)))]) (h' := [.row 34 (List.map Rule.av out) 1000000 true, .box 34 [.arr .u64 12 x.Match.Value, .arr .u64 12 x.Match.Care, .sc (.int .i64 x.Prio), .sl 42 (List.map Act.av x.Acts) false, .sc (.int .i64 x.Idle), .sc (.int .i64 x.Hard), .sc (.int .i64 x.Owner), .sc (.int .i64 x.Hits), .sc (.int .i64 x.Quiet), .sc (.int .i64 x.Age)]]) (by kernel_rfl) ?_
        refine AR.cond (.tmp 23) ((bsR out x rule_compare).2) (by kernel_rfl) (by kernel_rfl) (fun hb => ?ht16) (fun hb => ?hf16)
        case ht16 =>
          replace H := cond_t hb H
          refine AR.reg hm rule_Sort_k3 (by kernel_rfl) ?_
          refine DK.seg hG 3 [3, 8, 9, 10, 24, 25, 26] (t' := [(3, .own 0 1000000), (8, .sl 34 (List.map Rule.av list) f_list), (9, .sc (.int .i64 (((List.map Rule.av list).length : Nat) : Int))), (10, .sc (.int .i64 ((t10 : Nat) : Int))), (24, .own 0 1000000), (25, .sc (.int .i64 ((bsR out x rule_compare).1))), (26, Rule.av x)]) (h' := [.row 34 (List.map Rule.av out) 1000000 true, .box 34 [.arr .u64 12 x.Match.Value, .arr .u64 12 x.Match.Care, .sc (.int .i64 x.Prio), .sl 42 (List.map Act.av x.Acts) false, .sc (.int .i64 x.Idle), .sc (.int .i64 x.Hard), .sc (.int .i64 x.Owner), .sc (.int .i64 x.Hits), .sc (.int .i64 x.Quiet), .sc (.int .i64 x.Age)]]) (by kernel_rfl) rfl ?_
          refine DK.op' [3, 8, 9, 10, 24, 25, 27] (t' := [(3, .own 0 1000000), (8, .sl 34 (List.map Rule.av list) f_list), (9, .sc (.int .i64 (((List.map Rule.av list).length : Nat) : Int))), (10, .sc (.int .i64 ((t10 : Nat) : Int))), (24, .own 0 1000000), (25, .sc (.int .i64 ((bsR out x rule_compare).1))), (27, Rule.av (rule_copied x))]) (h' := [.row 34 (List.map Rule.av out) 1000000 true, .box 34 [.arr .u64 12 x.Match.Value, .arr .u64 12 x.Match.Care, .sc (.int .i64 x.Prio), .sl 42 (List.map Act.av x.Acts) false, .sc (.int .i64 x.Idle), .sc (.int .i64 x.Hard), .sc (.int .i64 x.Owner), .sc (.int .i64 x.Hits), .sc (.int .i64 x.Quiet), .sc (.int .i64 x.Age)]]) (LSpec.callP' (rule_copied_calls x) (by kernel_rfl)) (by kernel_rfl) rfl (by kernel_rfl) rfl ?_
          obtain ⟨x1, hv_x1, H⟩ := Option.bind_eq_some_iff.1 H
          refine DK.op' [3, 8, 9, 10, 27, 28] (t' := [(3, .own 0 1000000), (8, .sl 34 (List.map Rule.av list) f_list), (9, .sc (.int .i64 (((List.map Rule.av list).length : Nat) : Int))), (10, .sc (.int .i64 ((t10 : Nat) : Int))), (27, Rule.av (rule_copied x)), (28, .el 34 0 1000000 (((bsR out x rule_compare).1).toNat) 0)]) (h' := [.row 34 (List.map Rule.av out) 1000000 true, .box 34 [.arr .u64 12 x.Match.Value, .arr .u64 12 x.Match.Care, .sc (.int .i64 x.Prio), .sl 42 (List.map Act.av x.Acts) false, .sc (.int .i64 x.Idle), .sc (.int .i64 x.Hard), .sc (.int .i64 x.Owner), .sc (.int .i64 x.Hits), .sc (.int .i64 x.Quiet), .sc (.int .i64 x.Age)]]) (LSpec.indexOwn hG (e := 34) (o := 0) (k := 1000000) (rows := List.map Rule.av out) (j := ((bsR out x rule_compare).1)) (ixO_req hv_x1 Rule.av) (by kernel_rfl)) (by kernel_rfl) rfl (by kernel_rfl) rfl ?_
          refine DK.op' [3, 8, 9, 10] (t' := [(3, .own 0 1000000), (8, .sl 34 (List.map Rule.av list) f_list), (9, .sc (.int .i64 (((List.map Rule.av list).length : Nat) : Int))), (10, .sc (.int .i64 ((t10 : Nat) : Int)))]) (h' := [.row 34 (List.map Rule.av (out.set (((bsR out x rule_compare).1).toNat) (rule_copied x))) 1000000 true, .box 34 [.arr .u64 12 x.Match.Value, .arr .u64 12 x.Match.Care, .sc (.int .i64 x.Prio), .sl 42 (List.map Act.av x.Acts) false, .sc (.int .i64 x.Idle), .sc (.int .i64 x.Hard), .sc (.int .i64 x.Owner), .sc (.int .i64 x.Hits), .sc (.int .i64 x.Quiet), .sc (.int .i64 x.Age)]]) (LSpec.storeEl' hG Rule.av out (rule_copied x) (ty := 34) (e := 34) (o := 0) (k := 1000000) (j := (((bsR out x rule_compare).1).toNat)) (off := 0) (a := Rule.av (rule_copied x)) (fs := [.arr .u64 12 x1.Match.Value, .arr .u64 12 x1.Match.Care, .sc (.int .i64 x1.Prio), .sl 42 (List.map Act.av x1.Acts) false, .sc (.int .i64 x1.Idle), .sc (.int .i64 x1.Hard), .sc (.int .i64 x1.Owner), .sc (.int .i64 x1.Hits), .sc (.int .i64 x1.Quiet), .sc (.int .i64 x1.Age)]) (fs' := [.arr .u64 12 (((rule_copied x).Match).Value), .arr .u64 12 (((rule_copied x).Match).Care), .sc (.int .i64 ((rule_copied x).Prio)), .sl 42 (List.map Act.av ((rule_copied x).Acts)) false, .sc (.int .i64 ((rule_copied x).Idle)), .sc (.int .i64 ((rule_copied x).Hard)), .sc (.int .i64 ((rule_copied x).Owner)), .sc (.int .i64 ((rule_copied x).Hits)), .sc (.int .i64 ((rule_copied x).Quiet)), .sc (.int .i64 ((rule_copied x).Age))]) (by kernel_rfl) (ixO_map hv_x1 Rule.av).2 (by kernel_rfl) (by kernel_rfl) (by kernel_rfl) (by kernel_rfl)) (by kernel_rfl) (by kernel_rfl) (by kernel_rfl) rfl ?_
          refine DK.done (by kernel_rfl) (by kernel_rfl) ?_
          refine AR.seg hG hm 2 [3, 8, 9, 10] (k' := [.loop [1, 1, 0, 1, 0], .blk 0, .code [1, 1, 1]]) (t' := [(3, .own 0 1000000), (8, .sl 34 (List.map Rule.av list) f_list), (9, .sc (.int .i64 (((List.map Rule.av list).length : Nat) : Int))), (10, .sc (.int .i64 (IntKind.i64.wrap (((t10 : Nat) : Int) + 1))))]) (h' := [.row 34 (List.map Rule.av (out.set (((bsR out x rule_compare).1).toNat) (rule_copied x))) 1000000 true, .box 34 [.arr .u64 12 x.Match.Value, .arr .u64 12 x.Match.Care, .sc (.int .i64 x.Prio), .sl 42 (List.map Act.av x.Acts) false, .sc (.int .i64 x.Idle), .sc (.int .i64 x.Hard), .sc (.int .i64 x.Owner), .sc (.int .i64 x.Hits), .sc (.int .i64 x.Quiet), .sc (.int .i64 x.Age)]]) (by kernel_rfl) ?_
          refine AR.keep [3, 8, 9, 10] (t' := [(3, .own 0 1000000), (8, .sl 34 (List.map Rule.av list) f_list), (9, .sc (.int .i64 (((List.map Rule.av list).length : Nat) : Int))), (10, .sc (.int .i64 (IntKind.i64.wrap (((t10 : Nat) : Int) + 1))))]) (by kernel_rfl) ?_
          refine AR.drop' 1 hc0 (t' := [(3, .own 0 1000000), (8, .sl 34 (List.map Rule.av list) f_list), (9, .sc (.int .i64 (((List.map Rule.av list).length : Nat) : Int))), (10, .sc (.int .i64 (IntKind.i64.wrap (((t10 : Nat) : Int) + 1))))]) (h' := [.row 34 (List.map Rule.av (out.set (((bsR out x rule_compare).1).toNat) (rule_copied x))) 1000000 true]) (by kernel_rfl) ?_
          refine AR.loop_round ?_
          rw [hw]
          exact ih (t10 + 1) hd2 (out.set (((bsR out x rule_compare).1).toNat) (rule_copied x)) H
        case hf16 =>
          replace H := cond_f hb H
          refine AR.reg hm rule_Sort_k4 (by kernel_rfl) ?_
          refine DK.seg hG 3 [8, 9, 10, 29, 30, 31] (t' := [(8, .sl 34 (List.map Rule.av list) f_list), (9, .sc (.int .i64 (((List.map Rule.av list).length : Nat) : Int))), (10, .sc (.int .i64 ((t10 : Nat) : Int))), (29, .own 0 1000000), (30, .sc (.int .i64 ((bsR out x rule_compare).1))), (31, Rule.av x)]) (h' := [.row 34 (List.map Rule.av out) 1000000 true, .box 34 [.arr .u64 12 x.Match.Value, .arr .u64 12 x.Match.Care, .sc (.int .i64 x.Prio), .sl 42 (List.map Act.av x.Acts) false, .sc (.int .i64 x.Idle), .sc (.int .i64 x.Hard), .sc (.int .i64 x.Owner), .sc (.int .i64 x.Hits), .sc (.int .i64 x.Quiet), .sc (.int .i64 x.Age)]]) (by kernel_rfl) rfl ?_
          refine DK.op' [8, 9, 10, 29, 30, 32] (t' := [(8, .sl 34 (List.map Rule.av list) f_list), (9, .sc (.int .i64 (((List.map Rule.av list).length : Nat) : Int))), (10, .sc (.int .i64 ((t10 : Nat) : Int))), (29, .own 0 1000000), (30, .sc (.int .i64 ((bsR out x rule_compare).1))), (32, Rule.av (rule_copied x))]) (h' := [.row 34 (List.map Rule.av out) 1000000 true, .box 34 [.arr .u64 12 x.Match.Value, .arr .u64 12 x.Match.Care, .sc (.int .i64 x.Prio), .sl 42 (List.map Act.av x.Acts) false, .sc (.int .i64 x.Idle), .sc (.int .i64 x.Hard), .sc (.int .i64 x.Owner), .sc (.int .i64 x.Hits), .sc (.int .i64 x.Quiet), .sc (.int .i64 x.Age)]]) (LSpec.callP' (rule_copied_calls x) (by kernel_rfl)) (by kernel_rfl) rfl (by kernel_rfl) rfl ?_
          refine DK.seg hG 1 [8, 9, 10, 29, 30, 33] (t' := [(8, .sl 34 (List.map Rule.av list) f_list), (9, .sc (.int .i64 (((List.map Rule.av list).length : Nat) : Int))), (10, .sc (.int .i64 ((t10 : Nat) : Int))), (29, .own 0 1000000), (30, .sc (.int .i64 ((bsR out x rule_compare).1))), (33, .sl 34 (List.map Rule.av [(rule_copied x)]) true)]) (h' := [.row 34 (List.map Rule.av out) 1000000 true, .box 34 [.arr .u64 12 x.Match.Value, .arr .u64 12 x.Match.Care, .sc (.int .i64 x.Prio), .sl 42 (List.map Act.av x.Acts) false, .sc (.int .i64 x.Idle), .sc (.int .i64 x.Hard), .sc (.int .i64 x.Owner), .sc (.int .i64 x.Hits), .sc (.int .i64 x.Quiet), .sc (.int .i64 x.Age)]]) (by kernel_rfl) rfl ?_
          obtain ⟨hfit, H⟩ := fitO_some H
          obtain ⟨rows, hv, H⟩ := Option.bind_eq_some_iff.1 H
          refine DK.op' [8, 9, 10, 34] (t' := [(8, .sl 34 (List.map Rule.av list) f_list), (9, .sc (.int .i64 (((List.map Rule.av list).length : Nat) : Int))), (10, .sc (.int .i64 ((t10 : Nat) : Int))), (34, .own 0 1000001)]) (h' := [.row 34 (List.map Rule.av rows) 1000001 true, .box 34 [.arr .u64 12 x.Match.Value, .arr .u64 12 x.Match.Care, .sc (.int .i64 x.Prio), .sl 42 (List.map Act.av x.Acts) false, .sc (.int .i64 x.Idle), .sc (.int .i64 x.Hard), .sc (.int .i64 x.Owner), .sc (.int .i64 x.Hits), .sc (.int .i64 x.Quiet), .sc (.int .i64 x.Age)]]) (LSpec.callO (o := 0) (k := 1000000) 1000001 slices_Insert__api_Rule_ent (slices_Insert__api_Rule_O out (rule_copied x) ((bsR out x rule_compare).1) rows true hv hfit) (by kernel_rfl) (by kernel_rfl) (by decide) (by decide)) (by kernel_rfl) (by kernel_rfl) (by kernel_rfl) rfl ?_
          refine DK.seg hG 1 [3, 8, 9, 10] (t' := [(3, .own 0 1000001), (8, .sl 34 (List.map Rule.av list) f_list), (9, .sc (.int .i64 (((List.map Rule.av list).length : Nat) : Int))), (10, .sc (.int .i64 ((t10 : Nat) : Int)))]) (h' := [.row 34 (List.map Rule.av rows) 1000001 true, .box 34 [.arr .u64 12 x.Match.Value, .arr .u64 12 x.Match.Care, .sc (.int .i64 x.Prio), .sl 42 (List.map Act.av x.Acts) false, .sc (.int .i64 x.Idle), .sc (.int .i64 x.Hard), .sc (.int .i64 x.Owner), .sc (.int .i64 x.Hits), .sc (.int .i64 x.Quiet), .sc (.int .i64 x.Age)]]) (by kernel_rfl) rfl ?_
          refine DK.done (by kernel_rfl) (by kernel_rfl) ?_
          refine AR.seg hG hm 2 [3, 8, 9, 10] (k' := [.loop [1, 1, 0, 1, 0], .blk 0, .code [1, 1, 1]]) (t' := [(3, .own 0 1000001), (8, .sl 34 (List.map Rule.av list) f_list), (9, .sc (.int .i64 (((List.map Rule.av list).length : Nat) : Int))), (10, .sc (.int .i64 (IntKind.i64.wrap (((t10 : Nat) : Int) + 1))))]) (h' := [.row 34 (List.map Rule.av rows) 1000001 true, .box 34 [.arr .u64 12 x.Match.Value, .arr .u64 12 x.Match.Care, .sc (.int .i64 x.Prio), .sl 42 (List.map Act.av x.Acts) false, .sc (.int .i64 x.Idle), .sc (.int .i64 x.Hard), .sc (.int .i64 x.Owner), .sc (.int .i64 x.Hits), .sc (.int .i64 x.Quiet), .sc (.int .i64 x.Age)]]) (by kernel_rfl) ?_
          refine AR.keep [3, 8, 9, 10] (t' := [(3, .own 0 1000001), (8, .sl 34 (List.map Rule.av list) f_list), (9, .sc (.int .i64 (((List.map Rule.av list).length : Nat) : Int))), (10, .sc (.int .i64 (IntKind.i64.wrap (((t10 : Nat) : Int) + 1))))]) (by kernel_rfl) ?_
          refine AR.norm' 0 1000000 hc0 (t' := [(3, .own 0 1000000), (8, .sl 34 (List.map Rule.av list) f_list), (9, .sc (.int .i64 (((List.map Rule.av list).length : Nat) : Int))), (10, .sc (.int .i64 (IntKind.i64.wrap (((t10 : Nat) : Int) + 1))))]) (h' := [.row 34 (List.map Rule.av rows) 1000000 true, .box 34 [.arr .u64 12 x.Match.Value, .arr .u64 12 x.Match.Care, .sc (.int .i64 x.Prio), .sl 42 (List.map Act.av x.Acts) false, .sc (.int .i64 x.Idle), .sc (.int .i64 x.Hard), .sc (.int .i64 x.Owner), .sc (.int .i64 x.Hits), .sc (.int .i64 x.Quiet), .sc (.int .i64 x.Age)]]) (by kernel_rfl) ?_
          refine AR.drop' 1 hc0 (t' := [(3, .own 0 1000000), (8, .sl 34 (List.map Rule.av list) f_list), (9, .sc (.int .i64 (((List.map Rule.av list).length : Nat) : Int))), (10, .sc (.int .i64 (IntKind.i64.wrap (((t10 : Nat) : Int) + 1))))]) (h' := [.row 34 (List.map Rule.av rows) 1000000 true]) (by kernel_rfl) ?_
          refine AR.loop_round ?_
          rw [hw]
          exact ih (t10 + 1) hd2 rows H
    case hf14 => exact absurd (hc.symm.trans hb) (by decide)

def rule_Sort_raw (list : List Rule) : Option ((List Rule)) :=
  (rule_Sort_l0s list ([] : List Rule)).bind fun v =>
  some v
theorem rule_Sort_walk (list : List Rule) (f_list : Bool) (r : (List Rule)) (H : rule_Sort_raw list = some r) :
    ACalls Try.prog tab.S 24 [.sl 34 (List.map Rule.av list) f_list] [] (.sl 34 (List.map Rule.av r) true) [] := by
  have hG := tab_ok
  have hm := mixed
  refine ACalls.of_AR (G := tab) rule_Sort_F (fn := Try.f24) Try.func24 (by kernel_rfl) (by kernel_rfl) (by kernel_rfl) (Nat.le_of_ble_eq_true (by kernel_rfl)) ?_
  intro c0 hc0
  replace hc0 : c0.m.length = 0 := hc0
  rw [rule_Sort_raw] at H
  refine AR.seg hG hm 8 [3, 8, 9, 10] (k' := [.code [1, 1, 0, 1, 0], .blk 0, .code [1, 1, 1]]) (t' := [(3, .sl 0 [] true), (8, .sl 34 (List.map Rule.av list) f_list), (9, .sc (.int .i64 (((List.map Rule.av list).length : Nat) : Int))), (10, .sc (.int .i64 0))]) (h' := []) (by kernel_rfl) ?_
  refine AR.adoptB' 3 34 (t' := [(3, .own 0 1000000), (8, .sl 34 (List.map Rule.av list) f_list), (9, .sc (.int .i64 (((List.map Rule.av list).length : Nat) : Int))), (10, .sc (.int .i64 0))]) (h' := [.row 34 (List.map Rule.av ([] : List Rule)) 1000000 true]) (by kernel_rfl) ?_
  refine AR.keep [3, 8, 9, 10] (t' := [(3, .own 0 1000000), (8, .sl 34 (List.map Rule.av list) f_list), (9, .sc (.int .i64 (((List.map Rule.av list).length : Nat) : Int))), (10, .sc (.int .i64 0))]) (by kernel_rfl) ?_
  obtain ⟨v, hv, H⟩ := Option.bind_eq_some_iff.1 H
  refine AR.into (by kernel_rfl) ?_
  refine rule_Sort_l0_walk list f_list r c0 hc0 v ?_ list 0 rfl ([] : List Rule) hv
  refine AR.seg hG hm 1 [3] (k' := [.code [1, 1, 1, 0], .code [1, 1, 1, 1]]) (t' := [(3, .own 0 1000000)]) (h' := [.row 34 (List.map Rule.av v) 1000000 true]) (by kernel_rfl) ?_
  refine AR.reg hm rule_Sort_k5 (by kernel_rfl) ?_
  refine DK.seg hG 1 [36] (t' := [(36, .own 0 1000000)]) (h' := [.row 34 (List.map Rule.av v) 1000000 true]) (by kernel_rfl) rfl ?_
  refine DK.op' [37] (t' := [(37, .sl 34 (List.map Rule.av v) true)]) (h' := [.row 34 (List.map Rule.av v) 1000000 false]) (LSpec.callC' [0] (slices_Clip__api_Rule_calls v false) (by kernel_rfl) (by kernel_rfl)) (by kernel_rfl) (by kernel_rfl) (by kernel_rfl) rfl ?_
  refine DK.seg hG 1 [2] (t' := [(2, .sl 34 (List.map Rule.av v) true)]) (h' := [.row 34 (List.map Rule.av v) 1000000 false]) (by kernel_rfl) rfl ?_
  refine DK.done (by kernel_rfl) (by kernel_rfl) ?_
  obtain rfl := Option.some.inj H
  exact AR.ret0 (fn := Try.f24) hG Try.func24 (by kernel_rfl) hc0 (r0 := .sl 34 (List.map Rule.av v) true) (by kernel_rfl) (WkV.refl _)

def putR (out : List Rule) (x : Rule) : List Rule :=
  bif !(rule_Sound x) then out else
  bif (bsR out x rule_compare).2 then out.set (bsN out x rule_compare) x else out.take (bsN out x rule_compare) ++ x :: out.drop (bsN out x rule_compare)
def sortR (l : List Rule) : List Rule := l.foldl putR []
theorem copied_eq (x : Rule) : rule_copied x = x := rfl
theorem bsR_lt {x : List Rule} {t : Rule} {cmp : Rule → Rule → Int} (h : (bsR x t cmp).2 = true) : bsN x t cmp < x.length := by
  unfold bsR at h
  by_cases hlt : bsN x t cmp < x.length
  · exact hlt
  · simp only [List.getElem?_eq_none (by omega : x.length ≤ bsN x t cmp)] at h
    cases h
theorem putR_len (out : List Rule) (x : Rule) : (putR out x).length ≤ out.length + 1 := by
  unfold putR
  cases !(rule_Sound x)
  · cases (bsR out x rule_compare).2
    · have := bsN_le out x rule_compare
      simp only [cond_false, List.length_append, List.length_cons, List.length_take, List.length_drop]
      omega
    · simp only [cond_true, cond_false, List.length_set]; omega
  · simp only [cond_true]; omega
theorem rule_Sort_l0s_eq : ∀ (l out : List Rule), (out.length + l.length) * 272 ≤ 140737488355328 → rule_Sort_l0s l out = some (l.foldl putR out)
  | [], out, _ => by rw [rule_Sort_l0s]; rfl
  | x :: l, out, h => by
      rw [List.length_cons] at h
      have hp := putR_len out x
      have ih := rule_Sort_l0s_eq l (putR out x) (by omega)
      rw [rule_Sort_l0s, List.foldl_cons, ← ih]
      unfold putR
      cases hs : !(rule_Sound x)
      · simp only [cond_false]
        cases hb : (bsR out x rule_compare).2
        · simp only [cond_false]
          have e1 : (bsR out x rule_compare).1 = ((bsN out x rule_compare : Nat) : Int) := rfl
          have hle := bsN_le out x rule_compare
          rw [fitO_eq (by rw [List.length_cons, List.length_nil]; omega), e1]
          unfold insO
          rw [if_pos (by omega), Int.toNat_natCast]
          rfl
        · simp only [cond_true]
          have e1 : (bsR out x rule_compare).1 = ((bsN out x rule_compare : Nat) : Int) := rfl
          rw [e1, ixO_lt (bsR_lt hb)]
          rfl
      · rfl
theorem rule_Sort_eq (l : List Rule) (h : l.length * 272 ≤ 140737488355328) : rule_Sort_raw l = some (sortR l) := by
  rw [rule_Sort_raw, rule_Sort_l0s_eq l [] (by rw [List.length_nil, Nat.zero_add]; exact h)]
  rfl
theorem rule_Sort_ok (l : List Rule) (f : Bool) : ACalls Try.prog tab.S 24 [.sl 34 (List.map Rule.av l) f] [] (.sl 34 (List.map Rule.av (sortR l)) true) [] := by
  refine ACalls.facts (ent_of Try.func24 (by kernel_rfl) (by kernel_rfl)) fun hf => ?_
  have l0 : l.length * 272 ≤ 140737488355328 := by have h := hf.1.1; rw [List.length_map] at h; exact h
  exact rule_Sort_walk l f _ (rule_Sort_eq l l0)

end Go.Proofs.Ytadolbhmdimbkaa

set_option linter.unusedVariables false
set_option linter.unusedSimpArgs false
set_option maxRecDepth 100000
set_option maxHeartbeats 4000000
namespace Go.Proofs.Ytadolbhmdimbkaa
open Go.Sh
/-! ### cube.Has: function 31 -/
noncomputable def cube_Has_F : Go.Sh.Fn := ⟨31, bodyOf Try.f31, 30⟩
def cube_Has_k1 : List Kd := [.pure, .pure, .pure, .pure, .read, .pure, .pure, .pure, .pure, .read, .pure]
def cube_Has_k0 : List Kd := [.pure, .pure, .pure, .pure]
def cube_Has_k2 : List Kd := [.read, .pure, .pure, .read, .pure, .pure, .pure]
def cube_Has_l0s (c : Cube) (h1 : List Int) : Nat → Nat → Sum (Unit) (Bool)
  | 0, t8 =>
    (.inl ())
  | rest + 1, t8 =>
    (bif ((IntKind.u64.wrap ((BitVec.ofInt 64 (h1.getD t8 0) &&& BitVec.ofInt 64 (c.Care.getD (t8) 0)).toNat)) != (c.Value.getD (t8) 0)) then
      (.inr false)
    else
      cube_Has_l0s c h1 rest (t8 + 1) )
theorem cube_Has_l0_walk (c : Cube) (h1 : List Int) (r : Bool) (c0 : Ctx) (hc0 : c0.m.length = 0) (res : Sum (Unit) (Bool)) (J : ∀ w : Unit, res = .inl w → AR Try.prog tab cube_Has_F c0 (Rp tab.S c0 (.sc (.bool r)) []) [.code [1, 1]] [(2, .ptr 0 0 none), (3, .ptr 1 0 none)] [.box 31 [.arr .u64 12 c.Value, .arr .u64 12 c.Care], .box 25 [.arr .u64 12 h1]]) (Jr : ∀ w, res = .inr w → w = r) :
    ∀ (rest : Nat) (t8 : Nat) (hd : t8 + rest = 12) (H : cube_Has_l0s c h1 rest t8 = res), AR Try.prog tab cube_Has_F c0 (Rp tab.S c0 (.sc (.bool r)) []) [.code [1, 0, 1, 0, 0], .loop [1, 0, 1, 0], .blk 0, .code [1, 1]] [(2, .ptr 0 0 none), (3, .ptr 1 0 none), (7, .arr .u64 12 h1), (8, .sc (.int .i64 ((t8 : Nat) : Int)))] [.box 31 [.arr .u64 12 c.Value, .arr .u64 12 c.Care], .box 25 [.arr .u64 12 h1]] := by
  have hG := tab_ok
  have hm := mixed
  intro rest
  induction rest with
  | zero =>
    intro t8 hd  H
    rw [cube_Has_l0s] at H
    have hc : (decide (((t8 : Nat) : Int) < 12)) = false := decide_eq_false (by omega)
    refine AR.seg hG hm 3 [2, 3, 7, 8, 9] (k' := [.code [1, 0, 1, 0, 0, 1, 0], .code [1, 0, 1, 0, 0, 1, 1], .loop [1, 0, 1, 0], .blk 0, .code [1, 1]]) (t' := [(2, .ptr 0 0 none), (3, .ptr 1 0 none), (7, .arr .u64 12 h1), (8, .sc (.int .i64 ((t8 : Nat) : Int))), (9, .sc (.bool (decide (((t8 : Nat) : Int) < 12))))]) (h' := [.box 31 [.arr .u64 12 c.Value, .arr .u64 12 c.Care], .box 25 [.arr .u64 12 h1]]) (by kernel_rfl) ?_
    refine AR.cond (.tmp 9) (decide (((t8 : Nat) : Int) < 12)) (by kernel_rfl) (by kernel_rfl) (fun hb => ?ht7) (fun hb => ?hf7)
    case ht7 => exact absurd (hb.symm.trans hc) (by decide)
    case hf7 =>
      refine AR.seg hG hm 1 [2, 3] (k' := [.code [1, 1]]) (t' := [(2, .ptr 0 0 none), (3, .ptr 1 0 none)]) (h' := [.box 31 [.arr .u64 12 c.Value, .arr .u64 12 c.Care], .box 25 [.arr .u64 12 h1]]) (by kernel_rfl) ?_
      refine AR.keep [2, 3] (t' := [(2, .ptr 0 0 none), (3, .ptr 1 0 none)]) (by kernel_rfl) ?_
      exact J () H.symm
  | succ rest ih =>
    intro t8 hd  H
    rw [cube_Has_l0s] at H
    have hlt_t8 : t8 < 12 := by omega
    have hc : (decide (((t8 : Nat) : Int) < 12)) = true := decide_eq_true (by omega)
    have hw : IntKind.i64.wrap (((t8 : Nat) : Int) + 1) = ((t8 + 1 : Nat) : Int) := wrapI_succ (by omega)
    refine AR.seg hG hm 3 [2, 3, 7, 8, 9] (k' := [.code [1, 0, 1, 0, 0, 1, 0], .code [1, 0, 1, 0, 0, 1, 1], .loop [1, 0, 1, 0], .blk 0, .code [1, 1]]) (t' := [(2, .ptr 0 0 none), (3, .ptr 1 0 none), (7, .arr .u64 12 h1), (8, .sc (.int .i64 ((t8 : Nat) : Int))), (9, .sc (.bool (decide (((t8 : Nat) : Int) < 12))))]) (h' := [.box 31 [.arr .u64 12 c.Value, .arr .u64 12 c.Care], .box 25 [.arr .u64 12 h1]]) (by kernel_rfl) ?_
    refine AR.cond (.tmp 9) (decide (((t8 : Nat) : Int) < 12)) (by kernel_rfl) (by kernel_rfl) (fun hb => ?ht8) (fun hb => ?hf8)
    case ht8 =>
      refine AR.seg hG hm 4 [2, 3, 7, 8] (k' := [.code [1, 0, 1, 0, 0, 1, 1, 0, 0, 0], .code [1, 0, 1, 0, 0, 1, 1, 0, 0, 1], .blk 1, .code [1, 0, 1, 0, 0, 1, 1, 1], .loop [1, 0, 1, 0], .blk 0, .code [1, 1]]) (t' := [(2, .ptr 0 0 none), (3, .ptr 1 0 none), (7, .arr .u64 12 h1), (8, .sc (.int .i64 ((t8 : Nat) : Int)))]) (h' := [.box 31 [.arr .u64 12 c.Value, .arr .u64 12 c.Care], .box 25 [.arr .u64 12 h1]]) (by kernel_rfl) ?_
      refine AR.reg hm cube_Has_k0 (by kernel_rfl) ?_
      refine DK.seg hG 1 [2, 3, 7, 8, 10] (t' := [(2, .ptr 0 0 none), (3, .ptr 1 0 none), (7, .arr .u64 12 h1), (8, .sc (.int .i64 ((t8 : Nat) : Int))), (10, .sc (.int .i64 ((t8 : Nat) : Int)))]) (h' := [.box 31 [.arr .u64 12 c.Value, .arr .u64 12 c.Care], .box 25 [.arr .u64 12 h1]]) (by kernel_rfl) rfl ?_
      have hreq := idx_in 12 hlt_t8 (by decide)
      refine DK.op' [2, 3, 7, 8, 10, 11] (t' := [(2, .ptr 0 0 none), (3, .ptr 1 0 none), (7, .arr .u64 12 h1), (8, .sc (.int .i64 ((t8 : Nat) : Int))), (10, .sc (.int .i64 ((t8 : Nat) : Int))), (11, .sc (.int .u64 (h1.getD t8 0)))]) (h' := [.box 31 [.arr .u64 12 c.Value, .arr .u64 12 c.Care], .box 25 [.arr .u64 12 h1]]) (LSpec.idxVal (k := .u64) (m := 12) (j := ((t8 : Nat) : Int)) (xs := h1) hG hreq (by kernel_rfl)) (by kernel_rfl) rfl (by kernel_rfl) rfl ?_
      refine DK.seg hG 2 [2, 3, 5, 6, 7, 8] (t' := [(2, .ptr 0 0 none), (3, .ptr 1 0 none), (5, .sc (.int .i64 ((t8 : Nat) : Int))), (6, .sc (.int .u64 (h1.getD t8 0))), (7, .arr .u64 12 h1), (8, .sc (.int .i64 ((t8 : Nat) : Int)))]) (h' := [.box 31 [.arr .u64 12 c.Value, .arr .u64 12 c.Care], .box 25 [.arr .u64 12 h1]]) (by kernel_rfl) rfl ?_
      refine DK.done (by kernel_rfl) (by kernel_rfl) ?_
      refine AR.seg hG hm 1 [2, 3, 5, 6, 7, 8] (k' := [.code [1, 0, 1, 0, 0, 1, 1, 0, 0, 1, 0], .code [1, 0, 1, 0, 0, 1, 1, 0, 0, 1, 1], .blk 1, .code [1, 0, 1, 0, 0, 1, 1, 1], .loop [1, 0, 1, 0], .blk 0, .code [1, 1]]) (t' := [(2, .ptr 0 0 none), (3, .ptr 1 0 none), (5, .sc (.int .i64 ((t8 : Nat) : Int))), (6, .sc (.int .u64 (h1.getD t8 0))), (7, .arr .u64 12 h1), (8, .sc (.int .i64 ((t8 : Nat) : Int)))]) (h' := [.box 31 [.arr .u64 12 c.Value, .arr .u64 12 c.Care], .box 25 [.arr .u64 12 h1]]) (by kernel_rfl) ?_
      refine AR.reg hm cube_Has_k1 (by kernel_rfl) ?_
      refine DK.seg hG 3 [2, 3, 5, 7, 8, 12, 13, 14] (t' := [(2, .ptr 0 0 none), (3, .ptr 1 0 none), (5, .sc (.int .i64 ((t8 : Nat) : Int))), (7, .arr .u64 12 h1), (8, .sc (.int .i64 ((t8 : Nat) : Int))), (12, .sc (.int .u64 (h1.getD t8 0))), (13, .sc (.int .i64 ((t8 : Nat) : Int))), (14, .ptr 0 12 none)]) (h' := [.box 31 [.arr .u64 12 c.Value, .arr .u64 12 c.Care], .box 25 [.arr .u64 12 h1]]) (by kernel_rfl) rfl ?_
      have hreq := idx_in 12 hlt_t8 (by decide)
      refine DK.op' [2, 3, 5, 7, 8, 12, 15] (t' := [(2, .ptr 0 0 none), (3, .ptr 1 0 none), (5, .sc (.int .i64 ((t8 : Nat) : Int))), (7, .arr .u64 12 h1), (8, .sc (.int .i64 ((t8 : Nat) : Int))), (12, .sc (.int .u64 (h1.getD t8 0))), (15, .ptr 0 12 (some (t8, 12)))]) (h' := [.box 31 [.arr .u64 12 c.Value, .arr .u64 12 c.Care], .box 25 [.arr .u64 12 h1]]) (LSpec.idxPtr (o := 0) (off := 12) (m := 12) (j := ((t8 : Nat) : Int)) hG hreq (by kernel_rfl)) (by kernel_rfl) rfl (by kernel_rfl) rfl ?_
      refine DK.seg hG 4 [2, 3, 7, 8, 17, 18, 19] (t' := [(2, .ptr 0 0 none), (3, .ptr 1 0 none), (7, .arr .u64 12 h1), (8, .sc (.int .i64 ((t8 : Nat) : Int))), (17, .sc (.int .u64 (IntKind.u64.wrap ((BitVec.ofInt 64 (h1.getD t8 0) &&& BitVec.ofInt 64 (c.Care.getD (t8) 0)).toNat)))), (18, .sc (.int .i64 ((t8 : Nat) : Int))), (19, .ptr 0 0 none)]) (h' := [.box 31 [.arr .u64 12 c.Value, .arr .u64 12 c.Care], .box 25 [.arr .u64 12 h1]]) (by kernel_rfl) rfl ?_
      have hreq := idx_in 12 hlt_t8 (by decide)
      refine DK.op' [2, 3, 7, 8, 17, 20] (t' := [(2, .ptr 0 0 none), (3, .ptr 1 0 none), (7, .arr .u64 12 h1), (8, .sc (.int .i64 ((t8 : Nat) : Int))), (17, .sc (.int .u64 (IntKind.u64.wrap ((BitVec.ofInt 64 (h1.getD t8 0) &&& BitVec.ofInt 64 (c.Care.getD (t8) 0)).toNat)))), (20, .ptr 0 0 (some (t8, 12)))]) (h' := [.box 31 [.arr .u64 12 c.Value, .arr .u64 12 c.Care], .box 25 [.arr .u64 12 h1]]) (LSpec.idxPtr (o := 0) (off := 0) (m := 12) (j := ((t8 : Nat) : Int)) hG hreq (by kernel_rfl)) (by kernel_rfl) rfl (by kernel_rfl) rfl ?_
      refine DK.seg hG 2 [2, 3, 7, 8, 22] (t' := [(2, .ptr 0 0 none), (3, .ptr 1 0 none), (7, .arr .u64 12 h1), (8, .sc (.int .i64 ((t8 : Nat) : Int))), (22, .sc (.bool ((IntKind.u64.wrap ((BitVec.ofInt 64 (h1.getD t8 0) &&& BitVec.ofInt 64 (c.Care.getD (t8) 0)).toNat)) != (c.Value.getD (t8) 0))))]) (h' := [.box 31 [.arr .u64 12 c.Value, .arr .u64 12 c.Care], .box 25 [.arr .u64 12 h1]]) (by kernel_rfl) rfl ?_
      refine DK.done (by kernel_rfl) (by kernel_rfl) ?_
      refine AR.cond (.tmp 22) ((IntKind.u64.wrap ((BitVec.ofInt 64 (h1.getD t8 0) &&& BitVec.ofInt 64 (c.Care.getD (t8) 0)).toNat)) != (c.Value.getD (t8) 0)) (by kernel_rfl) (by kernel_rfl) (fun hb => ?ht9) (fun hb => ?hf9)
      case ht9 =>
        replace H := cond_t hb H
        refine AR.seg hG hm 2 [4] (k' := [.code [1, 0, 1, 0, 0, 1, 1, 0, 0, 1, 1, 0, 1], .blk 1, .code [1, 0, 1, 0, 0, 1, 1, 1], .loop [1, 0, 1, 0], .blk 0, .code [1, 1]]) (t' := [(4, .sc (.bool false))]) (h' := [.box 31 [.arr .u64 12 c.Value, .arr .u64 12 c.Care], .box 25 [.arr .u64 12 h1]]) (by kernel_rfl) ?_
        subst H
        obtain rfl := Jr _ rfl
        exact AR.ret0 (fn := Try.f31) hG Try.func31 (by kernel_rfl) hc0 (r0 := .sc (.bool false)) (by kernel_rfl) (WkV.refl _)
      case hf9 =>
        replace H := cond_f hb H
        refine AR.seg hG hm 3 [2, 3, 7, 8] (k' := [.loop [1, 0, 1, 0], .blk 0, .code [1, 1]]) (t' := [(2, .ptr 0 0 none), (3, .ptr 1 0 none), (7, .arr .u64 12 h1), (8, .sc (.int .i64 (IntKind.i64.wrap (((t8 : Nat) : Int) + 1))))]) (h' := [.box 31 [.arr .u64 12 c.Value, .arr .u64 12 c.Care], .box 25 [.arr .u64 12 h1]]) (by kernel_rfl) ?_
        refine AR.keep [2, 3, 7, 8] (t' := [(2, .ptr 0 0 none), (3, .ptr 1 0 none), (7, .arr .u64 12 h1), (8, .sc (.int .i64 (IntKind.i64.wrap (((t8 : Nat) : Int) + 1))))]) (by kernel_rfl) ?_
        refine AR.loop_round ?_
        rw [hw]
        exact ih (t8 + 1) (by omega) H
    case hf8 => exact absurd (hc.symm.trans hb) (by decide)

def cube_Has (c : Cube) (h1 : List Int) : Bool :=
  sumG (fun q => q) (cube_Has_l0s c h1 12 0) fun v =>
  ((cube_Sound c) && (head_Sound h1))
theorem cube_Has_walk (c : Cube) (h1 : List Int) (r : Bool) (H : cube_Has c h1 = r) :
    ACalls Try.prog tab.S 31 [Cube.av c, .arr .u64 12 h1] [] (.sc (.bool r)) [] := by
  have hG := tab_ok
  have hm := mixed
  refine ACalls.of_AR (G := tab) cube_Has_F (fn := Try.f31) Try.func31 (by kernel_rfl) (by kernel_rfl) (by kernel_rfl) (Nat.le_of_ble_eq_true (by kernel_rfl)) ?_
  intro c0 hc0
  replace hc0 : c0.m.length = 0 := hc0
  rw [cube_Has] at H
  refine AR.seg hG hm 6 [2, 3, 7, 8] (k' := [.code [1, 0, 1, 0], .blk 0, .code [1, 1]]) (t' := [(2, .ptr 0 0 none), (3, .ptr 1 0 none), (7, .arr .u64 12 h1), (8, .sc (.int .i64 0))]) (h' := [.box 31 [.arr .u64 12 c.Value, .arr .u64 12 c.Care], .box 25 [.arr .u64 12 h1]]) (by kernel_rfl) ?_
  rcases sumG_eq H with ⟨v, hv, H⟩ | ⟨r1, hv, hr1⟩
  case inr =>
    refine AR.into (by kernel_rfl) ?_
    replace hr1 : r1 = r := hr1
    subst hr1
    exact cube_Has_l0_walk c h1 _ c0 hc0 (.inr _) (fun _ e => by cases e) (fun _ e => (Sum.inr.inj e).symm) 12 0 rfl hv
  refine AR.into (by kernel_rfl) ?_
  refine cube_Has_l0_walk c h1 r c0 hc0 (.inl v) (fun w e => ?_) (fun _ e => by cases e) 12 0 rfl hv
  have e := Sum.inl.inj e
  subst e
  refine AR.seg hG hm 1 [2, 3] (k' := [.code [1, 1, 0], .code [1, 1, 1]]) (t' := [(2, .ptr 0 0 none), (3, .ptr 1 0 none)]) (h' := [.box 31 [.arr .u64 12 c.Value, .arr .u64 12 c.Care], .box 25 [.arr .u64 12 h1]]) (by kernel_rfl) ?_
  refine AR.reg hm cube_Has_k2 (by kernel_rfl) ?_
  refine DK.seg hG 1 [3, 24] (t' := [(3, .ptr 1 0 none), (24, Cube.av c)]) (h' := [.box 31 [.arr .u64 12 c.Value, .arr .u64 12 c.Care], .box 25 [.arr .u64 12 h1]]) (by kernel_rfl) rfl ?_
  refine DK.op' [3, 25] (t' := [(3, .ptr 1 0 none), (25, .sc (.bool (cube_Sound c)))]) (h' := [.box 31 [.arr .u64 12 c.Value, .arr .u64 12 c.Care], .box 25 [.arr .u64 12 h1]]) (LSpec.callP' (cube_Sound_calls c) (by kernel_rfl)) (by kernel_rfl) rfl (by kernel_rfl) rfl ?_
  refine DK.seg hG 1 [3, 26] (t' := [(3, .ptr 1 0 none), (26, .sc (.bool (cube_Sound c)))]) (h' := [.box 31 [.arr .u64 12 c.Value, .arr .u64 12 c.Care], .box 25 [.arr .u64 12 h1]]) (by kernel_rfl) rfl ?_
  refine DK.mux 26 (cube_Sound c) (j := 6) (h' := [.box 31 [.arr .u64 12 c.Value, .arr .u64 12 c.Care], .box 25 [.arr .u64 12 h1]]) (by kernel_rfl) (fun z => [(29, .sc (.bool (z && (head_Sound h1))))]) ?J10 (fun hb J => ?ht10) (fun hb J => ?hf10)
  case ht10 =>
    refine DK.seg hG 1 [26, 27] (t' := [(26, .sc (.bool true)), (27, .arr .u64 12 h1)]) (h' := [.box 31 [.arr .u64 12 c.Value, .arr .u64 12 c.Care], .box 25 [.arr .u64 12 h1]]) (by kernel_rfl) rfl ?_
    refine DK.op' [26, 28] (t' := [(26, .sc (.bool true)), (28, .sc (.bool (head_Sound h1)))]) (h' := [.box 31 [.arr .u64 12 c.Value, .arr .u64 12 c.Care], .box 25 [.arr .u64 12 h1]]) (LSpec.callP' (head_Sound_calls h1) (by kernel_rfl)) (by kernel_rfl) rfl (by kernel_rfl) rfl ?_
    exact DK.seg hG 1 [29] (by kernel_rfl) rfl J
  case hf10 =>
    exact DK.seg hG 3 [29] (by kernel_rfl) rfl J
  refine DK.seg hG 1 [4] (t' := [(4, .sc (.bool ((cube_Sound c) && (head_Sound h1))))]) (h' := [.box 31 [.arr .u64 12 c.Value, .arr .u64 12 c.Care], .box 25 [.arr .u64 12 h1]]) (by kernel_rfl) rfl ?_
  refine DK.done (by kernel_rfl) (by kernel_rfl) ?_
  subst H
  exact AR.ret0 (fn := Try.f31) hG Try.func31 (by kernel_rfl) hc0 (r0 := .sc (.bool ((cube_Sound c) && (head_Sound h1)))) (by kernel_rfl) (WkV.refl _)
theorem cube_Has_calls (c : Cube) (h1 : List Int) : ACalls Try.prog tab.S 31 [Cube.av c, .arr .u64 12 h1] [] (.sc (.bool (cube_Has c h1))) [] := cube_Has_walk c h1 _ rfl

/-! ### slices.IndexFunc: function 29 -/
noncomputable def slices_IndexFunc__api_Rule_F : Go.Sh.Fn := ⟨29, bodyOf Try.f29, 19⟩
def slices_IndexFunc__api_Rule_k0 : List Kd := [.pure, .pure, .pure, .pure, .pure, .pure]
def slices_IndexFunc__api_Rule_l0s (f : Rule → Bool) : List Rule → Nat → Sum (Unit) (Int)
  | [], t8 =>
    (.inl ())
  | x :: rest, t8 =>
    (bif (f x) then
      (.inr ((t8 : Nat) : Int))
    else
      slices_IndexFunc__api_Rule_l0s f rest (t8 + 1) )
theorem slices_IndexFunc__api_Rule_l0_walk (s : List Rule) (F_f : FuncId) (C_f : List AV) (f : Rule → Bool) (P_f : plainL C_f = true) (O_f : C_f.all oneA = true) (H_f : ∀ (y0 : Rule), ACalls Try.prog tab.S F_f ([Rule.av y0] ++ C_f) [] (.sc (.bool (f y0))) []) (f_s : Bool) (r : Int) (c0 : Ctx) (hc0 : c0.m.length = 0) (res : Sum (Unit) (Int)) (J : ∀ w : Unit, res = .inl w → AR Try.prog tab slices_IndexFunc__api_Rule_F c0 (Rp tab.S c0 (.sc (.int .i64 r)) []) [.code [1, 1]] [] []) (Jr : ∀ w, res = .inr w → w = r) :
    ∀ (rest : List Rule) (t8 : Nat) (hd : s.drop t8 = rest) (H : slices_IndexFunc__api_Rule_l0s f rest t8 = res), AR Try.prog tab slices_IndexFunc__api_Rule_F c0 (Rp tab.S c0 (.sc (.int .i64 r)) []) [.code [1, 0, 1, 0, 0], .loop [1, 0, 1, 0], .blk 0, .code [1, 1]] [(0, .sl 34 (List.map Rule.av s) f_s), (1, .fn F_f C_f), (7, .sc (.int .i64 (((List.map Rule.av s).length : Nat) : Int))), (8, .sc (.int .i64 ((t8 : Nat) : Int)))] [] := by
  have hG := tab_ok
  have hm := mixed
  intro rest
  induction rest with
  | nil =>
    intro t8 hd  H
    rw [slices_IndexFunc__api_Rule_l0s] at H
    refine AR.facts 0 rfl fun hf => ?_
    have hlen : s.length ≤ 9223372036854775807 := by have hq := len_ok hf.2.1; rw [List.length_map] at hq; exact hq
    have hge : s.length ≤ t8 := List.drop_eq_nil_iff.1 hd
    have hc : (decide (((t8 : Nat) : Int) < (((List.map Rule.av s).length : Nat) : Int))) = false := by rw [List.length_map]; exact decide_eq_false (by omega)
    refine AR.seg hG hm 3 [0, 1, 7, 8, 9] (k' := [.code [1, 0, 1, 0, 0, 1, 0], .code [1, 0, 1, 0, 0, 1, 1], .loop [1, 0, 1, 0], .blk 0, .code [1, 1]]) (t' := [(0, .sl 34 (List.map Rule.av s) f_s), (1, .fn F_f C_f), (7, .sc (.int .i64 (((List.map Rule.av s).length : Nat) : Int))), (8, .sc (.int .i64 ((t8 : Nat) : Int))), (9, .sc (.bool (decide (((t8 : Nat) : Int) < (((List.map Rule.av s).length : Nat) : Int)))))]) (h' := []) (by kernel_rfl) ?_
    refine AR.cond (.tmp 9) (decide (((t8 : Nat) : Int) < (((List.map Rule.av s).length : Nat) : Int))) (by kernel_rfl) (by kernel_rfl) (fun hb => ?ht7) (fun hb => ?hf7)
    case ht7 => exact absurd (hb.symm.trans hc) (by decide)
    case hf7 =>
      refine AR.seg hG hm 1 [] (k' := [.code [1, 1]]) (t' := []) (h' := []) (by kernel_rfl) ?_
      refine AR.keep [] (t' := []) (by kernel_rfl) ?_
      exact J () H.symm
  | cons x rest ih =>
    intro t8 hd  H
    rw [slices_IndexFunc__api_Rule_l0s] at H
    refine AR.facts 0 rfl fun hf => ?_
    have hlen : s.length ≤ 9223372036854775807 := by have hq := len_ok hf.2.1; rw [List.length_map] at hq; exact hq
    obtain ⟨hlt, hv_t8, hd2⟩ := drop_cons hd
    have hc : (decide (((t8 : Nat) : Int) < (((List.map Rule.av s).length : Nat) : Int))) = true := by rw [List.length_map]; exact decide_eq_true (by omega)
    have hw : IntKind.i64.wrap (((t8 : Nat) : Int) + 1) = ((t8 + 1 : Nat) : Int) := wrapI_succ (by omega)
    refine AR.seg hG hm 3 [0, 1, 7, 8, 9] (k' := [.code [1, 0, 1, 0, 0, 1, 0], .code [1, 0, 1, 0, 0, 1, 1], .loop [1, 0, 1, 0], .blk 0, .code [1, 1]]) (t' := [(0, .sl 34 (List.map Rule.av s) f_s), (1, .fn F_f C_f), (7, .sc (.int .i64 (((List.map Rule.av s).length : Nat) : Int))), (8, .sc (.int .i64 ((t8 : Nat) : Int))), (9, .sc (.bool (decide (((t8 : Nat) : Int) < (((List.map Rule.av s).length : Nat) : Int)))))]) (h' := []) (by kernel_rfl) ?_
    refine AR.cond (.tmp 9) (decide (((t8 : Nat) : Int) < (((List.map Rule.av s).length : Nat) : Int))) (by kernel_rfl) (by kernel_rfl) (fun hb => ?ht8) (fun hb => ?hf8)
    case ht8 =>
      refine AR.seg hG hm 6 [0, 1, 5, 7, 8] (k' := [.code [1, 0, 1, 0, 0, 1, 1, 0, 0, 1, 0], .code [1, 0, 1, 0, 0, 1, 1, 0, 0, 1, 1], .blk 1, .code [1, 0, 1, 0, 0, 1, 1, 1], .loop [1, 0, 1, 0], .blk 0, .code [1, 1]]) (t' := [(0, .sl 34 (List.map Rule.av s) f_s), (1, .fn F_f C_f), (5, .sc (.int .i64 ((t8 : Nat) : Int))), (7, .sc (.int .i64 (((List.map Rule.av s).length : Nat) : Int))), (8, .sc (.int .i64 ((t8 : Nat) : Int)))]) (h' := []) (by kernel_rfl) ?_
      refine AR.reg hm slices_IndexFunc__api_Rule_k0 (by kernel_rfl) ?_
      refine DK.seg hG 3 [0, 1, 5, 7, 8, 11, 12, 13] (t' := [(0, .sl 34 (List.map Rule.av s) f_s), (1, .fn F_f C_f), (5, .sc (.int .i64 ((t8 : Nat) : Int))), (7, .sc (.int .i64 (((List.map Rule.av s).length : Nat) : Int))), (8, .sc (.int .i64 ((t8 : Nat) : Int))), (11, .fn F_f C_f), (12, .sl 34 (List.map Rule.av s) f_s), (13, .sc (.int .i64 ((t8 : Nat) : Int)))]) (h' := []) (by kernel_rfl) rfl ?_
      refine DK.op' [0, 1, 5, 7, 8, 11, 14] (t' := [(0, .sl 34 (List.map Rule.av s) f_s), (1, .fn F_f C_f), (5, .sc (.int .i64 ((t8 : Nat) : Int))), (7, .sc (.int .i64 (((List.map Rule.av s).length : Nat) : Int))), (8, .sc (.int .i64 ((t8 : Nat) : Int))), (11, .fn F_f C_f), (14, .ep [.arr .u64 12 x.Match.Value, .arr .u64 12 x.Match.Care, .sc (.int .i64 x.Prio), .sl 42 (List.map Act.av x.Acts) false, .sc (.int .i64 x.Idle), .sc (.int .i64 x.Hard), .sc (.int .i64 x.Owner), .sc (.int .i64 x.Hits), .sc (.int .i64 x.Quiet), .sc (.int .i64 x.Age)] 0 none)]) (h' := []) (LSpec.index' (r := Rule.av x) (fs := [.arr .u64 12 x.Match.Value, .arr .u64 12 x.Match.Care, .sc (.int .i64 x.Prio), .sl 42 (List.map Act.av x.Acts) false, .sc (.int .i64 x.Idle), .sc (.int .i64 x.Hard), .sc (.int .i64 x.Owner), .sc (.int .i64 x.Hits), .sc (.int .i64 x.Quiet), .sc (.int .i64 x.Age)]) hG (rows := List.map Rule.av s) (j := ((t8 : Nat) : Int)) (by kernel_rfl) (ixO_map hv_t8 _) (by kernel_rfl)) (by kernel_rfl) rfl (by kernel_rfl) rfl ?_
      refine DK.seg hG 1 [0, 1, 5, 7, 8, 11, 15] (t' := [(0, .sl 34 (List.map Rule.av s) f_s), (1, .fn F_f C_f), (5, .sc (.int .i64 ((t8 : Nat) : Int))), (7, .sc (.int .i64 (((List.map Rule.av s).length : Nat) : Int))), (8, .sc (.int .i64 ((t8 : Nat) : Int))), (11, .fn F_f C_f), (15, Rule.av x)]) (h' := []) (by kernel_rfl) rfl ?_
      refine DK.op' [0, 1, 5, 7, 8, 16] (t' := [(0, .sl 34 (List.map Rule.av s) f_s), (1, .fn F_f C_f), (5, .sc (.int .i64 ((t8 : Nat) : Int))), (7, .sc (.int .i64 (((List.map Rule.av s).length : Nat) : Int))), (8, .sc (.int .i64 ((t8 : Nat) : Int))), (16, .sc (.bool (f x)))]) (h' := []) (LSpec.callFP' (H_f x) (by kernel_rfl) P_f O_f) (by kernel_rfl) rfl (by kernel_rfl) rfl ?_
      refine DK.done (by kernel_rfl) (by kernel_rfl) ?_
      refine AR.cond (.tmp 16) (f x) (by kernel_rfl) (by kernel_rfl) (fun hb => ?ht9) (fun hb => ?hf9)
      case ht9 =>
        replace H := cond_t hb H
        refine AR.seg hG hm 2 [4] (k' := [.code [1, 0, 1, 0, 0, 1, 1, 0, 0, 1, 1, 0, 1], .blk 1, .code [1, 0, 1, 0, 0, 1, 1, 1], .loop [1, 0, 1, 0], .blk 0, .code [1, 1]]) (t' := [(4, .sc (.int .i64 ((t8 : Nat) : Int)))]) (h' := []) (by kernel_rfl) ?_
        subst H
        obtain rfl := Jr _ rfl
        exact AR.ret0 (fn := Try.f29) hG Try.func29 (by kernel_rfl) hc0 (r0 := .sc (.int .i64 ((t8 : Nat) : Int))) (by kernel_rfl) (WkV.refl _)
      case hf9 =>
        replace H := cond_f hb H
        refine AR.seg hG hm 3 [0, 1, 7, 8] (k' := [.loop [1, 0, 1, 0], .blk 0, .code [1, 1]]) (t' := [(0, .sl 34 (List.map Rule.av s) f_s), (1, .fn F_f C_f), (7, .sc (.int .i64 (((List.map Rule.av s).length : Nat) : Int))), (8, .sc (.int .i64 (IntKind.i64.wrap (((t8 : Nat) : Int) + 1))))]) (h' := []) (by kernel_rfl) ?_
        refine AR.keep [0, 1, 7, 8] (t' := [(0, .sl 34 (List.map Rule.av s) f_s), (1, .fn F_f C_f), (7, .sc (.int .i64 (((List.map Rule.av s).length : Nat) : Int))), (8, .sc (.int .i64 (IntKind.i64.wrap (((t8 : Nat) : Int) + 1))))]) (by kernel_rfl) ?_
        refine AR.loop_round ?_
        rw [hw]
        exact ih (t8 + 1) hd2 H
    case hf8 => exact absurd (hc.symm.trans hb) (by decide)

def slices_IndexFunc__api_Rule (s : List Rule) (f : Rule → Bool) : Int :=
  sumG (fun q => q) (slices_IndexFunc__api_Rule_l0s f s 0) fun v =>
  (-1)
theorem slices_IndexFunc__api_Rule_walk (s : List Rule) (F_f : FuncId) (C_f : List AV) (f : Rule → Bool) (P_f : plainL C_f = true) (O_f : C_f.all oneA = true) (H_f : ∀ (y0 : Rule), ACalls Try.prog tab.S F_f ([Rule.av y0] ++ C_f) [] (.sc (.bool (f y0))) []) (f_s : Bool) (r : Int) (H : slices_IndexFunc__api_Rule s f = r) :
    ACalls Try.prog tab.S 29 [.sl 34 (List.map Rule.av s) f_s, .fn F_f C_f] [] (.sc (.int .i64 r)) [] := by
  have hG := tab_ok
  have hm := mixed
  refine ACalls.of_AR (G := tab) slices_IndexFunc__api_Rule_F (fn := Try.f29) Try.func29 (by kernel_rfl) (by kernel_rfl) (by kernel_rfl) (Nat.le_of_ble_eq_true (by kernel_rfl)) ?_
  intro c0 hc0
  replace hc0 : c0.m.length = 0 := hc0
  rw [slices_IndexFunc__api_Rule] at H
  refine AR.seg hG hm 6 [0, 1, 7, 8] (k' := [.code [1, 0, 1, 0], .blk 0, .code [1, 1]]) (t' := [(0, .sl 34 (List.map Rule.av s) f_s), (1, .fn F_f C_f), (7, .sc (.int .i64 (((List.map Rule.av s).length : Nat) : Int))), (8, .sc (.int .i64 0))]) (h' := []) (by kernel_rfl) ?_
  rcases sumG_eq H with ⟨v, hv, H⟩ | ⟨r1, hv, hr1⟩
  case inr =>
    refine AR.into (by kernel_rfl) ?_
    replace hr1 : r1 = r := hr1
    subst hr1
    exact slices_IndexFunc__api_Rule_l0_walk s F_f C_f f P_f O_f H_f f_s _ c0 hc0 (.inr _) (fun _ e => by cases e) (fun _ e => (Sum.inr.inj e).symm) s 0 rfl hv
  refine AR.into (by kernel_rfl) ?_
  refine slices_IndexFunc__api_Rule_l0_walk s F_f C_f f P_f O_f H_f f_s r c0 hc0 (.inl v) (fun w e => ?_) (fun _ e => by cases e) s 0 rfl hv
  have e := Sum.inl.inj e
  subst e
  refine AR.seg hG hm 2 [4] (k' := [.code [1, 1, 1]]) (t' := [(4, .sc (.int .i64 (-1)))]) (h' := []) (by kernel_rfl) ?_
  subst H
  exact AR.ret0 (fn := Try.f29) hG Try.func29 (by kernel_rfl) hc0 (r0 := .sc (.int .i64 (-1))) (by kernel_rfl) (WkV.refl _)
theorem slices_IndexFunc__api_Rule_calls (s : List Rule) (F_f : FuncId) (C_f : List AV) (f : Rule → Bool) (P_f : plainL C_f = true) (O_f : C_f.all oneA = true) (H_f : ∀ (y0 : Rule), ACalls Try.prog tab.S F_f ([Rule.av y0] ++ C_f) [] (.sc (.bool (f y0))) []) (f_s : Bool) : ACalls Try.prog tab.S 29 [.sl 34 (List.map Rule.av s) f_s, .fn F_f C_f] [] (.sc (.int .i64 (slices_IndexFunc__api_Rule s f))) [] := slices_IndexFunc__api_Rule_walk s F_f C_f f P_f O_f H_f f_s _ rfl

theorem slices_IndexFunc__api_Rule_l0s_eq (f : Rule → Bool) : ∀ (l : List Rule) (i : Nat), slices_IndexFunc__api_Rule_l0s f l i = match l.findIdx? f with | some k => .inr ((i + k : Nat) : Int) | none => .inl ()
  | [], i => rfl
  | x :: l, i => by
      rw [slices_IndexFunc__api_Rule_l0s, List.findIdx?_cons, slices_IndexFunc__api_Rule_l0s_eq f l (i + 1)]
      cases f x
      · simp only [cond_false, Bool.false_eq_true, if_false]
        cases l.findIdx? f with
        | none => rfl
        | some k => simp only [Option.map_some]; rw [show i + 1 + k = i + (k + 1) by omega]
      · rfl
theorem slices_IndexFunc__api_Rule_idx (s : List Rule) (f : Rule → Bool) : slices_IndexFunc__api_Rule s f = idxF f s := by
  rw [slices_IndexFunc__api_Rule, slices_IndexFunc__api_Rule_l0s_eq]
  unfold idxF sumG
  cases s.findIdx? f with
  | none => rfl
  | some k => simp only [Nat.zero_add]

/-! ### rule.Find$1: function 30 -/
noncomputable def rule_Find_1_F : Go.Sh.Fn := ⟨30, bodyOf Try.f30, 8⟩
def rule_Find_1_k0 : List Kd := [.pure, .read, .pure, .pure, .pure]
def rule_Find_1 (r2 : Rule) (c : List Int) : Bool :=
  (cube_Has r2.Match c)
theorem rule_Find_1_walk (r2 : Rule) (c : List Int) (r : Bool) (H : rule_Find_1 r2 c = r) :
    ACalls Try.prog tab.S 30 [Rule.av r2, .ep [.arr .u64 12 c] 0 none] [] (.sc (.bool r)) [] := by
  have hG := tab_ok
  have hm := mixed
  refine ACalls.of_AR (G := tab) rule_Find_1_F (fn := Try.f30) Try.func30 (by kernel_rfl) (by kernel_rfl) (by kernel_rfl) (Nat.le_of_ble_eq_true (by kernel_rfl)) ?_
  intro c0 hc0
  replace hc0 : c0.m.length = 0 := hc0
  rw [rule_Find_1] at H
  refine AR.seg hG hm 3 [1, 2] (k' := [.code [1, 0], .code [1, 1]]) (t' := [(1, .ep [.arr .u64 12 c] 0 none), (2, .ptr 0 0 none)]) (h' := [.box 34 [.arr .u64 12 r2.Match.Value, .arr .u64 12 r2.Match.Care, .sc (.int .i64 r2.Prio), .sl 42 (List.map Act.av r2.Acts) false, .sc (.int .i64 r2.Idle), .sc (.int .i64 r2.Hard), .sc (.int .i64 r2.Owner), .sc (.int .i64 r2.Hits), .sc (.int .i64 r2.Quiet), .sc (.int .i64 r2.Age)]]) (by kernel_rfl) ?_
  refine AR.reg hm rule_Find_1_k0 (by kernel_rfl) ?_
  refine DK.seg hG 3 [5, 6] (t' := [(5, Cube.av r2.Match), (6, .arr .u64 12 c)]) (h' := [.box 34 [.arr .u64 12 r2.Match.Value, .arr .u64 12 r2.Match.Care, .sc (.int .i64 r2.Prio), .sl 42 (List.map Act.av r2.Acts) false, .sc (.int .i64 r2.Idle), .sc (.int .i64 r2.Hard), .sc (.int .i64 r2.Owner), .sc (.int .i64 r2.Hits), .sc (.int .i64 r2.Quiet), .sc (.int .i64 r2.Age)]]) (by kernel_rfl) rfl ?_
  refine DK.op' [7] (t' := [(7, .sc (.bool (cube_Has r2.Match c)))]) (h' := [.box 34 [.arr .u64 12 r2.Match.Value, .arr .u64 12 r2.Match.Care, .sc (.int .i64 r2.Prio), .sl 42 (List.map Act.av r2.Acts) false, .sc (.int .i64 r2.Idle), .sc (.int .i64 r2.Hard), .sc (.int .i64 r2.Owner), .sc (.int .i64 r2.Hits), .sc (.int .i64 r2.Quiet), .sc (.int .i64 r2.Age)]]) (LSpec.callP' (cube_Has_calls r2.Match c) (by kernel_rfl)) (by kernel_rfl) rfl (by kernel_rfl) rfl ?_
  refine DK.seg hG 1 [3] (t' := [(3, .sc (.bool (cube_Has r2.Match c)))]) (h' := [.box 34 [.arr .u64 12 r2.Match.Value, .arr .u64 12 r2.Match.Care, .sc (.int .i64 r2.Prio), .sl 42 (List.map Act.av r2.Acts) false, .sc (.int .i64 r2.Idle), .sc (.int .i64 r2.Hard), .sc (.int .i64 r2.Owner), .sc (.int .i64 r2.Hits), .sc (.int .i64 r2.Quiet), .sc (.int .i64 r2.Age)]]) (by kernel_rfl) rfl ?_
  refine DK.done (by kernel_rfl) (by kernel_rfl) ?_
  subst H
  exact AR.ret0 (fn := Try.f30) hG Try.func30 (by kernel_rfl) hc0 (r0 := .sc (.bool (cube_Has r2.Match c))) (by kernel_rfl) (WkV.refl _)
theorem rule_Find_1_calls (r2 : Rule) (c : List Int) : ACalls Try.prog tab.S 30 [Rule.av r2, .ep [.arr .u64 12 c] 0 none] [] (.sc (.bool (rule_Find_1 r2 c))) [] := rule_Find_1_walk r2 c _ rfl

/-! ### rule.Find: function 11 -/
noncomputable def rule_Find_F : Go.Sh.Fn := ⟨11, bodyOf Try.f11, 14⟩
def rule_Find_k0 : List Kd := [.pure, .pure, .read, .pure]
def rule_Find (list : List Rule) (h1 : List Int) : Int × Bool :=
  ((if 0 > (slices_IndexFunc__api_Rule list (fun y0 => rule_Find_1 y0 h1)) then 0 else (slices_IndexFunc__api_Rule list (fun y0 => rule_Find_1 y0 h1))), (decide ((slices_IndexFunc__api_Rule list (fun y0 => rule_Find_1 y0 h1)) ≥ 0)))
theorem rule_Find_walk (list : List Rule) (h1 : List Int) (f_list : Bool) (r : Int × Bool) (H : rule_Find list h1 = r) :
    ACalls Try.prog tab.S 11 [.sl 34 (List.map Rule.av list) f_list, .arr .u64 12 h1] [] (.tup [.sc (.int .i64 r.1), .sc (.bool r.2)]) [] := by
  have hG := tab_ok
  have hm := mixed
  refine ACalls.of_AR (G := tab) rule_Find_F (fn := Try.f11) Try.func11 (by kernel_rfl) (by kernel_rfl) (by kernel_rfl) (Nat.le_of_ble_eq_true (by kernel_rfl)) ?_
  intro c0 hc0
  replace hc0 : c0.m.length = 0 := hc0
  rw [rule_Find] at H
  refine AR.seg hG hm 3 [0, 3] (k' := [.code [1, 0], .code [1, 1]]) (t' := [(0, .sl 34 (List.map Rule.av list) f_list), (3, .ptr 0 0 none)]) (h' := [.box 25 [.arr .u64 12 h1]]) (by kernel_rfl) ?_
  refine AR.reg hm rule_Find_k0 (by kernel_rfl) ?_
  refine DK.seg hG 2 [7, 8] (t' := [(7, .sl 34 (List.map Rule.av list) f_list), (8, .fn 30 [.ptr 0 0 none])]) (h' := [.box 25 [.arr .u64 12 h1]]) (by kernel_rfl) rfl ?_
  refine DK.op' [9] (t' := [(9, .sc (.int .i64 (slices_IndexFunc__api_Rule list (fun y0 => rule_Find_1 y0 h1))))]) (h' := [.box 25 [.arr .u64 12 h1]]) (LSpec.callF' (caps := []) (slices_IndexFunc__api_Rule_calls list 30 [.ep [.arr .u64 12 h1] 0 none] (fun y0 => rule_Find_1 y0 h1) rfl rfl (fun y0 => rule_Find_1_calls y0 h1) f_list) (by kernel_rfl) (.same rfl (.fn (caps := [.ptr 0 0 none]) (by kernel_rfl) .nil)) (by kernel_rfl) rfl rfl) (by kernel_rfl) rfl (by kernel_rfl) rfl ?_
  refine DK.seg hG 1 [6] (t' := [(6, .sc (.int .i64 (slices_IndexFunc__api_Rule list (fun y0 => rule_Find_1 y0 h1))))]) (h' := [.box 25 [.arr .u64 12 h1]]) (by kernel_rfl) rfl ?_
  refine DK.done (by kernel_rfl) (by kernel_rfl) ?_
  refine AR.seg hG hm 2 [4, 5] (k' := [.code [1, 1, 1]]) (t' := [(4, .sc (.int .i64 (if 0 > (slices_IndexFunc__api_Rule list (fun y0 => rule_Find_1 y0 h1)) then 0 else (slices_IndexFunc__api_Rule list (fun y0 => rule_Find_1 y0 h1))))), (5, .sc (.bool (decide ((slices_IndexFunc__api_Rule list (fun y0 => rule_Find_1 y0 h1)) ≥ 0))))]) (h' := [.box 25 [.arr .u64 12 h1]]) (by kernel_rfl) ?_
  subst H
  exact AR.ret0 (fn := Try.f11) hG Try.func11 (by kernel_rfl) hc0 (r0 := .tup [.sc (.int .i64 (if 0 > (slices_IndexFunc__api_Rule list (fun y0 => rule_Find_1 y0 h1)) then 0 else (slices_IndexFunc__api_Rule list (fun y0 => rule_Find_1 y0 h1)))), .sc (.bool (decide ((slices_IndexFunc__api_Rule list (fun y0 => rule_Find_1 y0 h1)) ≥ 0)))]) (by kernel_rfl) (WkV.refl _)
theorem rule_Find_calls (list : List Rule) (h1 : List Int) (f_list : Bool) : ACalls Try.prog tab.S 11 [.sl 34 (List.map Rule.av list) f_list, .arr .u64 12 h1] [] (.tup [.sc (.int .i64 ((rule_Find list h1).1)), .sc (.bool ((rule_Find list h1).2))]) [] := rule_Find_walk list h1 f_list _ rfl

end Go.Proofs.Ytadolbhmdimbkaa

set_option linter.unusedVariables false
set_option linter.unusedSimpArgs false
set_option maxRecDepth 100000
set_option maxHeartbeats 4000000
namespace Go.Proofs.Ytadolbhmdimbkaa
open Go.Sh
set_option maxRecDepth 100000
open Go.ChangeShapes Go.WideShapes Go.ChangeAt Go.RowKit
def Act.wf (x : Act) : Prop := intW .i64 x.Kind ∧ intW .i64 x.Port ∧ intW .i64 x.Field ∧ intW .u64 x.Value
theorem Act.shaped {gs : List AV} (h : Shaped tab 42 gs) : ∃ x : Act, gs = [.sc (.int .i64 x.Kind), .sc (.int .i64 x.Port), .sc (.int .i64 x.Field), .sc (.int .u64 x.Value)] ∧ x.wf := by
  obtain ⟨gss, rfl, hl, hf⟩ := Shaped.struct_inv (fl := [(0, 3), (1, 3), (2, 3), (3, 23)]) (by kernel_rfl) h
  match gss, hl, hf with
  | [g0, g1, g2, g3], _, hf =>
    obtain ⟨x0, rfl, w0⟩ := Shaped.int_inv (k := .i64) (by kernel_rfl) (hf 0 _ _ rfl rfl)
    obtain ⟨x1, rfl, w1⟩ := Shaped.int_inv (k := .i64) (by kernel_rfl) (hf 1 _ _ rfl rfl)
    obtain ⟨x2, rfl, w2⟩ := Shaped.int_inv (k := .i64) (by kernel_rfl) (hf 2 _ _ rfl rfl)
    obtain ⟨x3, rfl, w3⟩ := Shaped.int_inv (k := .u64) (by kernel_rfl) (hf 3 _ _ rfl rfl)
    exact ⟨⟨x0, x1, x2, x3⟩, rfl, ⟨w0, w1, w2, w3⟩⟩
def Cube.wf (x : Cube) : Prop := arrW .u64 12 x.Value ∧ arrW .u64 12 x.Care
theorem Cube.shaped {gs : List AV} (h : Shaped tab 31 gs) : ∃ x : Cube, gs = [.arr .u64 12 x.Value, .arr .u64 12 x.Care] ∧ x.wf := by
  obtain ⟨gss, rfl, hl, hf⟩ := Shaped.struct_inv (fl := [(0, 25), (12, 25)]) (by kernel_rfl) h
  match gss, hl, hf with
  | [g0, g1], _, hf =>
    obtain ⟨x0, rfl, w0⟩ := Shaped.arr_inv (n := 12) (e := 23) (k := .u64) (by kernel_rfl) (by kernel_rfl) (hf 0 _ _ rfl rfl)
    obtain ⟨x1, rfl, w1⟩ := Shaped.arr_inv (n := 12) (e := 23) (k := .u64) (by kernel_rfl) (by kernel_rfl) (hf 1 _ _ rfl rfl)
    exact ⟨⟨x0, x1⟩, rfl, ⟨w0, w1⟩⟩
def Rule.wf (x : Rule) : Prop := Cube.wf x.Match ∧ intW .i64 x.Prio ∧ (∀ y ∈ x.Acts, Act.wf y) ∧ intW .i64 x.Idle ∧ intW .i64 x.Hard ∧ intW .i64 x.Owner ∧ intW .i64 x.Hits ∧ intW .i64 x.Quiet ∧ intW .i64 x.Age
theorem Rule.shaped {gs : List AV} (h : Shaped tab 34 gs) : ∃ x : Rule, gs = [.arr .u64 12 x.Match.Value, .arr .u64 12 x.Match.Care, .sc (.int .i64 x.Prio), .sl 42 (List.map Act.av x.Acts) false, .sc (.int .i64 x.Idle), .sc (.int .i64 x.Hard), .sc (.int .i64 x.Owner), .sc (.int .i64 x.Hits), .sc (.int .i64 x.Quiet), .sc (.int .i64 x.Age)] ∧ x.wf := by
  obtain ⟨gss, rfl, hl, hf⟩ := Shaped.struct_inv (fl := [(0, 31), (24, 3), (25, 32), (26, 3), (27, 3), (28, 3), (29, 3), (30, 3), (31, 3)]) (by kernel_rfl) h
  match gss, hl, hf with
  | [g0, g1, g2, g3, g4, g5, g6, g7, g8], _, hf =>
    obtain ⟨x0, rfl, w0⟩ := Cube.shaped (hf 0 _ _ rfl rfl)
    obtain ⟨x1, rfl, w1⟩ := Shaped.int_inv (k := .i64) (by kernel_rfl) (hf 1 _ _ rfl rfl)
    obtain ⟨q2, rfl, hq2⟩ := Shaped.slice_inv (e := 42) (by kernel_rfl) (hf 2 _ _ rfl rfl)
    obtain ⟨x2, hx2, w2⟩ := rows_typedW (G := tab) (e := 42) (av := Act.av) (wf := fun y => Act.wf y) q2 (fun g hg => by obtain ⟨x, rfl, w⟩ := Act.shaped (hq2 g hg); exact ⟨x, (by kernel_rfl), w⟩)
    obtain ⟨x3, rfl, w3⟩ := Shaped.int_inv (k := .i64) (by kernel_rfl) (hf 3 _ _ rfl rfl)
    obtain ⟨x4, rfl, w4⟩ := Shaped.int_inv (k := .i64) (by kernel_rfl) (hf 4 _ _ rfl rfl)
    obtain ⟨x5, rfl, w5⟩ := Shaped.int_inv (k := .i64) (by kernel_rfl) (hf 5 _ _ rfl rfl)
    obtain ⟨x6, rfl, w6⟩ := Shaped.int_inv (k := .i64) (by kernel_rfl) (hf 6 _ _ rfl rfl)
    obtain ⟨x7, rfl, w7⟩ := Shaped.int_inv (k := .i64) (by kernel_rfl) (hf 7 _ _ rfl rfl)
    obtain ⟨x8, rfl, w8⟩ := Shaped.int_inv (k := .i64) (by kernel_rfl) (hf 8 _ _ rfl rfl)
    rw [hx2]; exact ⟨⟨x0, x1, x2, x3, x4, x5, x6, x7, x8⟩, rfl, ⟨w0, w1, w2, w3, w4, w5, w6, w7, w8⟩⟩

end Go.Proofs.Ytadolbhmdimbkaa

set_option linter.unusedVariables false
set_option linter.unusedSimpArgs false
set_option maxRecDepth 100000
set_option maxHeartbeats 4000000
namespace Go.Proofs.Ytadolbhmdimbkaa
open Go.Sh
/-! ### podestalaw05.answers: function 10 -/
noncomputable def podestalaw05_answers_F : Go.Sh.Fn := ⟨10, bodyOf Try.f10, 37⟩
def podestalaw05_answers_k2 : List Kd := [.pure, .pure, .pure, .pure, .pure, .pure, .pure, .pure, .pure, .pure, .pure, .pure, .pure, .pure, .pure, .pure, .pure, .pure, .pure, .pure, .pure, .pure, .pure, .pure]
def podestalaw05_answers_k1 : List Kd := [.pure, .pure, .pure, .pure, .pure, .pure, .pure, .pure]
def podestalaw05_answers_k0 : List Kd := [.pure, .pure, .pure, .pure, .pure]
def podestalaw05_answers_raw : Option (Bool) :=
  (bif ((((((List.map Rule.av (sortR [({ Match := ({ Value := [0, 0, 0, 0, 0, 0, 0, 0, 0, 0, 0, 0], Care := [0, 0, 0, 0, 0, 0, 0, 0, 0, 0, 0, 0] } : Cube), Prio := 1, Acts := [], Idle := 0, Hard := 0, Owner := 0, Hits := 0, Quiet := 0, Age := 0 } : Rule), ({ Match := ({ Value := [0, 0, 0, 0, 0, 0, 0, 0, 0, 0, 0, 0], Care := [0, 0, 0, 0, 0, 0, 0, 0, 0, 0, 0, 0] } : Cube), Prio := 2, Acts := [], Idle := 0, Hard := 0, Owner := 0, Hits := 0, Quiet := 0, Age := 0 } : Rule)])).length : Nat) : Int) == 2) && (rule_Find (sortR [({ Match := ({ Value := [0, 0, 0, 0, 0, 0, 0, 0, 0, 0, 0, 0], Care := [0, 0, 0, 0, 0, 0, 0, 0, 0, 0, 0, 0] } : Cube), Prio := 1, Acts := [], Idle := 0, Hard := 0, Owner := 0, Hits := 0, Quiet := 0, Age := 0 } : Rule), ({ Match := ({ Value := [0, 0, 0, 0, 0, 0, 0, 0, 0, 0, 0, 0], Care := [0, 0, 0, 0, 0, 0, 0, 0, 0, 0, 0, 0] } : Cube), Prio := 2, Acts := [], Idle := 0, Hard := 0, Owner := 0, Hits := 0, Quiet := 0, Age := 0 } : Rule)]) [0, 0, 0, 0, 0, 0, 0, 0, 0, 0, 0, 0]).2) && ((rule_Find (sortR [({ Match := ({ Value := [0, 0, 0, 0, 0, 0, 0, 0, 0, 0, 0, 0], Care := [0, 0, 0, 0, 0, 0, 0, 0, 0, 0, 0, 0] } : Cube), Prio := 1, Acts := [], Idle := 0, Hard := 0, Owner := 0, Hits := 0, Quiet := 0, Age := 0 } : Rule), ({ Match := ({ Value := [0, 0, 0, 0, 0, 0, 0, 0, 0, 0, 0, 0], Care := [0, 0, 0, 0, 0, 0, 0, 0, 0, 0, 0, 0] } : Cube), Prio := 2, Acts := [], Idle := 0, Hard := 0, Owner := 0, Hits := 0, Quiet := 0, Age := 0 } : Rule)]) [0, 0, 0, 0, 0, 0, 0, 0, 0, 0, 0, 0]).1 == 0)) then
    (ixO (sortR [({ Match := ({ Value := [0, 0, 0, 0, 0, 0, 0, 0, 0, 0, 0, 0], Care := [0, 0, 0, 0, 0, 0, 0, 0, 0, 0, 0, 0] } : Cube), Prio := 1, Acts := [], Idle := 0, Hard := 0, Owner := 0, Hits := 0, Quiet := 0, Age := 0 } : Rule), ({ Match := ({ Value := [0, 0, 0, 0, 0, 0, 0, 0, 0, 0, 0, 0], Care := [0, 0, 0, 0, 0, 0, 0, 0, 0, 0, 0, 0] } : Cube), Prio := 2, Acts := [], Idle := 0, Hard := 0, Owner := 0, Hits := 0, Quiet := 0, Age := 0 } : Rule)]) 0).bind fun x =>
    (bif (x.Prio == 2) then
      (ixO (sortR [({ Match := ({ Value := [0, 0, 0, 0, 0, 0, 0, 0, 0, 0, 0, 0], Care := [0, 0, 0, 0, 0, 0, 0, 0, 0, 0, 0, 0] } : Cube), Prio := 1, Acts := [], Idle := 0, Hard := 0, Owner := 0, Hits := 0, Quiet := 0, Age := 0 } : Rule), ({ Match := ({ Value := [0, 0, 0, 0, 0, 0, 0, 0, 0, 0, 0, 0], Care := [0, 0, 0, 0, 0, 0, 0, 0, 0, 0, 0, 0] } : Cube), Prio := 2, Acts := [], Idle := 0, Hard := 0, Owner := 0, Hits := 0, Quiet := 0, Age := 0 } : Rule)]) 0).bind fun x1 =>
      some (rule_Sound x1)
    else
      some false)
  else
    some false)
theorem podestalaw05_answers_walk (r : Bool) (H : podestalaw05_answers_raw = some r) :
    ACalls Try.prog tab.S 10 [] [] (.sc (.bool r)) [] := by
  have hG := tab_ok
  have hm := mixed
  refine ACalls.of_AR (G := tab) podestalaw05_answers_F (fn := Try.f10) Try.func10 (by kernel_rfl) (by kernel_rfl) (by kernel_rfl) (Nat.le_of_ble_eq_true (by kernel_rfl)) ?_
  intro c0 hc0
  replace hc0 : c0.m.length = 0 := hc0
  rw [podestalaw05_answers_raw] at H
  refine AR.seg hG hm 3 [] (k' := [.code [1, 0], .code [1, 1]]) (t' := []) (h' := []) (by kernel_rfl) ?_
  refine AR.reg hm podestalaw05_answers_k0 (by kernel_rfl) ?_
  refine DK.seg hG 2 [4, 5] (t' := [(4, .agg [.arr .u64 12 [0, 0, 0, 0, 0, 0, 0, 0, 0, 0, 0, 0], .arr .u64 12 [0, 0, 0, 0, 0, 0, 0, 0, 0, 0, 0, 0], .sc (.int .i64 1), .sl 0 [] true, .sc (.int .i64 0), .sc (.int .i64 0), .sc (.int .i64 0), .sc (.int .i64 0), .sc (.int .i64 0), .sc (.int .i64 0)]), (5, .agg [.arr .u64 12 [0, 0, 0, 0, 0, 0, 0, 0, 0, 0, 0, 0], .arr .u64 12 [0, 0, 0, 0, 0, 0, 0, 0, 0, 0, 0, 0], .sc (.int .i64 2), .sl 0 [] true, .sc (.int .i64 0), .sc (.int .i64 0), .sc (.int .i64 0), .sc (.int .i64 0), .sc (.int .i64 0), .sc (.int .i64 0)])]) (h' := []) (by kernel_rfl) rfl ?_
  refine DK.wk 4 (.agg [.arr .u64 12 [0, 0, 0, 0, 0, 0, 0, 0, 0, 0, 0, 0], .arr .u64 12 [0, 0, 0, 0, 0, 0, 0, 0, 0, 0, 0, 0], .sc (.int .i64 1), .sl 42 (List.map Act.av []) false, .sc (.int .i64 0), .sc (.int .i64 0), .sc (.int .i64 0), .sc (.int .i64 0), .sc (.int .i64 0), .sc (.int .i64 0)]) rfl (WkV.agg (WkL.cons (Wk1.refl _) (WkL.cons (Wk1.refl _) (WkL.cons (Wk1.refl _) (WkL.cons (Wk1.nil 42 false) (WkL.cons (Wk1.refl _) (WkL.cons (Wk1.refl _) (WkL.cons (Wk1.refl _) (WkL.cons (Wk1.refl _) (WkL.cons (Wk1.refl _) (WkL.cons (Wk1.refl _) WkL.nil))))))))))) (t' := [(4, .agg [.arr .u64 12 [0, 0, 0, 0, 0, 0, 0, 0, 0, 0, 0, 0], .arr .u64 12 [0, 0, 0, 0, 0, 0, 0, 0, 0, 0, 0, 0], .sc (.int .i64 1), .sl 42 (List.map Act.av []) false, .sc (.int .i64 0), .sc (.int .i64 0), .sc (.int .i64 0), .sc (.int .i64 0), .sc (.int .i64 0), .sc (.int .i64 0)]), (5, .agg [.arr .u64 12 [0, 0, 0, 0, 0, 0, 0, 0, 0, 0, 0, 0], .arr .u64 12 [0, 0, 0, 0, 0, 0, 0, 0, 0, 0, 0, 0], .sc (.int .i64 2), .sl 0 [] true, .sc (.int .i64 0), .sc (.int .i64 0), .sc (.int .i64 0), .sc (.int .i64 0), .sc (.int .i64 0), .sc (.int .i64 0)])]) (by kernel_rfl) ?_
  refine DK.wk 5 (.agg [.arr .u64 12 [0, 0, 0, 0, 0, 0, 0, 0, 0, 0, 0, 0], .arr .u64 12 [0, 0, 0, 0, 0, 0, 0, 0, 0, 0, 0, 0], .sc (.int .i64 2), .sl 42 (List.map Act.av []) false, .sc (.int .i64 0), .sc (.int .i64 0), .sc (.int .i64 0), .sc (.int .i64 0), .sc (.int .i64 0), .sc (.int .i64 0)]) rfl (WkV.agg (WkL.cons (Wk1.refl _) (WkL.cons (Wk1.refl _) (WkL.cons (Wk1.refl _) (WkL.cons (Wk1.nil 42 false) (WkL.cons (Wk1.refl _) (WkL.cons (Wk1.refl _) (WkL.cons (Wk1.refl _) (WkL.cons (Wk1.refl _) (WkL.cons (Wk1.refl _) (WkL.cons (Wk1.refl _) WkL.nil))))))))))) (t' := [(5, .agg [.arr .u64 12 [0, 0, 0, 0, 0, 0, 0, 0, 0, 0, 0, 0], .arr .u64 12 [0, 0, 0, 0, 0, 0, 0, 0, 0, 0, 0, 0], .sc (.int .i64 2), .sl 42 (List.map Act.av []) false, .sc (.int .i64 0), .sc (.int .i64 0), .sc (.int .i64 0), .sc (.int .i64 0), .sc (.int .i64 0), .sc (.int .i64 0)]), (4, .agg [.arr .u64 12 [0, 0, 0, 0, 0, 0, 0, 0, 0, 0, 0, 0], .arr .u64 12 [0, 0, 0, 0, 0, 0, 0, 0, 0, 0, 0, 0], .sc (.int .i64 1), .sl 42 (List.map Act.av []) false, .sc (.int .i64 0), .sc (.int .i64 0), .sc (.int .i64 0), .sc (.int .i64 0), .sc (.int .i64 0), .sc (.int .i64 0)])]) (by kernel_rfl) ?_
  refine DK.seg hG 1 [6] (t' := [(6, .sl 34 (List.map Rule.av [({ Match := ({ Value := [0, 0, 0, 0, 0, 0, 0, 0, 0, 0, 0, 0], Care := [0, 0, 0, 0, 0, 0, 0, 0, 0, 0, 0, 0] } : Cube), Prio := 1, Acts := [], Idle := 0, Hard := 0, Owner := 0, Hits := 0, Quiet := 0, Age := 0 } : Rule), ({ Match := ({ Value := [0, 0, 0, 0, 0, 0, 0, 0, 0, 0, 0, 0], Care := [0, 0, 0, 0, 0, 0, 0, 0, 0, 0, 0, 0] } : Cube), Prio := 2, Acts := [], Idle := 0, Hard := 0, Owner := 0, Hits := 0, Quiet := 0, Age := 0 } : Rule)]) true)]) (h' := []) (by kernel_rfl) rfl ?_
  refine DK.op' [7] (t' := [(7, .sl 34 (List.map Rule.av (sortR [({ Match := ({ Value := [0, 0, 0, 0, 0, 0, 0, 0, 0, 0, 0, 0], Care := [0, 0, 0, 0, 0, 0, 0, 0, 0, 0, 0, 0] } : Cube), Prio := 1, Acts := [], Idle := 0, Hard := 0, Owner := 0, Hits := 0, Quiet := 0, Age := 0 } : Rule), ({ Match := ({ Value := [0, 0, 0, 0, 0, 0, 0, 0, 0, 0, 0, 0], Care := [0, 0, 0, 0, 0, 0, 0, 0, 0, 0, 0, 0] } : Cube), Prio := 2, Acts := [], Idle := 0, Hard := 0, Owner := 0, Hits := 0, Quiet := 0, Age := 0 } : Rule)])) true)]) (h' := []) (LSpec.callP' (rule_Sort_ok [({ Match := ({ Value := [0, 0, 0, 0, 0, 0, 0, 0, 0, 0, 0, 0], Care := [0, 0, 0, 0, 0, 0, 0, 0, 0, 0, 0, 0] } : Cube), Prio := 1, Acts := [], Idle := 0, Hard := 0, Owner := 0, Hits := 0, Quiet := 0, Age := 0 } : Rule), ({ Match := ({ Value := [0, 0, 0, 0, 0, 0, 0, 0, 0, 0, 0, 0], Care := [0, 0, 0, 0, 0, 0, 0, 0, 0, 0, 0, 0] } : Cube), Prio := 2, Acts := [], Idle := 0, Hard := 0, Owner := 0, Hits := 0, Quiet := 0, Age := 0 } : Rule)] true) (by kernel_rfl)) (by kernel_rfl) rfl (by kernel_rfl) rfl ?_
  refine DK.seg hG 1 [1] (t' := [(1, .sl 34 (List.map Rule.av (sortR [({ Match := ({ Value := [0, 0, 0, 0, 0, 0, 0, 0, 0, 0, 0, 0], Care := [0, 0, 0, 0, 0, 0, 0, 0, 0, 0, 0, 0] } : Cube), Prio := 1, Acts := [], Idle := 0, Hard := 0, Owner := 0, Hits := 0, Quiet := 0, Age := 0 } : Rule), ({ Match := ({ Value := [0, 0, 0, 0, 0, 0, 0, 0, 0, 0, 0, 0], Care := [0, 0, 0, 0, 0, 0, 0, 0, 0, 0, 0, 0] } : Cube), Prio := 2, Acts := [], Idle := 0, Hard := 0, Owner := 0, Hits := 0, Quiet := 0, Age := 0 } : Rule)])) true)]) (h' := []) (by kernel_rfl) rfl ?_
  refine DK.done (by kernel_rfl) (by kernel_rfl) ?_
  refine AR.seg hG hm 1 [1] (k' := [.code [1, 1, 0], .code [1, 1, 1]]) (t' := [(1, .sl 34 (List.map Rule.av (sortR [({ Match := ({ Value := [0, 0, 0, 0, 0, 0, 0, 0, 0, 0, 0, 0], Care := [0, 0, 0, 0, 0, 0, 0, 0, 0, 0, 0, 0] } : Cube), Prio := 1, Acts := [], Idle := 0, Hard := 0, Owner := 0, Hits := 0, Quiet := 0, Age := 0 } : Rule), ({ Match := ({ Value := [0, 0, 0, 0, 0, 0, 0, 0, 0, 0, 0, 0], Care := [0, 0, 0, 0, 0, 0, 0, 0, 0, 0, 0, 0] } : Cube), Prio := 2, Acts := [], Idle := 0, Hard := 0, Owner := 0, Hits := 0, Quiet := 0, Age := 0 } : Rule)])) true)]) (h' := []) (by kernel_rfl) ?_
  refine AR.reg hm podestalaw05_answers_k1 (by kernel_rfl) ?_
  refine DK.seg hG 2 [1, 9, 10] (t' := [(1, .sl 34 (List.map Rule.av (sortR [({ Match := ({ Value := [0, 0, 0, 0, 0, 0, 0, 0, 0, 0, 0, 0], Care := [0, 0, 0, 0, 0, 0, 0, 0, 0, 0, 0, 0] } : Cube), Prio := 1, Acts := [], Idle := 0, Hard := 0, Owner := 0, Hits := 0, Quiet := 0, Age := 0 } : Rule), ({ Match := ({ Value := [0, 0, 0, 0, 0, 0, 0, 0, 0, 0, 0, 0], Care := [0, 0, 0, 0, 0, 0, 0, 0, 0, 0, 0, 0] } : Cube), Prio := 2, Acts := [], Idle := 0, Hard := 0, Owner := 0, Hits := 0, Quiet := 0, Age := 0 } : Rule)])) true), (9, .sl 34 (List.map Rule.av (sortR [({ Match := ({ Value := [0, 0, 0, 0, 0, 0, 0, 0, 0, 0, 0, 0], Care := [0, 0, 0, 0, 0, 0, 0, 0, 0, 0, 0, 0] } : Cube), Prio := 1, Acts := [], Idle := 0, Hard := 0, Owner := 0, Hits := 0, Quiet := 0, Age := 0 } : Rule), ({ Match := ({ Value := [0, 0, 0, 0, 0, 0, 0, 0, 0, 0, 0, 0], Care := [0, 0, 0, 0, 0, 0, 0, 0, 0, 0, 0, 0] } : Cube), Prio := 2, Acts := [], Idle := 0, Hard := 0, Owner := 0, Hits := 0, Quiet := 0, Age := 0 } : Rule)])) true), (10, .arr .u64 12 [0, 0, 0, 0, 0, 0, 0, 0, 0, 0, 0, 0])]) (h' := []) (by kernel_rfl) rfl ?_
  refine DK.op' [1, 11] (t' := [(1, .sl 34 (List.map Rule.av (sortR [({ Match := ({ Value := [0, 0, 0, 0, 0, 0, 0, 0, 0, 0, 0, 0], Care := [0, 0, 0, 0, 0, 0, 0, 0, 0, 0, 0, 0] } : Cube), Prio := 1, Acts := [], Idle := 0, Hard := 0, Owner := 0, Hits := 0, Quiet := 0, Age := 0 } : Rule), ({ Match := ({ Value := [0, 0, 0, 0, 0, 0, 0, 0, 0, 0, 0, 0], Care := [0, 0, 0, 0, 0, 0, 0, 0, 0, 0, 0, 0] } : Cube), Prio := 2, Acts := [], Idle := 0, Hard := 0, Owner := 0, Hits := 0, Quiet := 0, Age := 0 } : Rule)])) true), (11, .tup [.sc (.int .i64 ((rule_Find (sortR [({ Match := ({ Value := [0, 0, 0, 0, 0, 0, 0, 0, 0, 0, 0, 0], Care := [0, 0, 0, 0, 0, 0, 0, 0, 0, 0, 0, 0] } : Cube), Prio := 1, Acts := [], Idle := 0, Hard := 0, Owner := 0, Hits := 0, Quiet := 0, Age := 0 } : Rule), ({ Match := ({ Value := [0, 0, 0, 0, 0, 0, 0, 0, 0, 0, 0, 0], Care := [0, 0, 0, 0, 0, 0, 0, 0, 0, 0, 0, 0] } : Cube), Prio := 2, Acts := [], Idle := 0, Hard := 0, Owner := 0, Hits := 0, Quiet := 0, Age := 0 } : Rule)]) [0, 0, 0, 0, 0, 0, 0, 0, 0, 0, 0, 0]).1)), .sc (.bool ((rule_Find (sortR [({ Match := ({ Value := [0, 0, 0, 0, 0, 0, 0, 0, 0, 0, 0, 0], Care := [0, 0, 0, 0, 0, 0, 0, 0, 0, 0, 0, 0] } : Cube), Prio := 1, Acts := [], Idle := 0, Hard := 0, Owner := 0, Hits := 0, Quiet := 0, Age := 0 } : Rule), ({ Match := ({ Value := [0, 0, 0, 0, 0, 0, 0, 0, 0, 0, 0, 0], Care := [0, 0, 0, 0, 0, 0, 0, 0, 0, 0, 0, 0] } : Cube), Prio := 2, Acts := [], Idle := 0, Hard := 0, Owner := 0, Hits := 0, Quiet := 0, Age := 0 } : Rule)]) [0, 0, 0, 0, 0, 0, 0, 0, 0, 0, 0, 0]).2))])]) (h' := []) (LSpec.callP' (rule_Find_calls (sortR [({ Match := ({ Value := [0, 0, 0, 0, 0, 0, 0, 0, 0, 0, 0, 0], Care := [0, 0, 0, 0, 0, 0, 0, 0, 0, 0, 0, 0] } : Cube), Prio := 1, Acts := [], Idle := 0, Hard := 0, Owner := 0, Hits := 0, Quiet := 0, Age := 0 } : Rule), ({ Match := ({ Value := [0, 0, 0, 0, 0, 0, 0, 0, 0, 0, 0, 0], Care := [0, 0, 0, 0, 0, 0, 0, 0, 0, 0, 0, 0] } : Cube), Prio := 2, Acts := [], Idle := 0, Hard := 0, Owner := 0, Hits := 0, Quiet := 0, Age := 0 } : Rule)]) [0, 0, 0, 0, 0, 0, 0, 0, 0, 0, 0, 0] true) (by kernel_rfl)) (by kernel_rfl) rfl (by kernel_rfl) rfl ?_
  refine DK.seg hG 5 [1, 2, 3] (t' := [(1, .sl 34 (List.map Rule.av (sortR [({ Match := ({ Value := [0, 0, 0, 0, 0, 0, 0, 0, 0, 0, 0, 0], Care := [0, 0, 0, 0, 0, 0, 0, 0, 0, 0, 0, 0] } : Cube), Prio := 1, Acts := [], Idle := 0, Hard := 0, Owner := 0, Hits := 0, Quiet := 0, Age := 0 } : Rule), ({ Match := ({ Value := [0, 0, 0, 0, 0, 0, 0, 0, 0, 0, 0, 0], Care := [0, 0, 0, 0, 0, 0, 0, 0, 0, 0, 0, 0] } : Cube), Prio := 2, Acts := [], Idle := 0, Hard := 0, Owner := 0, Hits := 0, Quiet := 0, Age := 0 } : Rule)])) true), (2, .sc (.int .i64 ((rule_Find (sortR [({ Match := ({ Value := [0, 0, 0, 0, 0, 0, 0, 0, 0, 0, 0, 0], Care := [0, 0, 0, 0, 0, 0, 0, 0, 0, 0, 0, 0] } : Cube), Prio := 1, Acts := [], Idle := 0, Hard := 0, Owner := 0, Hits := 0, Quiet := 0, Age := 0 } : Rule), ({ Match := ({ Value := [0, 0, 0, 0, 0, 0, 0, 0, 0, 0, 0, 0], Care := [0, 0, 0, 0, 0, 0, 0, 0, 0, 0, 0, 0] } : Cube), Prio := 2, Acts := [], Idle := 0, Hard := 0, Owner := 0, Hits := 0, Quiet := 0, Age := 0 } : Rule)]) [0, 0, 0, 0, 0, 0, 0, 0, 0, 0, 0, 0]).1))), (3, .sc (.bool ((rule_Find (sortR [({ Match := ({ Value := [0, 0, 0, 0, 0, 0, 0, 0, 0, 0, 0, 0], Care := [0, 0, 0, 0, 0, 0, 0, 0, 0, 0, 0, 0] } : Cube), Prio := 1, Acts := [], Idle := 0, Hard := 0, Owner := 0, Hits := 0, Quiet := 0, Age := 0 } : Rule), ({ Match := ({ Value := [0, 0, 0, 0, 0, 0, 0, 0, 0, 0, 0, 0], Care := [0, 0, 0, 0, 0, 0, 0, 0, 0, 0, 0, 0] } : Cube), Prio := 2, Acts := [], Idle := 0, Hard := 0, Owner := 0, Hits := 0, Quiet := 0, Age := 0 } : Rule)]) [0, 0, 0, 0, 0, 0, 0, 0, 0, 0, 0, 0]).2)))]) (h' := []) (by kernel_rfl) rfl ?_
  refine DK.done (by kernel_rfl) (by kernel_rfl) ?_
  refine AR.seg hG hm 1 [1, 2, 3] (k' := [.code [1, 1, 1, 0], .code [1, 1, 1, 1]]) (t' := [(1, .sl 34 (List.map Rule.av (sortR [({ Match := ({ Value := [0, 0, 0, 0, 0, 0, 0, 0, 0, 0, 0, 0], Care := [0, 0, 0, 0, 0, 0, 0, 0, 0, 0, 0, 0] } : Cube), Prio := 1, Acts := [], Idle := 0, Hard := 0, Owner := 0, Hits := 0, Quiet := 0, Age := 0 } : Rule), ({ Match := ({ Value := [0, 0, 0, 0, 0, 0, 0, 0, 0, 0, 0, 0], Care := [0, 0, 0, 0, 0, 0, 0, 0, 0, 0, 0, 0] } : Cube), Prio := 2, Acts := [], Idle := 0, Hard := 0, Owner := 0, Hits := 0, Quiet := 0, Age := 0 } : Rule)])) true), (2, .sc (.int .i64 ((rule_Find (sortR [({ Match := ({ Value := [0, 0, 0, 0, 0, 0, 0, 0, 0, 0, 0, 0], Care := [0, 0, 0, 0, 0, 0, 0, 0, 0, 0, 0, 0] } : Cube), Prio := 1, Acts := [], Idle := 0, Hard := 0, Owner := 0, Hits := 0, Quiet := 0, Age := 0 } : Rule), ({ Match := ({ Value := [0, 0, 0, 0, 0, 0, 0, 0, 0, 0, 0, 0], Care := [0, 0, 0, 0, 0, 0, 0, 0, 0, 0, 0, 0] } : Cube), Prio := 2, Acts := [], Idle := 0, Hard := 0, Owner := 0, Hits := 0, Quiet := 0, Age := 0 } : Rule)]) [0, 0, 0, 0, 0, 0, 0, 0, 0, 0, 0, 0]).1))), (3, .sc (.bool ((rule_Find (sortR [({ Match := ({ Value := [0, 0, 0, 0, 0, 0, 0, 0, 0, 0, 0, 0], Care := [0, 0, 0, 0, 0, 0, 0, 0, 0, 0, 0, 0] } : Cube), Prio := 1, Acts := [], Idle := 0, Hard := 0, Owner := 0, Hits := 0, Quiet := 0, Age := 0 } : Rule), ({ Match := ({ Value := [0, 0, 0, 0, 0, 0, 0, 0, 0, 0, 0, 0], Care := [0, 0, 0, 0, 0, 0, 0, 0, 0, 0, 0, 0] } : Cube), Prio := 2, Acts := [], Idle := 0, Hard := 0, Owner := 0, Hits := 0, Quiet := 0, Age := 0 } : Rule)]) [0, 0, 0, 0, 0, 0, 0, 0, 0, 0, 0, 0]).2)))]) (h' := []) (by kernel_rfl) ?_
  refine AR.reg hm podestalaw05_answers_k2 (by kernel_rfl) ?_
  refine DK.seg hG 4 [1, 2, 3, 17] (t' := [(1, .sl 34 (List.map Rule.av (sortR [({ Match := ({ Value := [0, 0, 0, 0, 0, 0, 0, 0, 0, 0, 0, 0], Care := [0, 0, 0, 0, 0, 0, 0, 0, 0, 0, 0, 0] } : Cube), Prio := 1, Acts := [], Idle := 0, Hard := 0, Owner := 0, Hits := 0, Quiet := 0, Age := 0 } : Rule), ({ Match := ({ Value := [0, 0, 0, 0, 0, 0, 0, 0, 0, 0, 0, 0], Care := [0, 0, 0, 0, 0, 0, 0, 0, 0, 0, 0, 0] } : Cube), Prio := 2, Acts := [], Idle := 0, Hard := 0, Owner := 0, Hits := 0, Quiet := 0, Age := 0 } : Rule)])) true), (2, .sc (.int .i64 ((rule_Find (sortR [({ Match := ({ Value := [0, 0, 0, 0, 0, 0, 0, 0, 0, 0, 0, 0], Care := [0, 0, 0, 0, 0, 0, 0, 0, 0, 0, 0, 0] } : Cube), Prio := 1, Acts := [], Idle := 0, Hard := 0, Owner := 0, Hits := 0, Quiet := 0, Age := 0 } : Rule), ({ Match := ({ Value := [0, 0, 0, 0, 0, 0, 0, 0, 0, 0, 0, 0], Care := [0, 0, 0, 0, 0, 0, 0, 0, 0, 0, 0, 0] } : Cube), Prio := 2, Acts := [], Idle := 0, Hard := 0, Owner := 0, Hits := 0, Quiet := 0, Age := 0 } : Rule)]) [0, 0, 0, 0, 0, 0, 0, 0, 0, 0, 0, 0]).1))), (3, .sc (.bool ((rule_Find (sortR [({ Match := ({ Value := [0, 0, 0, 0, 0, 0, 0, 0, 0, 0, 0, 0], Care := [0, 0, 0, 0, 0, 0, 0, 0, 0, 0, 0, 0] } : Cube), Prio := 1, Acts := [], Idle := 0, Hard := 0, Owner := 0, Hits := 0, Quiet := 0, Age := 0 } : Rule), ({ Match := ({ Value := [0, 0, 0, 0, 0, 0, 0, 0, 0, 0, 0, 0], Care := [0, 0, 0, 0, 0, 0, 0, 0, 0, 0, 0, 0] } : Cube), Prio := 2, Acts := [], Idle := 0, Hard := 0, Owner := 0, Hits := 0, Quiet := 0, Age := 0 } : Rule)]) [0, 0, 0, 0, 0, 0, 0, 0, 0, 0, 0, 0]).2))), (17, .sc (.bool ((((List.map Rule.av (sortR [({ Match := ({ Value := [0, 0, 0, 0, 0, 0, 0, 0, 0, 0, 0, 0], Care := [0, 0, 0, 0, 0, 0, 0, 0, 0, 0, 0, 0] } : Cube), Prio := 1, Acts := [], Idle := 0, Hard := 0, Owner := 0, Hits := 0, Quiet := 0, Age := 0 } : Rule), ({ Match := ({ Value := [0, 0, 0, 0, 0, 0, 0, 0, 0, 0, 0, 0], Care := [0, 0, 0, 0, 0, 0, 0, 0, 0, 0, 0, 0] } : Cube), Prio := 2, Acts := [], Idle := 0, Hard := 0, Owner := 0, Hits := 0, Quiet := 0, Age := 0 } : Rule)])).length : Nat) : Int) == 2)))]) (h' := []) (by kernel_rfl) rfl ?_
  refine DK.mux 17 ((((List.map Rule.av (sortR [({ Match := ({ Value := [0, 0, 0, 0, 0, 0, 0, 0, 0, 0, 0, 0], Care := [0, 0, 0, 0, 0, 0, 0, 0, 0, 0, 0, 0] } : Cube), Prio := 1, Acts := [], Idle := 0, Hard := 0, Owner := 0, Hits := 0, Quiet := 0, Age := 0 } : Rule), ({ Match := ({ Value := [0, 0, 0, 0, 0, 0, 0, 0, 0, 0, 0, 0], Care := [0, 0, 0, 0, 0, 0, 0, 0, 0, 0, 0, 0] } : Cube), Prio := 2, Acts := [], Idle := 0, Hard := 0, Owner := 0, Hits := 0, Quiet := 0, Age := 0 } : Rule)])).length : Nat) : Int) == 2) (j := 6) (h' := []) (by kernel_rfl) (fun z => [(1, .sl 34 (List.map Rule.av (sortR [({ Match := ({ Value := [0, 0, 0, 0, 0, 0, 0, 0, 0, 0, 0, 0], Care := [0, 0, 0, 0, 0, 0, 0, 0, 0, 0, 0, 0] } : Cube), Prio := 1, Acts := [], Idle := 0, Hard := 0, Owner := 0, Hits := 0, Quiet := 0, Age := 0 } : Rule), ({ Match := ({ Value := [0, 0, 0, 0, 0, 0, 0, 0, 0, 0, 0, 0], Care := [0, 0, 0, 0, 0, 0, 0, 0, 0, 0, 0, 0] } : Cube), Prio := 2, Acts := [], Idle := 0, Hard := 0, Owner := 0, Hits := 0, Quiet := 0, Age := 0 } : Rule)])) true), (2, .sc (.int .i64 ((rule_Find (sortR [({ Match := ({ Value := [0, 0, 0, 0, 0, 0, 0, 0, 0, 0, 0, 0], Care := [0, 0, 0, 0, 0, 0, 0, 0, 0, 0, 0, 0] } : Cube), Prio := 1, Acts := [], Idle := 0, Hard := 0, Owner := 0, Hits := 0, Quiet := 0, Age := 0 } : Rule), ({ Match := ({ Value := [0, 0, 0, 0, 0, 0, 0, 0, 0, 0, 0, 0], Care := [0, 0, 0, 0, 0, 0, 0, 0, 0, 0, 0, 0] } : Cube), Prio := 2, Acts := [], Idle := 0, Hard := 0, Owner := 0, Hits := 0, Quiet := 0, Age := 0 } : Rule)]) [0, 0, 0, 0, 0, 0, 0, 0, 0, 0, 0, 0]).1))), (19, .sc (.bool (z && (rule_Find (sortR [({ Match := ({ Value := [0, 0, 0, 0, 0, 0, 0, 0, 0, 0, 0, 0], Care := [0, 0, 0, 0, 0, 0, 0, 0, 0, 0, 0, 0] } : Cube), Prio := 1, Acts := [], Idle := 0, Hard := 0, Owner := 0, Hits := 0, Quiet := 0, Age := 0 } : Rule), ({ Match := ({ Value := [0, 0, 0, 0, 0, 0, 0, 0, 0, 0, 0, 0], Care := [0, 0, 0, 0, 0, 0, 0, 0, 0, 0, 0, 0] } : Cube), Prio := 2, Acts := [], Idle := 0, Hard := 0, Owner := 0, Hits := 0, Quiet := 0, Age := 0 } : Rule)]) [0, 0, 0, 0, 0, 0, 0, 0, 0, 0, 0, 0]).2)))]) ?J1 (fun hb J => ?ht1) (fun hb J => ?hf1)
  case ht1 =>
    exact DK.seg hG 2 [1, 2, 19] (by kernel_rfl) rfl J
  case hf1 =>
    exact DK.seg hG 2 [1, 2, 19] (by kernel_rfl) rfl J
  refine DK.seg hG 1 [1, 2, 20] (t' := [(1, .sl 34 (List.map Rule.av (sortR [({ Match := ({ Value := [0, 0, 0, 0, 0, 0, 0, 0, 0, 0, 0, 0], Care := [0, 0, 0, 0, 0, 0, 0, 0, 0, 0, 0, 0] } : Cube), Prio := 1, Acts := [], Idle := 0, Hard := 0, Owner := 0, Hits := 0, Quiet := 0, Age := 0 } : Rule), ({ Match := ({ Value := [0, 0, 0, 0, 0, 0, 0, 0, 0, 0, 0, 0], Care := [0, 0, 0, 0, 0, 0, 0, 0, 0, 0, 0, 0] } : Cube), Prio := 2, Acts := [], Idle := 0, Hard := 0, Owner := 0, Hits := 0, Quiet := 0, Age := 0 } : Rule)])) true), (2, .sc (.int .i64 ((rule_Find (sortR [({ Match := ({ Value := [0, 0, 0, 0, 0, 0, 0, 0, 0, 0, 0, 0], Care := [0, 0, 0, 0, 0, 0, 0, 0, 0, 0, 0, 0] } : Cube), Prio := 1, Acts := [], Idle := 0, Hard := 0, Owner := 0, Hits := 0, Quiet := 0, Age := 0 } : Rule), ({ Match := ({ Value := [0, 0, 0, 0, 0, 0, 0, 0, 0, 0, 0, 0], Care := [0, 0, 0, 0, 0, 0, 0, 0, 0, 0, 0, 0] } : Cube), Prio := 2, Acts := [], Idle := 0, Hard := 0, Owner := 0, Hits := 0, Quiet := 0, Age := 0 } : Rule)]) [0, 0, 0, 0, 0, 0, 0, 0, 0, 0, 0, 0]).1))), (20, .sc (.bool (((((List.map Rule.av (sortR [({ Match := ({ Value := [0, 0, 0, 0, 0, 0, 0, 0, 0, 0, 0, 0], Care := [0, 0, 0, 0, 0, 0, 0, 0, 0, 0, 0, 0] } : Cube), Prio := 1, Acts := [], Idle := 0, Hard := 0, Owner := 0, Hits := 0, Quiet := 0, Age := 0 } : Rule), ({ Match := ({ Value := [0, 0, 0, 0, 0, 0, 0, 0, 0, 0, 0, 0], Care := [0, 0, 0, 0, 0, 0, 0, 0, 0, 0, 0, 0] } : Cube), Prio := 2, Acts := [], Idle := 0, Hard := 0, Owner := 0, Hits := 0, Quiet := 0, Age := 0 } : Rule)])).length : Nat) : Int) == 2) && (rule_Find (sortR [({ Match := ({ Value := [0, 0, 0, 0, 0, 0, 0, 0, 0, 0, 0, 0], Care := [0, 0, 0, 0, 0, 0, 0, 0, 0, 0, 0, 0] } : Cube), Prio := 1, Acts := [], Idle := 0, Hard := 0, Owner := 0, Hits := 0, Quiet := 0, Age := 0 } : Rule), ({ Match := ({ Value := [0, 0, 0, 0, 0, 0, 0, 0, 0, 0, 0, 0], Care := [0, 0, 0, 0, 0, 0, 0, 0, 0, 0, 0, 0] } : Cube), Prio := 2, Acts := [], Idle := 0, Hard := 0, Owner := 0, Hits := 0, Quiet := 0, Age := 0 } : Rule)]) [0, 0, 0, 0, 0, 0, 0, 0, 0, 0, 0, 0]).2)))]) (h' := []) (by kernel_rfl) rfl ?_
  refine DK.mux 20 (((((List.map Rule.av (sortR [({ Match := ({ Value := [0, 0, 0, 0, 0, 0, 0, 0, 0, 0, 0, 0], Care := [0, 0, 0, 0, 0, 0, 0, 0, 0, 0, 0, 0] } : Cube), Prio := 1, Acts := [], Idle := 0, Hard := 0, Owner := 0, Hits := 0, Quiet := 0, Age := 0 } : Rule), ({ Match := ({ Value := [0, 0, 0, 0, 0, 0, 0, 0, 0, 0, 0, 0], Care := [0, 0, 0, 0, 0, 0, 0, 0, 0, 0, 0, 0] } : Cube), Prio := 2, Acts := [], Idle := 0, Hard := 0, Owner := 0, Hits := 0, Quiet := 0, Age := 0 } : Rule)])).length : Nat) : Int) == 2) && (rule_Find (sortR [({ Match := ({ Value := [0, 0, 0, 0, 0, 0, 0, 0, 0, 0, 0, 0], Care := [0, 0, 0, 0, 0, 0, 0, 0, 0, 0, 0, 0] } : Cube), Prio := 1, Acts := [], Idle := 0, Hard := 0, Owner := 0, Hits := 0, Quiet := 0, Age := 0 } : Rule), ({ Match := ({ Value := [0, 0, 0, 0, 0, 0, 0, 0, 0, 0, 0, 0], Care := [0, 0, 0, 0, 0, 0, 0, 0, 0, 0, 0, 0] } : Cube), Prio := 2, Acts := [], Idle := 0, Hard := 0, Owner := 0, Hits := 0, Quiet := 0, Age := 0 } : Rule)]) [0, 0, 0, 0, 0, 0, 0, 0, 0, 0, 0, 0]).2) (j := 10) (h' := []) (by kernel_rfl) (fun z => [(1, .sl 34 (List.map Rule.av (sortR [({ Match := ({ Value := [0, 0, 0, 0, 0, 0, 0, 0, 0, 0, 0, 0], Care := [0, 0, 0, 0, 0, 0, 0, 0, 0, 0, 0, 0] } : Cube), Prio := 1, Acts := [], Idle := 0, Hard := 0, Owner := 0, Hits := 0, Quiet := 0, Age := 0 } : Rule), ({ Match := ({ Value := [0, 0, 0, 0, 0, 0, 0, 0, 0, 0, 0, 0], Care := [0, 0, 0, 0, 0, 0, 0, 0, 0, 0, 0, 0] } : Cube), Prio := 2, Acts := [], Idle := 0, Hard := 0, Owner := 0, Hits := 0, Quiet := 0, Age := 0 } : Rule)])) true), (23, .sc (.bool (z && ((rule_Find (sortR [({ Match := ({ Value := [0, 0, 0, 0, 0, 0, 0, 0, 0, 0, 0, 0], Care := [0, 0, 0, 0, 0, 0, 0, 0, 0, 0, 0, 0] } : Cube), Prio := 1, Acts := [], Idle := 0, Hard := 0, Owner := 0, Hits := 0, Quiet := 0, Age := 0 } : Rule), ({ Match := ({ Value := [0, 0, 0, 0, 0, 0, 0, 0, 0, 0, 0, 0], Care := [0, 0, 0, 0, 0, 0, 0, 0, 0, 0, 0, 0] } : Cube), Prio := 2, Acts := [], Idle := 0, Hard := 0, Owner := 0, Hits := 0, Quiet := 0, Age := 0 } : Rule)]) [0, 0, 0, 0, 0, 0, 0, 0, 0, 0, 0, 0]).1 == 0))))]) ?J2 (fun hb J => ?ht2) (fun hb J => ?hf2)
  case ht2 =>
    exact DK.seg hG 3 [1, 23] (by kernel_rfl) rfl J
  case hf2 =>
    exact DK.seg hG 3 [1, 23] (by kernel_rfl) rfl J
  refine DK.seg hG 1 [1, 24] (t' := [(1, .sl 34 (List.map Rule.av (sortR [({ Match := ({ Value := [0, 0, 0, 0, 0, 0, 0, 0, 0, 0, 0, 0], Care := [0, 0, 0, 0, 0, 0, 0, 0, 0, 0, 0, 0] } : Cube), Prio := 1, Acts := [], Idle := 0, Hard := 0, Owner := 0, Hits := 0, Quiet := 0, Age := 0 } : Rule), ({ Match := ({ Value := [0, 0, 0, 0, 0, 0, 0, 0, 0, 0, 0, 0], Care := [0, 0, 0, 0, 0, 0, 0, 0, 0, 0, 0, 0] } : Cube), Prio := 2, Acts := [], Idle := 0, Hard := 0, Owner := 0, Hits := 0, Quiet := 0, Age := 0 } : Rule)])) true), (24, .sc (.bool ((((((List.map Rule.av (sortR [({ Match := ({ Value := [0, 0, 0, 0, 0, 0, 0, 0, 0, 0, 0, 0], Care := [0, 0, 0, 0, 0, 0, 0, 0, 0, 0, 0, 0] } : Cube), Prio := 1, Acts := [], Idle := 0, Hard := 0, Owner := 0, Hits := 0, Quiet := 0, Age := 0 } : Rule), ({ Match := ({ Value := [0, 0, 0, 0, 0, 0, 0, 0, 0, 0, 0, 0], Care := [0, 0, 0, 0, 0, 0, 0, 0, 0, 0, 0, 0] } : Cube), Prio := 2, Acts := [], Idle := 0, Hard := 0, Owner := 0, Hits := 0, Quiet := 0, Age := 0 } : Rule)])).length : Nat) : Int) == 2) && (rule_Find (sortR [({ Match := ({ Value := [0, 0, 0, 0, 0, 0, 0, 0, 0, 0, 0, 0], Care := [0, 0, 0, 0, 0, 0, 0, 0, 0, 0, 0, 0] } : Cube), Prio := 1, Acts := [], Idle := 0, Hard := 0, Owner := 0, Hits := 0, Quiet := 0, Age := 0 } : Rule), ({ Match := ({ Value := [0, 0, 0, 0, 0, 0, 0, 0, 0, 0, 0, 0], Care := [0, 0, 0, 0, 0, 0, 0, 0, 0, 0, 0, 0] } : Cube), Prio := 2, Acts := [], Idle := 0, Hard := 0, Owner := 0, Hits := 0, Quiet := 0, Age := 0 } : Rule)]) [0, 0, 0, 0, 0, 0, 0, 0, 0, 0, 0, 0]).2) && ((rule_Find (sortR [({ Match := ({ Value := [0, 0, 0, 0, 0, 0, 0, 0, 0, 0, 0, 0], Care := [0, 0, 0, 0, 0, 0, 0, 0, 0, 0, 0, 0] } : Cube), Prio := 1, Acts := [], Idle := 0, Hard := 0, Owner := 0, Hits := 0, Quiet := 0, Age := 0 } : Rule), ({ Match := ({ Value := [0, 0, 0, 0, 0, 0, 0, 0, 0, 0, 0, 0], Care := [0, 0, 0, 0, 0, 0, 0, 0, 0, 0, 0, 0] } : Cube), Prio := 2, Acts := [], Idle := 0, Hard := 0, Owner := 0, Hits := 0, Quiet := 0, Age := 0 } : Rule)]) [0, 0, 0, 0, 0, 0, 0, 0, 0, 0, 0, 0]).1 == 0))))]) (h' := []) (by kernel_rfl) rfl ?_
  refine DK.split 24 ((((((List.map Rule.av (sortR [({ Match := ({ Value := [0, 0, 0, 0, 0, 0, 0, 0, 0, 0, 0, 0], Care := [0, 0, 0, 0, 0, 0, 0, 0, 0, 0, 0, 0] } : Cube), Prio := 1, Acts := [], Idle := 0, Hard := 0, Owner := 0, Hits := 0, Quiet := 0, Age := 0 } : Rule), ({ Match := ({ Value := [0, 0, 0, 0, 0, 0, 0, 0, 0, 0, 0, 0], Care := [0, 0, 0, 0, 0, 0, 0, 0, 0, 0, 0, 0] } : Cube), Prio := 2, Acts := [], Idle := 0, Hard := 0, Owner := 0, Hits := 0, Quiet := 0, Age := 0 } : Rule)])).length : Nat) : Int) == 2) && (rule_Find (sortR [({ Match := ({ Value := [0, 0, 0, 0, 0, 0, 0, 0, 0, 0, 0, 0], Care := [0, 0, 0, 0, 0, 0, 0, 0, 0, 0, 0, 0] } : Cube), Prio := 1, Acts := [], Idle := 0, Hard := 0, Owner := 0, Hits := 0, Quiet := 0, Age := 0 } : Rule), ({ Match := ({ Value := [0, 0, 0, 0, 0, 0, 0, 0, 0, 0, 0, 0], Care := [0, 0, 0, 0, 0, 0, 0, 0, 0, 0, 0, 0] } : Cube), Prio := 2, Acts := [], Idle := 0, Hard := 0, Owner := 0, Hits := 0, Quiet := 0, Age := 0 } : Rule)]) [0, 0, 0, 0, 0, 0, 0, 0, 0, 0, 0, 0]).2) && ((rule_Find (sortR [({ Match := ({ Value := [0, 0, 0, 0, 0, 0, 0, 0, 0, 0, 0, 0], Care := [0, 0, 0, 0, 0, 0, 0, 0, 0, 0, 0, 0] } : Cube), Prio := 1, Acts := [], Idle := 0, Hard := 0, Owner := 0, Hits := 0, Quiet := 0, Age := 0 } : Rule), ({ Match := ({ Value := [0, 0, 0, 0, 0, 0, 0, 0, 0, 0, 0, 0], Care := [0, 0, 0, 0, 0, 0, 0, 0, 0, 0, 0, 0] } : Cube), Prio := 2, Acts := [], Idle := 0, Hard := 0, Owner := 0, Hits := 0, Quiet := 0, Age := 0 } : Rule)]) [0, 0, 0, 0, 0, 0, 0, 0, 0, 0, 0, 0]).1 == 0)) (by kernel_rfl) (fun hb => ?ht3) (fun hb => ?hf3)
  case ht3 =>
    replace H := cond_t hb H
    refine DK.seg hG 1 [1, 24, 25] (t' := [(1, .sl 34 (List.map Rule.av (sortR [({ Match := ({ Value := [0, 0, 0, 0, 0, 0, 0, 0, 0, 0, 0, 0], Care := [0, 0, 0, 0, 0, 0, 0, 0, 0, 0, 0, 0] } : Cube), Prio := 1, Acts := [], Idle := 0, Hard := 0, Owner := 0, Hits := 0, Quiet := 0, Age := 0 } : Rule), ({ Match := ({ Value := [0, 0, 0, 0, 0, 0, 0, 0, 0, 0, 0, 0], Care := [0, 0, 0, 0, 0, 0, 0, 0, 0, 0, 0, 0] } : Cube), Prio := 2, Acts := [], Idle := 0, Hard := 0, Owner := 0, Hits := 0, Quiet := 0, Age := 0 } : Rule)])) true), (24, .sc (.bool true)), (25, .sl 34 (List.map Rule.av (sortR [({ Match := ({ Value := [0, 0, 0, 0, 0, 0, 0, 0, 0, 0, 0, 0], Care := [0, 0, 0, 0, 0, 0, 0, 0, 0, 0, 0, 0] } : Cube), Prio := 1, Acts := [], Idle := 0, Hard := 0, Owner := 0, Hits := 0, Quiet := 0, Age := 0 } : Rule), ({ Match := ({ Value := [0, 0, 0, 0, 0, 0, 0, 0, 0, 0, 0, 0], Care := [0, 0, 0, 0, 0, 0, 0, 0, 0, 0, 0, 0] } : Cube), Prio := 2, Acts := [], Idle := 0, Hard := 0, Owner := 0, Hits := 0, Quiet := 0, Age := 0 } : Rule)])) true)]) (h' := []) (by kernel_rfl) rfl ?_
    obtain ⟨x, hv, H⟩ := Option.bind_eq_some_iff.1 H
    refine DK.op' [1, 24, 26] (t' := [(1, .sl 34 (List.map Rule.av (sortR [({ Match := ({ Value := [0, 0, 0, 0, 0, 0, 0, 0, 0, 0, 0, 0], Care := [0, 0, 0, 0, 0, 0, 0, 0, 0, 0, 0, 0] } : Cube), Prio := 1, Acts := [], Idle := 0, Hard := 0, Owner := 0, Hits := 0, Quiet := 0, Age := 0 } : Rule), ({ Match := ({ Value := [0, 0, 0, 0, 0, 0, 0, 0, 0, 0, 0, 0], Care := [0, 0, 0, 0, 0, 0, 0, 0, 0, 0, 0, 0] } : Cube), Prio := 2, Acts := [], Idle := 0, Hard := 0, Owner := 0, Hits := 0, Quiet := 0, Age := 0 } : Rule)])) true), (24, .sc (.bool true)), (26, .ep [.arr .u64 12 x.Match.Value, .arr .u64 12 x.Match.Care, .sc (.int .i64 x.Prio), .sl 42 (List.map Act.av x.Acts) false, .sc (.int .i64 x.Idle), .sc (.int .i64 x.Hard), .sc (.int .i64 x.Owner), .sc (.int .i64 x.Hits), .sc (.int .i64 x.Quiet), .sc (.int .i64 x.Age)] 0 none)]) (h' := []) (LSpec.index' (r := Rule.av x) (fs := [.arr .u64 12 x.Match.Value, .arr .u64 12 x.Match.Care, .sc (.int .i64 x.Prio), .sl 42 (List.map Act.av x.Acts) false, .sc (.int .i64 x.Idle), .sc (.int .i64 x.Hard), .sc (.int .i64 x.Owner), .sc (.int .i64 x.Hits), .sc (.int .i64 x.Quiet), .sc (.int .i64 x.Age)]) hG (rows := List.map Rule.av (sortR [({ Match := ({ Value := [0, 0, 0, 0, 0, 0, 0, 0, 0, 0, 0, 0], Care := [0, 0, 0, 0, 0, 0, 0, 0, 0, 0, 0, 0] } : Cube), Prio := 1, Acts := [], Idle := 0, Hard := 0, Owner := 0, Hits := 0, Quiet := 0, Age := 0 } : Rule), ({ Match := ({ Value := [0, 0, 0, 0, 0, 0, 0, 0, 0, 0, 0, 0], Care := [0, 0, 0, 0, 0, 0, 0, 0, 0, 0, 0, 0] } : Cube), Prio := 2, Acts := [], Idle := 0, Hard := 0, Owner := 0, Hits := 0, Quiet := 0, Age := 0 } : Rule)])) (j := 0) (by kernel_rfl) (ixO_map hv _) (by kernel_rfl)) (by kernel_rfl) rfl (by kernel_rfl) rfl ?_
    refine DK.seg hG 5 [1, 31] (t' := [(1, .sl 34 (List.map Rule.av (sortR [({ Match := ({ Value := [0, 0, 0, 0, 0, 0, 0, 0, 0, 0, 0, 0], Care := [0, 0, 0, 0, 0, 0, 0, 0, 0, 0, 0, 0] } : Cube), Prio := 1, Acts := [], Idle := 0, Hard := 0, Owner := 0, Hits := 0, Quiet := 0, Age := 0 } : Rule), ({ Match := ({ Value := [0, 0, 0, 0, 0, 0, 0, 0, 0, 0, 0, 0], Care := [0, 0, 0, 0, 0, 0, 0, 0, 0, 0, 0, 0] } : Cube), Prio := 2, Acts := [], Idle := 0, Hard := 0, Owner := 0, Hits := 0, Quiet := 0, Age := 0 } : Rule)])) true), (31, .sc (.bool (x.Prio == 2)))]) (h' := []) (by kernel_rfl) rfl ?_
    refine DK.split 31 (x.Prio == 2) (by kernel_rfl) (fun hb => ?ht4) (fun hb => ?hf4)
    case ht4 =>
      replace H := cond_t hb H
      refine DK.seg hG 1 [31, 32] (t' := [(31, .sc (.bool true)), (32, .sl 34 (List.map Rule.av (sortR [({ Match := ({ Value := [0, 0, 0, 0, 0, 0, 0, 0, 0, 0, 0, 0], Care := [0, 0, 0, 0, 0, 0, 0, 0, 0, 0, 0, 0] } : Cube), Prio := 1, Acts := [], Idle := 0, Hard := 0, Owner := 0, Hits := 0, Quiet := 0, Age := 0 } : Rule), ({ Match := ({ Value := [0, 0, 0, 0, 0, 0, 0, 0, 0, 0, 0, 0], Care := [0, 0, 0, 0, 0, 0, 0, 0, 0, 0, 0, 0] } : Cube), Prio := 2, Acts := [], Idle := 0, Hard := 0, Owner := 0, Hits := 0, Quiet := 0, Age := 0 } : Rule)])) true)]) (h' := []) (by kernel_rfl) rfl ?_
      obtain ⟨x1, hv, H⟩ := Option.bind_eq_some_iff.1 H
      refine DK.op' [31, 33] (t' := [(31, .sc (.bool true)), (33, .ep [.arr .u64 12 x1.Match.Value, .arr .u64 12 x1.Match.Care, .sc (.int .i64 x1.Prio), .sl 42 (List.map Act.av x1.Acts) false, .sc (.int .i64 x1.Idle), .sc (.int .i64 x1.Hard), .sc (.int .i64 x1.Owner), .sc (.int .i64 x1.Hits), .sc (.int .i64 x1.Quiet), .sc (.int .i64 x1.Age)] 0 none)]) (h' := []) (LSpec.index' (r := Rule.av x1) (fs := [.arr .u64 12 x1.Match.Value, .arr .u64 12 x1.Match.Care, .sc (.int .i64 x1.Prio), .sl 42 (List.map Act.av x1.Acts) false, .sc (.int .i64 x1.Idle), .sc (.int .i64 x1.Hard), .sc (.int .i64 x1.Owner), .sc (.int .i64 x1.Hits), .sc (.int .i64 x1.Quiet), .sc (.int .i64 x1.Age)]) hG (rows := List.map Rule.av (sortR [({ Match := ({ Value := [0, 0, 0, 0, 0, 0, 0, 0, 0, 0, 0, 0], Care := [0, 0, 0, 0, 0, 0, 0, 0, 0, 0, 0, 0] } : Cube), Prio := 1, Acts := [], Idle := 0, Hard := 0, Owner := 0, Hits := 0, Quiet := 0, Age := 0 } : Rule), ({ Match := ({ Value := [0, 0, 0, 0, 0, 0, 0, 0, 0, 0, 0, 0], Care := [0, 0, 0, 0, 0, 0, 0, 0, 0, 0, 0, 0] } : Cube), Prio := 2, Acts := [], Idle := 0, Hard := 0, Owner := 0, Hits := 0, Quiet := 0, Age := 0 } : Rule)])) (j := 0) (by kernel_rfl) (ixO_map hv _) (by kernel_rfl)) (by kernel_rfl) rfl (by kernel_rfl) rfl ?_
      refine DK.seg hG 1 [31, 34] (t' := [(31, .sc (.bool true)), (34, Rule.av x1)]) (h' := []) (by kernel_rfl) rfl ?_
      refine DK.op' [31, 35] (t' := [(31, .sc (.bool true)), (35, .sc (.bool (rule_Sound x1)))]) (h' := []) (LSpec.callP' (rule_Sound_calls x1) (by kernel_rfl)) (by kernel_rfl) rfl (by kernel_rfl) rfl ?_
      refine DK.seg hG 2 [0] (t' := [(0, .sc (.bool (rule_Sound x1)))]) (h' := []) (by kernel_rfl) rfl ?_
      refine DK.done (by kernel_rfl) (by kernel_rfl) ?_
      obtain rfl := Option.some.inj H
      exact AR.ret0 (fn := Try.f10) hG Try.func10 (by kernel_rfl) hc0 (r0 := .sc (.bool (rule_Sound x1))) (by kernel_rfl) (WkV.refl _)
    case hf4 =>
      replace H := cond_f hb H
      refine DK.seg hG 6 [0] (t' := [(0, .sc (.bool false))]) (h' := []) (by kernel_rfl) rfl ?_
      refine DK.done (by kernel_rfl) (by kernel_rfl) ?_
      obtain rfl := Option.some.inj H
      exact AR.ret0 (fn := Try.f10) hG Try.func10 (by kernel_rfl) hc0 (r0 := .sc (.bool false)) (by kernel_rfl) (WkV.refl _)
  case hf3 =>
    replace H := cond_f hb H
    refine DK.seg hG 13 [0] (t' := [(0, .sc (.bool false))]) (h' := []) (by kernel_rfl) rfl ?_
    refine DK.done (by kernel_rfl) (by kernel_rfl) ?_
    obtain rfl := Option.some.inj H
    exact AR.ret0 (fn := Try.f10) hG Try.func10 (by kernel_rfl) hc0 (r0 := .sc (.bool false)) (by kernel_rfl) (WkV.refl _)

theorem podestalaw05_answers_ok : ACalls Try.prog tab.S 10 [] [] (.sc (.bool true)) [] := podestalaw05_answers_walk true (by kernel_rfl)
end Go.Proofs.Ytadolbhmdimbkaa

set_option linter.unusedVariables false
set_option linter.unusedSimpArgs false
set_option maxRecDepth 100000
set_option maxHeartbeats 4000000
namespace Go.Proofs.Ytadolbhmdimbkaa
open Go.Sh
/-! ### podestalaw05.RuleOrder: function 4 -/
noncomputable def podestalaw05_RuleOrder_F : Go.Sh.Fn := ⟨4, bodyOf Try.f4, 45⟩
def podestalaw05_RuleOrder_k1 : List Kd := [.pure, .pure, .pure, .pure, .pure, .pure, .pure, .pure, .pure, .pure, .pure, .pure, .pure, .pure, .pure, .pure, .read, .read, .pure, .pure, .pure, .read, .read, .pure, .pure, .pure, .pure]
def podestalaw05_RuleOrder_k0 : List Kd := [.read, .read, .pure, .read, .read, .pure, .read, .read, .pure, .pure, .pure, .pure]
def podestalaw05_RuleOrder (a : Rule) (b : Rule) (c : Rule) : Bool :=
  ((((!(rule_Before a b)) || (!(rule_Before b c))) || (rule_Before a c)) && (((!(rule_Before a b)) && (!(rule_Before b a))) == (rule_Key a b)))
theorem podestalaw05_RuleOrder_walk (a : Rule) (b : Rule) (c : Rule) (r : Bool) (H : podestalaw05_RuleOrder a b c = r) :
    ACalls Try.prog tab.S 4 [Rule.av a, Rule.av b, Rule.av c] [] (.sc (.bool r)) [] := by
  have hG := tab_ok
  have hm := mixed
  refine ACalls.of_AR (G := tab) podestalaw05_RuleOrder_F (fn := Try.f4) Try.func4 (by kernel_rfl) (by kernel_rfl) (by kernel_rfl) (Nat.le_of_ble_eq_true (by kernel_rfl)) ?_
  intro c0 hc0
  replace hc0 : c0.m.length = 0 := hc0
  rw [podestalaw05_RuleOrder] at H
  refine AR.seg hG hm 3 [3, 4, 5] (k' := [.code [1, 0], .code [1, 1]]) (t' := [(3, .ptr 0 0 none), (4, .ptr 1 0 none), (5, .ptr 2 0 none)]) (h' := [.box 34 [.arr .u64 12 a.Match.Value, .arr .u64 12 a.Match.Care, .sc (.int .i64 a.Prio), .sl 42 (List.map Act.av a.Acts) false, .sc (.int .i64 a.Idle), .sc (.int .i64 a.Hard), .sc (.int .i64 a.Owner), .sc (.int .i64 a.Hits), .sc (.int .i64 a.Quiet), .sc (.int .i64 a.Age)], .box 34 [.arr .u64 12 b.Match.Value, .arr .u64 12 b.Match.Care, .sc (.int .i64 b.Prio), .sl 42 (List.map Act.av b.Acts) false, .sc (.int .i64 b.Idle), .sc (.int .i64 b.Hard), .sc (.int .i64 b.Owner), .sc (.int .i64 b.Hits), .sc (.int .i64 b.Quiet), .sc (.int .i64 b.Age)], .box 34 [.arr .u64 12 c.Match.Value, .arr .u64 12 c.Match.Care, .sc (.int .i64 c.Prio), .sl 42 (List.map Act.av c.Acts) false, .sc (.int .i64 c.Idle), .sc (.int .i64 c.Hard), .sc (.int .i64 c.Owner), .sc (.int .i64 c.Hits), .sc (.int .i64 c.Quiet), .sc (.int .i64 c.Age)]]) (by kernel_rfl) ?_
  refine AR.reg hm podestalaw05_RuleOrder_k0 (by kernel_rfl) ?_
  refine DK.seg hG 2 [3, 4, 5, 10, 11] (t' := [(3, .ptr 0 0 none), (4, .ptr 1 0 none), (5, .ptr 2 0 none), (10, Rule.av a), (11, Rule.av b)]) (h' := [.box 34 [.arr .u64 12 a.Match.Value, .arr .u64 12 a.Match.Care, .sc (.int .i64 a.Prio), .sl 42 (List.map Act.av a.Acts) false, .sc (.int .i64 a.Idle), .sc (.int .i64 a.Hard), .sc (.int .i64 a.Owner), .sc (.int .i64 a.Hits), .sc (.int .i64 a.Quiet), .sc (.int .i64 a.Age)], .box 34 [.arr .u64 12 b.Match.Value, .arr .u64 12 b.Match.Care, .sc (.int .i64 b.Prio), .sl 42 (List.map Act.av b.Acts) false, .sc (.int .i64 b.Idle), .sc (.int .i64 b.Hard), .sc (.int .i64 b.Owner), .sc (.int .i64 b.Hits), .sc (.int .i64 b.Quiet), .sc (.int .i64 b.Age)], .box 34 [.arr .u64 12 c.Match.Value, .arr .u64 12 c.Match.Care, .sc (.int .i64 c.Prio), .sl 42 (List.map Act.av c.Acts) false, .sc (.int .i64 c.Idle), .sc (.int .i64 c.Hard), .sc (.int .i64 c.Owner), .sc (.int .i64 c.Hits), .sc (.int .i64 c.Quiet), .sc (.int .i64 c.Age)]]) (by kernel_rfl) rfl ?_
  refine DK.op' [3, 4, 5, 12] (t' := [(3, .ptr 0 0 none), (4, .ptr 1 0 none), (5, .ptr 2 0 none), (12, .sc (.bool (rule_Before a b)))]) (h' := [.box 34 [.arr .u64 12 a.Match.Value, .arr .u64 12 a.Match.Care, .sc (.int .i64 a.Prio), .sl 42 (List.map Act.av a.Acts) false, .sc (.int .i64 a.Idle), .sc (.int .i64 a.Hard), .sc (.int .i64 a.Owner), .sc (.int .i64 a.Hits), .sc (.int .i64 a.Quiet), .sc (.int .i64 a.Age)], .box 34 [.arr .u64 12 b.Match.Value, .arr .u64 12 b.Match.Care, .sc (.int .i64 b.Prio), .sl 42 (List.map Act.av b.Acts) false, .sc (.int .i64 b.Idle), .sc (.int .i64 b.Hard), .sc (.int .i64 b.Owner), .sc (.int .i64 b.Hits), .sc (.int .i64 b.Quiet), .sc (.int .i64 b.Age)], .box 34 [.arr .u64 12 c.Match.Value, .arr .u64 12 c.Match.Care, .sc (.int .i64 c.Prio), .sl 42 (List.map Act.av c.Acts) false, .sc (.int .i64 c.Idle), .sc (.int .i64 c.Hard), .sc (.int .i64 c.Owner), .sc (.int .i64 c.Hits), .sc (.int .i64 c.Quiet), .sc (.int .i64 c.Age)]]) (LSpec.callP' (rule_Before_calls a b) (by kernel_rfl)) (by kernel_rfl) rfl (by kernel_rfl) rfl ?_
  refine DK.seg hG 2 [3, 4, 5, 12, 13, 14] (t' := [(3, .ptr 0 0 none), (4, .ptr 1 0 none), (5, .ptr 2 0 none), (12, .sc (.bool (rule_Before a b))), (13, Rule.av b), (14, Rule.av c)]) (h' := [.box 34 [.arr .u64 12 a.Match.Value, .arr .u64 12 a.Match.Care, .sc (.int .i64 a.Prio), .sl 42 (List.map Act.av a.Acts) false, .sc (.int .i64 a.Idle), .sc (.int .i64 a.Hard), .sc (.int .i64 a.Owner), .sc (.int .i64 a.Hits), .sc (.int .i64 a.Quiet), .sc (.int .i64 a.Age)], .box 34 [.arr .u64 12 b.Match.Value, .arr .u64 12 b.Match.Care, .sc (.int .i64 b.Prio), .sl 42 (List.map Act.av b.Acts) false, .sc (.int .i64 b.Idle), .sc (.int .i64 b.Hard), .sc (.int .i64 b.Owner), .sc (.int .i64 b.Hits), .sc (.int .i64 b.Quiet), .sc (.int .i64 b.Age)], .box 34 [.arr .u64 12 c.Match.Value, .arr .u64 12 c.Match.Care, .sc (.int .i64 c.Prio), .sl 42 (List.map Act.av c.Acts) false, .sc (.int .i64 c.Idle), .sc (.int .i64 c.Hard), .sc (.int .i64 c.Owner), .sc (.int .i64 c.Hits), .sc (.int .i64 c.Quiet), .sc (.int .i64 c.Age)]]) (by kernel_rfl) rfl ?_
  refine DK.op' [3, 4, 5, 12, 15] (t' := [(3, .ptr 0 0 none), (4, .ptr 1 0 none), (5, .ptr 2 0 none), (12, .sc (.bool (rule_Before a b))), (15, .sc (.bool (rule_Before b c)))]) (h' := [.box 34 [.arr .u64 12 a.Match.Value, .arr .u64 12 a.Match.Care, .sc (.int .i64 a.Prio), .sl 42 (List.map Act.av a.Acts) false, .sc (.int .i64 a.Idle), .sc (.int .i64 a.Hard), .sc (.int .i64 a.Owner), .sc (.int .i64 a.Hits), .sc (.int .i64 a.Quiet), .sc (.int .i64 a.Age)], .box 34 [.arr .u64 12 b.Match.Value, .arr .u64 12 b.Match.Care, .sc (.int .i64 b.Prio), .sl 42 (List.map Act.av b.Acts) false, .sc (.int .i64 b.Idle), .sc (.int .i64 b.Hard), .sc (.int .i64 b.Owner), .sc (.int .i64 b.Hits), .sc (.int .i64 b.Quiet), .sc (.int .i64 b.Age)], .box 34 [.arr .u64 12 c.Match.Value, .arr .u64 12 c.Match.Care, .sc (.int .i64 c.Prio), .sl 42 (List.map Act.av c.Acts) false, .sc (.int .i64 c.Idle), .sc (.int .i64 c.Hard), .sc (.int .i64 c.Owner), .sc (.int .i64 c.Hits), .sc (.int .i64 c.Quiet), .sc (.int .i64 c.Age)]]) (LSpec.callP' (rule_Before_calls b c) (by kernel_rfl)) (by kernel_rfl) rfl (by kernel_rfl) rfl ?_
  refine DK.seg hG 2 [3, 4, 12, 15, 16, 17] (t' := [(3, .ptr 0 0 none), (4, .ptr 1 0 none), (12, .sc (.bool (rule_Before a b))), (15, .sc (.bool (rule_Before b c))), (16, Rule.av a), (17, Rule.av c)]) (h' := [.box 34 [.arr .u64 12 a.Match.Value, .arr .u64 12 a.Match.Care, .sc (.int .i64 a.Prio), .sl 42 (List.map Act.av a.Acts) false, .sc (.int .i64 a.Idle), .sc (.int .i64 a.Hard), .sc (.int .i64 a.Owner), .sc (.int .i64 a.Hits), .sc (.int .i64 a.Quiet), .sc (.int .i64 a.Age)], .box 34 [.arr .u64 12 b.Match.Value, .arr .u64 12 b.Match.Care, .sc (.int .i64 b.Prio), .sl 42 (List.map Act.av b.Acts) false, .sc (.int .i64 b.Idle), .sc (.int .i64 b.Hard), .sc (.int .i64 b.Owner), .sc (.int .i64 b.Hits), .sc (.int .i64 b.Quiet), .sc (.int .i64 b.Age)], .box 34 [.arr .u64 12 c.Match.Value, .arr .u64 12 c.Match.Care, .sc (.int .i64 c.Prio), .sl 42 (List.map Act.av c.Acts) false, .sc (.int .i64 c.Idle), .sc (.int .i64 c.Hard), .sc (.int .i64 c.Owner), .sc (.int .i64 c.Hits), .sc (.int .i64 c.Quiet), .sc (.int .i64 c.Age)]]) (by kernel_rfl) rfl ?_
  refine DK.op' [3, 4, 12, 15, 18] (t' := [(3, .ptr 0 0 none), (4, .ptr 1 0 none), (12, .sc (.bool (rule_Before a b))), (15, .sc (.bool (rule_Before b c))), (18, .sc (.bool (rule_Before a c)))]) (h' := [.box 34 [.arr .u64 12 a.Match.Value, .arr .u64 12 a.Match.Care, .sc (.int .i64 a.Prio), .sl 42 (List.map Act.av a.Acts) false, .sc (.int .i64 a.Idle), .sc (.int .i64 a.Hard), .sc (.int .i64 a.Owner), .sc (.int .i64 a.Hits), .sc (.int .i64 a.Quiet), .sc (.int .i64 a.Age)], .box 34 [.arr .u64 12 b.Match.Value, .arr .u64 12 b.Match.Care, .sc (.int .i64 b.Prio), .sl 42 (List.map Act.av b.Acts) false, .sc (.int .i64 b.Idle), .sc (.int .i64 b.Hard), .sc (.int .i64 b.Owner), .sc (.int .i64 b.Hits), .sc (.int .i64 b.Quiet), .sc (.int .i64 b.Age)], .box 34 [.arr .u64 12 c.Match.Value, .arr .u64 12 c.Match.Care, .sc (.int .i64 c.Prio), .sl 42 (List.map Act.av c.Acts) false, .sc (.int .i64 c.Idle), .sc (.int .i64 c.Hard), .sc (.int .i64 c.Owner), .sc (.int .i64 c.Hits), .sc (.int .i64 c.Quiet), .sc (.int .i64 c.Age)]]) (LSpec.callP' (rule_Before_calls a c) (by kernel_rfl)) (by kernel_rfl) rfl (by kernel_rfl) rfl ?_
  refine DK.seg hG 3 [3, 4, 7, 8, 9] (t' := [(3, .ptr 0 0 none), (4, .ptr 1 0 none), (7, .sc (.bool (rule_Before a b))), (8, .sc (.bool (rule_Before b c))), (9, .sc (.bool (rule_Before a c)))]) (h' := [.box 34 [.arr .u64 12 a.Match.Value, .arr .u64 12 a.Match.Care, .sc (.int .i64 a.Prio), .sl 42 (List.map Act.av a.Acts) false, .sc (.int .i64 a.Idle), .sc (.int .i64 a.Hard), .sc (.int .i64 a.Owner), .sc (.int .i64 a.Hits), .sc (.int .i64 a.Quiet), .sc (.int .i64 a.Age)], .box 34 [.arr .u64 12 b.Match.Value, .arr .u64 12 b.Match.Care, .sc (.int .i64 b.Prio), .sl 42 (List.map Act.av b.Acts) false, .sc (.int .i64 b.Idle), .sc (.int .i64 b.Hard), .sc (.int .i64 b.Owner), .sc (.int .i64 b.Hits), .sc (.int .i64 b.Quiet), .sc (.int .i64 b.Age)], .box 34 [.arr .u64 12 c.Match.Value, .arr .u64 12 c.Match.Care, .sc (.int .i64 c.Prio), .sl 42 (List.map Act.av c.Acts) false, .sc (.int .i64 c.Idle), .sc (.int .i64 c.Hard), .sc (.int .i64 c.Owner), .sc (.int .i64 c.Hits), .sc (.int .i64 c.Quiet), .sc (.int .i64 c.Age)]]) (by kernel_rfl) rfl ?_
  refine DK.done (by kernel_rfl) (by kernel_rfl) ?_
  refine AR.seg hG hm 1 [3, 4, 7, 8, 9] (k' := [.code [1, 1, 0], .code [1, 1, 1]]) (t' := [(3, .ptr 0 0 none), (4, .ptr 1 0 none), (7, .sc (.bool (rule_Before a b))), (8, .sc (.bool (rule_Before b c))), (9, .sc (.bool (rule_Before a c)))]) (h' := [.box 34 [.arr .u64 12 a.Match.Value, .arr .u64 12 a.Match.Care, .sc (.int .i64 a.Prio), .sl 42 (List.map Act.av a.Acts) false, .sc (.int .i64 a.Idle), .sc (.int .i64 a.Hard), .sc (.int .i64 a.Owner), .sc (.int .i64 a.Hits), .sc (.int .i64 a.Quiet), .sc (.int .i64 a.Age)], .box 34 [.arr .u64 12 b.Match.Value, .arr .u64 12 b.Match.Care, .sc (.int .i64 b.Prio), .sl 42 (List.map Act.av b.Acts) false, .sc (.int .i64 b.Idle), .sc (.int .i64 b.Hard), .sc (.int .i64 b.Owner), .sc (.int .i64 b.Hits), .sc (.int .i64 b.Quiet), .sc (.int .i64 b.Age)], .box 34 [.arr .u64 12 c.Match.Value, .arr .u64 12 c.Match.Care, .sc (.int .i64 c.Prio), .sl 42 (List.map Act.av c.Acts) false, .sc (.int .i64 c.Idle), .sc (.int .i64 c.Hard), .sc (.int .i64 c.Owner), .sc (.int .i64 c.Hits), .sc (.int .i64 c.Quiet), .sc (.int .i64 c.Age)]]) (by kernel_rfl) ?_
  refine AR.reg hm podestalaw05_RuleOrder_k1 (by kernel_rfl) ?_
  refine DK.op' [3, 4, 7, 8, 9, 19] (t' := [(3, .ptr 0 0 none), (4, .ptr 1 0 none), (7, .sc (.bool (rule_Before a b))), (8, .sc (.bool (rule_Before b c))), (9, .sc (.bool (rule_Before a c))), (19, .sc (.bool true))]) (h' := [.box 34 [.arr .u64 12 a.Match.Value, .arr .u64 12 a.Match.Care, .sc (.int .i64 a.Prio), .sl 42 (List.map Act.av a.Acts) false, .sc (.int .i64 a.Idle), .sc (.int .i64 a.Hard), .sc (.int .i64 a.Owner), .sc (.int .i64 a.Hits), .sc (.int .i64 a.Quiet), .sc (.int .i64 a.Age)], .box 34 [.arr .u64 12 b.Match.Value, .arr .u64 12 b.Match.Care, .sc (.int .i64 b.Prio), .sl 42 (List.map Act.av b.Acts) false, .sc (.int .i64 b.Idle), .sc (.int .i64 b.Hard), .sc (.int .i64 b.Owner), .sc (.int .i64 b.Hits), .sc (.int .i64 b.Quiet), .sc (.int .i64 b.Age)], .box 34 [.arr .u64 12 c.Match.Value, .arr .u64 12 c.Match.Care, .sc (.int .i64 c.Prio), .sl 42 (List.map Act.av c.Acts) false, .sc (.int .i64 c.Idle), .sc (.int .i64 c.Hard), .sc (.int .i64 c.Owner), .sc (.int .i64 c.Hits), .sc (.int .i64 c.Quiet), .sc (.int .i64 c.Age)]]) (LSpec.callP' (podestalaw05_answers_ok) (by kernel_rfl)) (by kernel_rfl) rfl (by kernel_rfl) rfl ?_
  refine DK.seg hG 4 [3, 4, 7, 8, 9, 20, 23] (t' := [(3, .ptr 0 0 none), (4, .ptr 1 0 none), (7, .sc (.bool (rule_Before a b))), (8, .sc (.bool (rule_Before b c))), (9, .sc (.bool (rule_Before a c))), (20, .sc (.bool true)), (23, .sc (.bool (!(rule_Before a b))))]) (h' := [.box 34 [.arr .u64 12 a.Match.Value, .arr .u64 12 a.Match.Care, .sc (.int .i64 a.Prio), .sl 42 (List.map Act.av a.Acts) false, .sc (.int .i64 a.Idle), .sc (.int .i64 a.Hard), .sc (.int .i64 a.Owner), .sc (.int .i64 a.Hits), .sc (.int .i64 a.Quiet), .sc (.int .i64 a.Age)], .box 34 [.arr .u64 12 b.Match.Value, .arr .u64 12 b.Match.Care, .sc (.int .i64 b.Prio), .sl 42 (List.map Act.av b.Acts) false, .sc (.int .i64 b.Idle), .sc (.int .i64 b.Hard), .sc (.int .i64 b.Owner), .sc (.int .i64 b.Hits), .sc (.int .i64 b.Quiet), .sc (.int .i64 b.Age)], .box 34 [.arr .u64 12 c.Match.Value, .arr .u64 12 c.Match.Care, .sc (.int .i64 c.Prio), .sl 42 (List.map Act.av c.Acts) false, .sc (.int .i64 c.Idle), .sc (.int .i64 c.Hard), .sc (.int .i64 c.Owner), .sc (.int .i64 c.Hits), .sc (.int .i64 c.Quiet), .sc (.int .i64 c.Age)]]) (by kernel_rfl) rfl ?_
  refine DK.mux 23 (!(rule_Before a b)) (j := 8) (h' := [.box 34 [.arr .u64 12 a.Match.Value, .arr .u64 12 a.Match.Care, .sc (.int .i64 a.Prio), .sl 42 (List.map Act.av a.Acts) false, .sc (.int .i64 a.Idle), .sc (.int .i64 a.Hard), .sc (.int .i64 a.Owner), .sc (.int .i64 a.Hits), .sc (.int .i64 a.Quiet), .sc (.int .i64 a.Age)], .box 34 [.arr .u64 12 b.Match.Value, .arr .u64 12 b.Match.Care, .sc (.int .i64 b.Prio), .sl 42 (List.map Act.av b.Acts) false, .sc (.int .i64 b.Idle), .sc (.int .i64 b.Hard), .sc (.int .i64 b.Owner), .sc (.int .i64 b.Hits), .sc (.int .i64 b.Quiet), .sc (.int .i64 b.Age)], .box 34 [.arr .u64 12 c.Match.Value, .arr .u64 12 c.Match.Care, .sc (.int .i64 c.Prio), .sl 42 (List.map Act.av c.Acts) false, .sc (.int .i64 c.Idle), .sc (.int .i64 c.Hard), .sc (.int .i64 c.Owner), .sc (.int .i64 c.Hits), .sc (.int .i64 c.Quiet), .sc (.int .i64 c.Age)]]) (by kernel_rfl) (fun z => [(3, .ptr 0 0 none), (4, .ptr 1 0 none), (7, .sc (.bool (rule_Before a b))), (9, .sc (.bool (rule_Before a c))), (20, .sc (.bool true)), (26, .sc (.bool (z || (!(rule_Before b c)))))]) ?J1 (fun hb J => ?ht1) (fun hb J => ?hf1)
  case ht1 =>
    exact DK.seg hG 3 [3, 4, 7, 9, 20, 26] (by kernel_rfl) rfl J
  case hf1 =>
    exact DK.seg hG 3 [3, 4, 7, 9, 20, 26] (by kernel_rfl) rfl J
  refine DK.seg hG 1 [3, 4, 7, 9, 20, 27] (t' := [(3, .ptr 0 0 none), (4, .ptr 1 0 none), (7, .sc (.bool (rule_Before a b))), (9, .sc (.bool (rule_Before a c))), (20, .sc (.bool true)), (27, .sc (.bool ((!(rule_Before a b)) || (!(rule_Before b c)))))]) (h' := [.box 34 [.arr .u64 12 a.Match.Value, .arr .u64 12 a.Match.Care, .sc (.int .i64 a.Prio), .sl 42 (List.map Act.av a.Acts) false, .sc (.int .i64 a.Idle), .sc (.int .i64 a.Hard), .sc (.int .i64 a.Owner), .sc (.int .i64 a.Hits), .sc (.int .i64 a.Quiet), .sc (.int .i64 a.Age)], .box 34 [.arr .u64 12 b.Match.Value, .arr .u64 12 b.Match.Care, .sc (.int .i64 b.Prio), .sl 42 (List.map Act.av b.Acts) false, .sc (.int .i64 b.Idle), .sc (.int .i64 b.Hard), .sc (.int .i64 b.Owner), .sc (.int .i64 b.Hits), .sc (.int .i64 b.Quiet), .sc (.int .i64 b.Age)], .box 34 [.arr .u64 12 c.Match.Value, .arr .u64 12 c.Match.Care, .sc (.int .i64 c.Prio), .sl 42 (List.map Act.av c.Acts) false, .sc (.int .i64 c.Idle), .sc (.int .i64 c.Hard), .sc (.int .i64 c.Owner), .sc (.int .i64 c.Hits), .sc (.int .i64 c.Quiet), .sc (.int .i64 c.Age)]]) (by kernel_rfl) rfl ?_
  refine DK.mux 27 ((!(rule_Before a b)) || (!(rule_Before b c))) (j := 11) (h' := [.box 34 [.arr .u64 12 a.Match.Value, .arr .u64 12 a.Match.Care, .sc (.int .i64 a.Prio), .sl 42 (List.map Act.av a.Acts) false, .sc (.int .i64 a.Idle), .sc (.int .i64 a.Hard), .sc (.int .i64 a.Owner), .sc (.int .i64 a.Hits), .sc (.int .i64 a.Quiet), .sc (.int .i64 a.Age)], .box 34 [.arr .u64 12 b.Match.Value, .arr .u64 12 b.Match.Care, .sc (.int .i64 b.Prio), .sl 42 (List.map Act.av b.Acts) false, .sc (.int .i64 b.Idle), .sc (.int .i64 b.Hard), .sc (.int .i64 b.Owner), .sc (.int .i64 b.Hits), .sc (.int .i64 b.Quiet), .sc (.int .i64 b.Age)], .box 34 [.arr .u64 12 c.Match.Value, .arr .u64 12 c.Match.Care, .sc (.int .i64 c.Prio), .sl 42 (List.map Act.av c.Acts) false, .sc (.int .i64 c.Idle), .sc (.int .i64 c.Hard), .sc (.int .i64 c.Owner), .sc (.int .i64 c.Hits), .sc (.int .i64 c.Quiet), .sc (.int .i64 c.Age)]]) (by kernel_rfl) (fun z => [(3, .ptr 0 0 none), (4, .ptr 1 0 none), (7, .sc (.bool (rule_Before a b))), (20, .sc (.bool true)), (29, .sc (.bool (z || (rule_Before a c))))]) ?J2 (fun hb J => ?ht2) (fun hb J => ?hf2)
  case ht2 =>
    exact DK.seg hG 2 [3, 4, 7, 20, 29] (by kernel_rfl) rfl J
  case hf2 =>
    exact DK.seg hG 2 [3, 4, 7, 20, 29] (by kernel_rfl) rfl J
  refine DK.seg hG 2 [3, 4, 7, 31] (t' := [(3, .ptr 0 0 none), (4, .ptr 1 0 none), (7, .sc (.bool (rule_Before a b))), (31, .sc (.bool (((!(rule_Before a b)) || (!(rule_Before b c))) || (rule_Before a c))))]) (h' := [.box 34 [.arr .u64 12 a.Match.Value, .arr .u64 12 a.Match.Care, .sc (.int .i64 a.Prio), .sl 42 (List.map Act.av a.Acts) false, .sc (.int .i64 a.Idle), .sc (.int .i64 a.Hard), .sc (.int .i64 a.Owner), .sc (.int .i64 a.Hits), .sc (.int .i64 a.Quiet), .sc (.int .i64 a.Age)], .box 34 [.arr .u64 12 b.Match.Value, .arr .u64 12 b.Match.Care, .sc (.int .i64 b.Prio), .sl 42 (List.map Act.av b.Acts) false, .sc (.int .i64 b.Idle), .sc (.int .i64 b.Hard), .sc (.int .i64 b.Owner), .sc (.int .i64 b.Hits), .sc (.int .i64 b.Quiet), .sc (.int .i64 b.Age)], .box 34 [.arr .u64 12 c.Match.Value, .arr .u64 12 c.Match.Care, .sc (.int .i64 c.Prio), .sl 42 (List.map Act.av c.Acts) false, .sc (.int .i64 c.Idle), .sc (.int .i64 c.Hard), .sc (.int .i64 c.Owner), .sc (.int .i64 c.Hits), .sc (.int .i64 c.Quiet), .sc (.int .i64 c.Age)]]) (by kernel_rfl) rfl ?_
  refine DK.mux 31 (((!(rule_Before a b)) || (!(rule_Before b c))) || (rule_Before a c)) (j := 26) (h' := [.box 34 [.arr .u64 12 a.Match.Value, .arr .u64 12 a.Match.Care, .sc (.int .i64 a.Prio), .sl 42 (List.map Act.av a.Acts) false, .sc (.int .i64 a.Idle), .sc (.int .i64 a.Hard), .sc (.int .i64 a.Owner), .sc (.int .i64 a.Hits), .sc (.int .i64 a.Quiet), .sc (.int .i64 a.Age)], .box 34 [.arr .u64 12 b.Match.Value, .arr .u64 12 b.Match.Care, .sc (.int .i64 b.Prio), .sl 42 (List.map Act.av b.Acts) false, .sc (.int .i64 b.Idle), .sc (.int .i64 b.Hard), .sc (.int .i64 b.Owner), .sc (.int .i64 b.Hits), .sc (.int .i64 b.Quiet), .sc (.int .i64 b.Age)], .box 34 [.arr .u64 12 c.Match.Value, .arr .u64 12 c.Match.Care, .sc (.int .i64 c.Prio), .sl 42 (List.map Act.av c.Acts) false, .sc (.int .i64 c.Idle), .sc (.int .i64 c.Hard), .sc (.int .i64 c.Owner), .sc (.int .i64 c.Hits), .sc (.int .i64 c.Quiet), .sc (.int .i64 c.Age)]]) (by kernel_rfl) (fun z => [(44, .sc (.bool (z && (((!(rule_Before a b)) && (!(rule_Before b a))) == (rule_Key a b)))))]) ?J4 (fun hb J => ?ht4) (fun hb J => ?hf4)
  case ht4 =>
    refine DK.seg hG 3 [3, 4, 31, 34] (t' := [(3, .ptr 0 0 none), (4, .ptr 1 0 none), (31, .sc (.bool true)), (34, .sc (.bool (!(rule_Before a b))))]) (h' := [.box 34 [.arr .u64 12 a.Match.Value, .arr .u64 12 a.Match.Care, .sc (.int .i64 a.Prio), .sl 42 (List.map Act.av a.Acts) false, .sc (.int .i64 a.Idle), .sc (.int .i64 a.Hard), .sc (.int .i64 a.Owner), .sc (.int .i64 a.Hits), .sc (.int .i64 a.Quiet), .sc (.int .i64 a.Age)], .box 34 [.arr .u64 12 b.Match.Value, .arr .u64 12 b.Match.Care, .sc (.int .i64 b.Prio), .sl 42 (List.map Act.av b.Acts) false, .sc (.int .i64 b.Idle), .sc (.int .i64 b.Hard), .sc (.int .i64 b.Owner), .sc (.int .i64 b.Hits), .sc (.int .i64 b.Quiet), .sc (.int .i64 b.Age)], .box 34 [.arr .u64 12 c.Match.Value, .arr .u64 12 c.Match.Care, .sc (.int .i64 c.Prio), .sl 42 (List.map Act.av c.Acts) false, .sc (.int .i64 c.Idle), .sc (.int .i64 c.Hard), .sc (.int .i64 c.Owner), .sc (.int .i64 c.Hits), .sc (.int .i64 c.Quiet), .sc (.int .i64 c.Age)]]) (by kernel_rfl) rfl ?_
    refine DK.mux 34 (!(rule_Before a b)) (j := 21) (h' := [.box 34 [.arr .u64 12 a.Match.Value, .arr .u64 12 a.Match.Care, .sc (.int .i64 a.Prio), .sl 42 (List.map Act.av a.Acts) false, .sc (.int .i64 a.Idle), .sc (.int .i64 a.Hard), .sc (.int .i64 a.Owner), .sc (.int .i64 a.Hits), .sc (.int .i64 a.Quiet), .sc (.int .i64 a.Age)], .box 34 [.arr .u64 12 b.Match.Value, .arr .u64 12 b.Match.Care, .sc (.int .i64 b.Prio), .sl 42 (List.map Act.av b.Acts) false, .sc (.int .i64 b.Idle), .sc (.int .i64 b.Hard), .sc (.int .i64 b.Owner), .sc (.int .i64 b.Hits), .sc (.int .i64 b.Quiet), .sc (.int .i64 b.Age)], .box 34 [.arr .u64 12 c.Match.Value, .arr .u64 12 c.Match.Care, .sc (.int .i64 c.Prio), .sl 42 (List.map Act.av c.Acts) false, .sc (.int .i64 c.Idle), .sc (.int .i64 c.Hard), .sc (.int .i64 c.Owner), .sc (.int .i64 c.Hits), .sc (.int .i64 c.Quiet), .sc (.int .i64 c.Age)]]) (by kernel_rfl) (fun z => [(3, .ptr 0 0 none), (4, .ptr 1 0 none), (31, .sc (.bool true)), (39, .sc (.bool (z && (!(rule_Before b a)))))]) ?J5 (fun hb J => ?ht5) (fun hb J => ?hf5)
    case ht5 =>
      refine DK.seg hG 2 [3, 4, 31, 34, 35, 36] (t' := [(3, .ptr 0 0 none), (4, .ptr 1 0 none), (31, .sc (.bool true)), (34, .sc (.bool true)), (35, Rule.av b), (36, Rule.av a)]) (h' := [.box 34 [.arr .u64 12 a.Match.Value, .arr .u64 12 a.Match.Care, .sc (.int .i64 a.Prio), .sl 42 (List.map Act.av a.Acts) false, .sc (.int .i64 a.Idle), .sc (.int .i64 a.Hard), .sc (.int .i64 a.Owner), .sc (.int .i64 a.Hits), .sc (.int .i64 a.Quiet), .sc (.int .i64 a.Age)], .box 34 [.arr .u64 12 b.Match.Value, .arr .u64 12 b.Match.Care, .sc (.int .i64 b.Prio), .sl 42 (List.map Act.av b.Acts) false, .sc (.int .i64 b.Idle), .sc (.int .i64 b.Hard), .sc (.int .i64 b.Owner), .sc (.int .i64 b.Hits), .sc (.int .i64 b.Quiet), .sc (.int .i64 b.Age)], .box 34 [.arr .u64 12 c.Match.Value, .arr .u64 12 c.Match.Care, .sc (.int .i64 c.Prio), .sl 42 (List.map Act.av c.Acts) false, .sc (.int .i64 c.Idle), .sc (.int .i64 c.Hard), .sc (.int .i64 c.Owner), .sc (.int .i64 c.Hits), .sc (.int .i64 c.Quiet), .sc (.int .i64 c.Age)]]) (by kernel_rfl) rfl ?_
      refine DK.op' [3, 4, 31, 34, 37] (t' := [(3, .ptr 0 0 none), (4, .ptr 1 0 none), (31, .sc (.bool true)), (34, .sc (.bool true)), (37, .sc (.bool (rule_Before b a)))]) (h' := [.box 34 [.arr .u64 12 a.Match.Value, .arr .u64 12 a.Match.Care, .sc (.int .i64 a.Prio), .sl 42 (List.map Act.av a.Acts) false, .sc (.int .i64 a.Idle), .sc (.int .i64 a.Hard), .sc (.int .i64 a.Owner), .sc (.int .i64 a.Hits), .sc (.int .i64 a.Quiet), .sc (.int .i64 a.Age)], .box 34 [.arr .u64 12 b.Match.Value, .arr .u64 12 b.Match.Care, .sc (.int .i64 b.Prio), .sl 42 (List.map Act.av b.Acts) false, .sc (.int .i64 b.Idle), .sc (.int .i64 b.Hard), .sc (.int .i64 b.Owner), .sc (.int .i64 b.Hits), .sc (.int .i64 b.Quiet), .sc (.int .i64 b.Age)], .box 34 [.arr .u64 12 c.Match.Value, .arr .u64 12 c.Match.Care, .sc (.int .i64 c.Prio), .sl 42 (List.map Act.av c.Acts) false, .sc (.int .i64 c.Idle), .sc (.int .i64 c.Hard), .sc (.int .i64 c.Owner), .sc (.int .i64 c.Hits), .sc (.int .i64 c.Quiet), .sc (.int .i64 c.Age)]]) (LSpec.callP' (rule_Before_calls b a) (by kernel_rfl)) (by kernel_rfl) rfl (by kernel_rfl) rfl ?_
      exact DK.seg hG 2 [3, 4, 31, 39] (by kernel_rfl) rfl J
    case hf5 =>
      exact DK.seg hG 5 [3, 4, 31, 39] (by kernel_rfl) rfl J
    refine DK.seg hG 2 [31, 39, 40, 41] (t' := [(31, .sc (.bool true)), (39, .sc (.bool ((!(rule_Before a b)) && (!(rule_Before b a))))), (40, Rule.av a), (41, Rule.av b)]) (h' := [.box 34 [.arr .u64 12 a.Match.Value, .arr .u64 12 a.Match.Care, .sc (.int .i64 a.Prio), .sl 42 (List.map Act.av a.Acts) false, .sc (.int .i64 a.Idle), .sc (.int .i64 a.Hard), .sc (.int .i64 a.Owner), .sc (.int .i64 a.Hits), .sc (.int .i64 a.Quiet), .sc (.int .i64 a.Age)], .box 34 [.arr .u64 12 b.Match.Value, .arr .u64 12 b.Match.Care, .sc (.int .i64 b.Prio), .sl 42 (List.map Act.av b.Acts) false, .sc (.int .i64 b.Idle), .sc (.int .i64 b.Hard), .sc (.int .i64 b.Owner), .sc (.int .i64 b.Hits), .sc (.int .i64 b.Quiet), .sc (.int .i64 b.Age)], .box 34 [.arr .u64 12 c.Match.Value, .arr .u64 12 c.Match.Care, .sc (.int .i64 c.Prio), .sl 42 (List.map Act.av c.Acts) false, .sc (.int .i64 c.Idle), .sc (.int .i64 c.Hard), .sc (.int .i64 c.Owner), .sc (.int .i64 c.Hits), .sc (.int .i64 c.Quiet), .sc (.int .i64 c.Age)]]) (by kernel_rfl) rfl ?_
    refine DK.op' [31, 39, 42] (t' := [(31, .sc (.bool true)), (39, .sc (.bool ((!(rule_Before a b)) && (!(rule_Before b a))))), (42, .sc (.bool (rule_Key a b)))]) (h' := [.box 34 [.arr .u64 12 a.Match.Value, .arr .u64 12 a.Match.Care, .sc (.int .i64 a.Prio), .sl 42 (List.map Act.av a.Acts) false, .sc (.int .i64 a.Idle), .sc (.int .i64 a.Hard), .sc (.int .i64 a.Owner), .sc (.int .i64 a.Hits), .sc (.int .i64 a.Quiet), .sc (.int .i64 a.Age)], .box 34 [.arr .u64 12 b.Match.Value, .arr .u64 12 b.Match.Care, .sc (.int .i64 b.Prio), .sl 42 (List.map Act.av b.Acts) false, .sc (.int .i64 b.Idle), .sc (.int .i64 b.Hard), .sc (.int .i64 b.Owner), .sc (.int .i64 b.Hits), .sc (.int .i64 b.Quiet), .sc (.int .i64 b.Age)], .box 34 [.arr .u64 12 c.Match.Value, .arr .u64 12 c.Match.Care, .sc (.int .i64 c.Prio), .sl 42 (List.map Act.av c.Acts) false, .sc (.int .i64 c.Idle), .sc (.int .i64 c.Hard), .sc (.int .i64 c.Owner), .sc (.int .i64 c.Hits), .sc (.int .i64 c.Quiet), .sc (.int .i64 c.Age)]]) (LSpec.callP' (rule_Key_calls a b) (by kernel_rfl)) (by kernel_rfl) rfl (by kernel_rfl) rfl ?_
    exact DK.seg hG 2 [44] (by kernel_rfl) rfl J
  case hf4 =>
    exact DK.seg hG 13 [44] (by kernel_rfl) rfl J
  refine DK.seg hG 1 [6] (t' := [(6, .sc (.bool ((((!(rule_Before a b)) || (!(rule_Before b c))) || (rule_Before a c)) && (((!(rule_Before a b)) && (!(rule_Before b a))) == (rule_Key a b)))))]) (h' := [.box 34 [.arr .u64 12 a.Match.Value, .arr .u64 12 a.Match.Care, .sc (.int .i64 a.Prio), .sl 42 (List.map Act.av a.Acts) false, .sc (.int .i64 a.Idle), .sc (.int .i64 a.Hard), .sc (.int .i64 a.Owner), .sc (.int .i64 a.Hits), .sc (.int .i64 a.Quiet), .sc (.int .i64 a.Age)], .box 34 [.arr .u64 12 b.Match.Value, .arr .u64 12 b.Match.Care, .sc (.int .i64 b.Prio), .sl 42 (List.map Act.av b.Acts) false, .sc (.int .i64 b.Idle), .sc (.int .i64 b.Hard), .sc (.int .i64 b.Owner), .sc (.int .i64 b.Hits), .sc (.int .i64 b.Quiet), .sc (.int .i64 b.Age)], .box 34 [.arr .u64 12 c.Match.Value, .arr .u64 12 c.Match.Care, .sc (.int .i64 c.Prio), .sl 42 (List.map Act.av c.Acts) false, .sc (.int .i64 c.Idle), .sc (.int .i64 c.Hard), .sc (.int .i64 c.Owner), .sc (.int .i64 c.Hits), .sc (.int .i64 c.Quiet), .sc (.int .i64 c.Age)]]) (by kernel_rfl) rfl ?_
  refine DK.done (by kernel_rfl) (by kernel_rfl) ?_
  subst H
  exact AR.ret0 (fn := Try.f4) hG Try.func4 (by kernel_rfl) hc0 (r0 := .sc (.bool ((((!(rule_Before a b)) || (!(rule_Before b c))) || (rule_Before a c)) && (((!(rule_Before a b)) && (!(rule_Before b a))) == (rule_Key a b))))) (by kernel_rfl) (WkV.refl _)
theorem podestalaw05_RuleOrder_calls (a : Rule) (b : Rule) (c : Rule) : ACalls Try.prog tab.S 4 [Rule.av a, Rule.av b, Rule.av c] [] (.sc (.bool (podestalaw05_RuleOrder a b c))) [] := podestalaw05_RuleOrder_walk a b c _ rfl

/-! ### A comparison that orders -/
structure Good {α : Type} (c : α → α → Int) : Prop where
  eq : ∀ a b, c a b = 0 ↔ a = b
  anti : ∀ a b, 0 < c b a ↔ c a b < 0
  trans : ∀ a b d, c a b < 0 → c b d < 0 → c a d < 0
theorem good_u64 : Good cmp_Compare_uint64 := by
  have e : ∀ x y, cmp_Compare_uint64 x y = if x < y then -1 else if x > y then 1 else 0 := by
    intro x y
    have h : ∀ z, cmp_isNaN_uint64 z = false := fun z => by simp [cmp_isNaN_uint64]
    rw [cmp_Compare_uint64, h, h]
    by_cases h1 : x < y
    · simp [h1]
    · by_cases h2 : x > y
      · simp [h1, h2]
      · simp [h1, h2]
  refine ⟨fun a b => ?_, fun a b => ?_, fun a b d => ?_⟩
  · rw [e]; split
    · constructor <;> intro <;> omega
    · split <;> constructor <;> intro <;> omega
  · rw [e, e]
    (repeat' split) <;> constructor <;> intro <;> omega
  · rw [e, e, e]
    (repeat' split) <;> intro <;> intro <;> omega
theorem cmpL_cons {α : Type} (c : α → α → Int) (x y : α) (l r : List α) : cmpL c (x :: l) (y :: r) = if c x y = 0 then cmpL c l r else c x y := by
  rw [cmpL]
  by_cases h : c x y = 0
  · rw [if_pos h, h]; rfl
  · have : (c x y != 0) = true := by simp [h]
    rw [if_neg h, this]; rfl
theorem good_list {α : Type} {c : α → α → Int} (g : Good c) : Good (cmpL c) := by
  have eq : ∀ a b, cmpL c a b = 0 ↔ a = b := by
    intro a
    induction a with
    | nil => intro b; cases b <;> simp [cmpL]
    | cons x l ih =>
      intro b
      cases b with
      | nil => simp [cmpL]
      | cons y r =>
        rw [cmpL_cons, List.cons.injEq, ← g.eq x y, ← ih r]
        split
        · rename_i h; simp [h]
        · rename_i h; simp [h]
  have anti : ∀ a b, 0 < cmpL c b a ↔ cmpL c a b < 0 := by
    intro a
    induction a with
    | nil => intro b; cases b <;> simp [cmpL]
    | cons x l ih =>
      intro b
      cases b with
      | nil => simp [cmpL]
      | cons y r =>
        rw [cmpL_cons, cmpL_cons]
        have h1 := g.anti x y
        have h2 := g.anti y x
        have h3 := ih r
        by_cases h : c x y = 0
        · have h' : c y x = 0 := by omega
          rw [if_pos h, if_pos h']; exact h3
        · have h' : c y x ≠ 0 := by omega
          rw [if_neg h, if_neg h']; exact h1
  refine ⟨eq, anti, ?_⟩
  intro a
  induction a with
  | nil =>
    intro b d h1 h2
    cases d with
    | nil =>
      cases b with
      | nil => simp [cmpL] at h1
      | cons y r => simp [cmpL] at h2
    | cons z s => simp [cmpL]
  | cons x l ih =>
    intro b d h1 h2
    cases b with
    | nil => simp [cmpL] at h1
    | cons y r =>
      cases d with
      | nil => simp [cmpL] at h2
      | cons z s =>
        rw [cmpL_cons] at h1 h2 ⊢
        by_cases e1 : c x y = 0
        · rw [if_pos e1] at h1
          have hxy := (g.eq x y).1 e1
          subst hxy
          by_cases e2 : c x z = 0
          · rw [if_pos e2] at h2 ⊢
            exact ih r s h1 h2
          · rw [if_neg e2] at h2 ⊢
            exact h2
        · rw [if_neg e1] at h1
          by_cases e2 : c y z = 0
          · have hyz := (g.eq y z).1 e2
            subst hyz
            rw [if_neg e1]; exact h1
          · rw [if_neg e2] at h2
            have h3 := g.trans x y z h1 h2
            rw [if_neg (by omega)]; exact h3
theorem good_pair {α β : Type} {c : α → α → Int} {d : β → β → Int} (g : Good c) (k : Good d) : Good (fun (a b : α × β) => if c a.1 b.1 = 0 then d a.2 b.2 else c a.1 b.1) := by
  refine ⟨fun a b => ?_, fun a b => ?_, fun a b e h1 h2 => ?_⟩
  · obtain ⟨a1, a2⟩ := a
    obtain ⟨b1, b2⟩ := b
    rw [Prod.mk.injEq, ← g.eq a1 b1, ← k.eq a2 b2]
    split
    · rename_i h; simp [h]
    · rename_i h; simp [h]
  · have h1 := g.anti a.1 b.1
    have h2 := g.anti b.1 a.1
    have h3 := k.anti a.2 b.2
    by_cases h : c a.1 b.1 = 0
    · rw [if_pos h, if_pos (by omega)]; exact h3
    · rw [if_neg h, if_neg (by omega)]; exact h1
  · by_cases e1 : c a.1 b.1 = 0
    · rw [if_pos e1] at h1
      rw [(g.eq _ _).1 e1]
      by_cases e2 : c b.1 e.1 = 0
      · rw [if_pos e2] at h2 ⊢; exact k.trans _ _ _ h1 h2
      · rw [if_neg e2] at h2 ⊢; exact h2
    · rw [if_neg e1] at h1
      by_cases e2 : c b.1 e.1 = 0
      · rw [← (g.eq _ _).1 e2, if_neg e1]; exact h1
      · rw [if_neg e2] at h2
        have h3 := g.trans _ _ _ h1 h2
        rw [if_neg (by omega)]; exact h3
def downI (a b : Int) : Int := if a = b then 0 else if a > b then -1 else 1
theorem good_down : Good downI := by
  refine ⟨fun a b => ?_, fun a b => ?_, fun a b d => ?_⟩ <;> unfold downI <;> (repeat' split) <;> first | (constructor <;> intro <;> omega) | (intro _ _; omega)
def keyC (a b : Int × List Int × List Int) : Int := if downI a.1 b.1 = 0 then (if cmpL cmp_Compare_uint64 a.2.1 b.2.1 = 0 then cmpL cmp_Compare_uint64 a.2.2 b.2.2 else cmpL cmp_Compare_uint64 a.2.1 b.2.1) else downI a.1 b.1
theorem good_key : Good keyC := good_pair good_down (good_pair (good_list good_u64) (good_list good_u64))
def Rule.key (r : Rule) : Int × List Int × List Int := (r.Prio, r.Match.Care, r.Match.Value)
theorem head_Compare_eq (a b : List Int) : head_Compare a b = cmpL cmp_Compare_uint64 a b := rfl
theorem cmp_Or_two (a b : Int) : cmp_Or_int [a, b] = if a = 0 then b else a := by
  rw [cmp_Or_int, cmp_Or_int_l0s, cmp_Or_int_l0s, cmp_Or_int_l0s]
  by_cases h : a = 0
  · subst h
    by_cases k : b = 0
    · subst k; rfl
    · have : (b != 0) = true := by simp [k]
      rw [if_pos rfl, this]; rfl
  · have : (a != 0) = true := by simp [h]
    rw [if_neg h, this]; rfl
theorem compare_key (a b : Rule) : rule_compare a b = keyC a.key b.key := by
  rw [rule_compare, cube_Compare, cmp_Or_two, head_Compare_eq, head_Compare_eq]
  unfold keyC Rule.key downI
  by_cases h : a.Prio = b.Prio
  · simp [h]
  · by_cases k : a.Prio > b.Prio
    · have k' : b.Prio < a.Prio := k
      have hb : (a.Prio != b.Prio) = true := by simp [h]
      rw [hb]; simp [h, k']
    · have k' : ¬ b.Prio < a.Prio := k
      have hb : (a.Prio != b.Prio) = true := by simp [h]
      rw [hb]; simp [h, k']
theorem Key_key (a b : Rule) : rule_Key a b = decide (a.key = b.key) := by
  rw [rule_Key]
  unfold Rule.key
  rw [Bool.eq_iff_iff]
  simp only [Bool.and_eq_true, beq_iff_eq, decide_eq_true_eq, Prod.mk.injEq]
  constructor
  · rintro ⟨⟨h1, h2⟩, h3⟩; exact ⟨h3, h2, h1⟩
  · rintro ⟨h1, h2, h3⟩; exact ⟨⟨h3, h2⟩, h1⟩
theorem Before_key (a b : Rule) : rule_Before a b = decide (keyC a.key b.key < 0) := by rw [rule_Before, compare_key]

theorem RuleOrder_true (a b c : Rule) (_ : Rule.wf a) (_ : Rule.wf b) (_ : Rule.wf c) : podestalaw05_RuleOrder a b c = true := by
  rw [podestalaw05_RuleOrder, Before_key, Before_key, Before_key, Before_key, Key_key]
  have g := good_key
  have t := g.trans a.key b.key c.key
  have e := g.eq a.key b.key
  have n := g.anti a.key b.key
  have n' := g.anti b.key a.key
  rw [Bool.and_eq_true]
  refine ⟨?_, ?_⟩
  · by_cases h1 : keyC a.key b.key < 0
    · by_cases h2 : keyC b.key c.key < 0
      · simp [h1, h2, t h1 h2]
      · simp [h2]
    · simp [h1]
  · rw [beq_iff_eq, Bool.eq_iff_iff]
    simp only [Bool.and_eq_true, Bool.not_eq_true', decide_eq_false_iff_not, decide_eq_true_eq]
    rw [← e]
    omega

end Go.Proofs.Ytadolbhmdimbkaa
