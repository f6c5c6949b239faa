import Derived.Test.YtockmihfoppkpaaM2ModsTwice
set_option linter.unusedVariables false
set_option linter.unusedSimpArgs false
set_option maxRecDepth 100000
set_option maxHeartbeats 4000000
namespace Go.Proofs.Ytockmihfoppkpaa
open Go.Sh
/-! ### rule.Sort: function 55 -/
noncomputable def rule_Sort_F : Go.Sh.Fn := ⟨55, bodyOf Try.f55, 38⟩
def rule_Sort_k3 : List Kd := [.pure, .pure, .read, .pure, .read, .loud]
def rule_Sort_k4 : List Kd := [.pure, .pure, .read, .pure, .pure, .loud, .pure]
def rule_Sort_k2 : List Kd := [.pure, .read, .read, .pure, .pure, .pure, .pure, .pure]
def rule_Sort_k1 : List Kd := [.read, .pure, .pure]
def rule_Sort_k0 : List Kd := [.pure, .pure, .loud, .loud]
def rule_Sort_k5 : List Kd := [.pure, .loud, .pure]
def rule_Sort_l0s : List Rule → List Rule → Option ((List Rule))
  | [], out =>
    some out
  | x :: rest, out =>
    (bif (!(rule_Sound x)) then
      rule_Sort_l0s rest out
    else
      (bif (bsR out x rule_compare).2 then
        (ixO out ((bsR out x rule_compare).1)).bind fun x1 =>
        rule_Sort_l0s rest (out.set (((bsR out x rule_compare).1).toNat) (rule_copied x))
      else
        fitO (out.length + [(rule_copied x)].length) 272 (
        (insO out ((bsR out x rule_compare).1) (rule_copied x)).bind fun rows =>
        rule_Sort_l0s rest rows)))
theorem rule_Sort_l0_walk (list : List Rule) (f_list : Bool) (r : (List Rule)) (c0 : Ctx) (hc0 : c0.m.length = 0) (res : (List Rule)) (J : AR Try.prog tab rule_Sort_F c0 (Rp tab.S c0 (.sl 40 (List.map Rule.av r) true) []) [.code [1, 1, 1]] [(3, .own 0 1000000)] [.row 40 (List.map Rule.av res) 1000000 true]) :
    ∀ (rest : List Rule) (t10 : Nat) (hd : list.drop t10 = rest) (out : List Rule) (H : rule_Sort_l0s rest out = some res), AR Try.prog tab rule_Sort_F c0 (Rp tab.S c0 (.sl 40 (List.map Rule.av r) true) []) [.code [1, 1, 0, 1, 0, 0], .loop [1, 1, 0, 1, 0], .blk 0, .code [1, 1, 1]] [(3, .own 0 1000000), (8, .sl 40 (List.map Rule.av list) f_list), (9, .sc (.int .i64 (((List.map Rule.av list).length : Nat) : Int))), (10, .sc (.int .i64 ((t10 : Nat) : Int)))] [.row 40 (List.map Rule.av out) 1000000 true] := by
  have hG := tab_ok
  have hm := mixed
  intro rest
  induction rest with
  | nil =>
    intro t10 hd out H
    rw [rule_Sort_l0s] at H
    refine AR.facts 8 rfl fun hf => ?_
    have hlen : list.length ≤ 9223372036854775807 := by have hq := len_ok hf.2.1; rw [List.length_map] at hq; exact hq
    have hge : list.length ≤ t10 := List.drop_eq_nil_iff.1 hd
    have hc : (decide (((t10 : Nat) : Int) < (((List.map Rule.av list).length : Nat) : Int))) = false := by rw [List.length_map]; exact decide_eq_false (by omega)
    refine AR.seg hG hm 3 [3, 8, 9, 10, 11] (k' := [.code [1, 1, 0, 1, 0, 0, 1, 0], .code [1, 1, 0, 1, 0, 0, 1, 1], .loop [1, 1, 0, 1, 0], .blk 0, .code [1, 1, 1]]) (t' := [(3, .own 0 1000000), (8, .sl 40 (List.map Rule.av list) f_list), (9, .sc (.int .i64 (((List.map Rule.av list).length : Nat) : Int))), (10, .sc (.int .i64 ((t10 : Nat) : Int))), (11, .sc (.bool (decide (((t10 : Nat) : Int) < (((List.map Rule.av list).length : Nat) : Int)))))]) (h' := [.row 40 (List.map Rule.av out) 1000000 true]) (by kernel_rfl) ?_
    refine AR.cond (.tmp 11) (decide (((t10 : Nat) : Int) < (((List.map Rule.av list).length : Nat) : Int))) (by kernel_rfl) (by kernel_rfl) (fun hb => ?ht13) (fun hb => ?hf13)
    case ht13 => exact absurd (hb.symm.trans hc) (by decide)
    case hf13 =>
      refine AR.seg hG hm 1 [3] (k' := [.code [1, 1, 1]]) (t' := [(3, .own 0 1000000)]) (h' := [.row 40 (List.map Rule.av out) 1000000 true]) (by kernel_rfl) ?_
      refine AR.keep [3] (t' := [(3, .own 0 1000000)]) (by kernel_rfl) ?_
      obtain rfl := Option.some.inj H
      exact J
  | cons x rest ih =>
    intro t10 hd out H
    rw [rule_Sort_l0s] at H
    refine AR.facts 8 rfl fun hf => ?_
    have hlen : list.length ≤ 9223372036854775807 := by have hq := len_ok hf.2.1; rw [List.length_map] at hq; exact hq
    obtain ⟨hlt, hv_t10, hd2⟩ := drop_cons hd
    have hc : (decide (((t10 : Nat) : Int) < (((List.map Rule.av list).length : Nat) : Int))) = true := by rw [List.length_map]; exact decide_eq_true (by omega)
    have hw : IntKind.i64.wrap (((t10 : Nat) : Int) + 1) = ((t10 + 1 : Nat) : Int) := wrapI_succ (by omega)
    refine AR.seg hG hm 3 [3, 8, 9, 10, 11] (k' := [.code [1, 1, 0, 1, 0, 0, 1, 0], .code [1, 1, 0, 1, 0, 0, 1, 1], .loop [1, 1, 0, 1, 0], .blk 0, .code [1, 1, 1]]) (t' := [(3, .own 0 1000000), (8, .sl 40 (List.map Rule.av list) f_list), (9, .sc (.int .i64 (((List.map Rule.av list).length : Nat) : Int))), (10, .sc (.int .i64 ((t10 : Nat) : Int))), (11, .sc (.bool (decide (((t10 : Nat) : Int) < (((List.map Rule.av list).length : Nat) : Int)))))]) (h' := [.row 40 (List.map Rule.av out) 1000000 true]) (by kernel_rfl) ?_
    refine AR.cond (.tmp 11) (decide (((t10 : Nat) : Int) < (((List.map Rule.av list).length : Nat) : Int))) (by kernel_rfl) (by kernel_rfl) (fun hb => ?ht14) (fun hb => ?hf14)
    case ht14 =>
      refine AR.seg hG hm 4 [3, 8, 9, 10] (k' := [.code [1, 1, 0, 1, 0, 0, 1, 1, 0, 0, 0], .code [1, 1, 0, 1, 0, 0, 1, 1, 0, 0, 1], .blk 1, .code [1, 1, 0, 1, 0, 0, 1, 1, 1], .loop [1, 1, 0, 1, 0], .blk 0, .code [1, 1, 1]]) (t' := [(3, .own 0 1000000), (8, .sl 40 (List.map Rule.av list) f_list), (9, .sc (.int .i64 (((List.map Rule.av list).length : Nat) : Int))), (10, .sc (.int .i64 ((t10 : Nat) : Int)))]) (h' := [.row 40 (List.map Rule.av out) 1000000 true]) (by kernel_rfl) ?_
      refine AR.reg hm rule_Sort_k0 (by kernel_rfl) ?_
      refine DK.op' [3, 8, 9, 10, 12] (t' := [(3, .own 0 1000000), (8, .sl 40 (List.map Rule.av list) f_list), (9, .sc (.int .i64 (((List.map Rule.av list).length : Nat) : Int))), (10, .sc (.int .i64 ((t10 : Nat) : Int))), (12, .ep [.arr .u64 12 x.Match.Value, .arr .u64 12 x.Match.Care, .sc (.int .i64 x.Prio), .sl 48 (List.map Act.av x.Acts) false, .sc (.int .i64 x.Idle), .sc (.int .i64 x.Hard), .sc (.int .i64 x.Owner), .sc (.int .i64 x.Hits), .sc (.int .i64 x.Quiet), .sc (.int .i64 x.Age)] 0 none)]) (h' := [.row 40 (List.map Rule.av out) 1000000 true]) (LSpec.index' (r := Rule.av x) (fs := [.arr .u64 12 x.Match.Value, .arr .u64 12 x.Match.Care, .sc (.int .i64 x.Prio), .sl 48 (List.map Act.av x.Acts) false, .sc (.int .i64 x.Idle), .sc (.int .i64 x.Hard), .sc (.int .i64 x.Owner), .sc (.int .i64 x.Hits), .sc (.int .i64 x.Quiet), .sc (.int .i64 x.Age)]) hG (rows := List.map Rule.av list) (j := ((t10 : Nat) : Int)) (by kernel_rfl) (ixO_map hv_t10 _) (by kernel_rfl)) (by kernel_rfl) rfl (by kernel_rfl) rfl ?_
      refine DK.seg hG 3 [3, 5, 8, 9, 10] (t' := [(3, .own 0 1000000), (5, .ptr 1 0 none), (8, .sl 40 (List.map Rule.av list) f_list), (9, .sc (.int .i64 (((List.map Rule.av list).length : Nat) : Int))), (10, .sc (.int .i64 ((t10 : Nat) : Int)))]) (h' := [.row 40 (List.map Rule.av out) 1000000 true, .box 40 [.arr .u64 12 x.Match.Value, .arr .u64 12 x.Match.Care, .sc (.int .i64 x.Prio), .sl 48 (List.map Act.av x.Acts) false, .sc (.int .i64 x.Idle), .sc (.int .i64 x.Hard), .sc (.int .i64 x.Owner), .sc (.int .i64 x.Hits), .sc (.int .i64 x.Quiet), .sc (.int .i64 x.Age)]]) (by kernel_rfl) rfl ?_
      refine DK.done (by kernel_rfl) (by kernel_rfl) ?_
      refine AR.seg hG hm 2 [3, 5, 8, 9, 10] (k' := [.code [1, 1, 0, 1, 0, 0, 1, 1, 0, 0, 1, 0, 0], .code [1, 1, 0, 1, 0, 0, 1, 1, 0, 0, 1, 0, 1], .code [1, 1, 0, 1, 0, 0, 1, 1, 0, 0, 1, 1], .blk 1, .code [1, 1, 0, 1, 0, 0, 1, 1, 1], .loop [1, 1, 0, 1, 0], .blk 0, .code [1, 1, 1]]) (t' := [(3, .own 0 1000000), (5, .ptr 1 0 none), (8, .sl 40 (List.map Rule.av list) f_list), (9, .sc (.int .i64 (((List.map Rule.av list).length : Nat) : Int))), (10, .sc (.int .i64 ((t10 : Nat) : Int)))]) (h' := [.row 40 (List.map Rule.av out) 1000000 true, .box 40 [.arr .u64 12 x.Match.Value, .arr .u64 12 x.Match.Care, .sc (.int .i64 x.Prio), .sl 48 (List.map Act.av x.Acts) false, .sc (.int .i64 x.Idle), .sc (.int .i64 x.Hard), .sc (.int .i64 x.Owner), .sc (.int .i64 x.Hits), .sc (.int .i64 x.Quiet), .sc (.int .i64 x.Age)]]) (by kernel_rfl) ?_
      refine AR.reg hm rule_Sort_k1 (by kernel_rfl) ?_
      refine DK.seg hG 1 [3, 5, 8, 9, 10, 14] (t' := [(3, .own 0 1000000), (5, .ptr 1 0 none), (8, .sl 40 (List.map Rule.av list) f_list), (9, .sc (.int .i64 (((List.map Rule.av list).length : Nat) : Int))), (10, .sc (.int .i64 ((t10 : Nat) : Int))), (14, Rule.av x)]) (h' := [.row 40 (List.map Rule.av out) 1000000 true, .box 40 [.arr .u64 12 x.Match.Value, .arr .u64 12 x.Match.Care, .sc (.int .i64 x.Prio), .sl 48 (List.map Act.av x.Acts) false, .sc (.int .i64 x.Idle), .sc (.int .i64 x.Hard), .sc (.int .i64 x.Owner), .sc (.int .i64 x.Hits), .sc (.int .i64 x.Quiet), .sc (.int .i64 x.Age)]]) (by kernel_rfl) rfl ?_
      refine DK.op' [3, 5, 8, 9, 10, 15] (t' := [(3, .own 0 1000000), (5, .ptr 1 0 none), (8, .sl 40 (List.map Rule.av list) f_list), (9, .sc (.int .i64 (((List.map Rule.av list).length : Nat) : Int))), (10, .sc (.int .i64 ((t10 : Nat) : Int))), (15, .sc (.bool (rule_Sound x)))]) (h' := [.row 40 (List.map Rule.av out) 1000000 true, .box 40 [.arr .u64 12 x.Match.Value, .arr .u64 12 x.Match.Care, .sc (.int .i64 x.Prio), .sl 48 (List.map Act.av x.Acts) false, .sc (.int .i64 x.Idle), .sc (.int .i64 x.Hard), .sc (.int .i64 x.Owner), .sc (.int .i64 x.Hits), .sc (.int .i64 x.Quiet), .sc (.int .i64 x.Age)]]) (LSpec.callP' (rule_Sound_calls x) (by kernel_rfl)) (by kernel_rfl) rfl (by kernel_rfl) rfl ?_
      refine DK.seg hG 1 [3, 5, 8, 9, 10, 16] (t' := [(3, .own 0 1000000), (5, .ptr 1 0 none), (8, .sl 40 (List.map Rule.av list) f_list), (9, .sc (.int .i64 (((List.map Rule.av list).length : Nat) : Int))), (10, .sc (.int .i64 ((t10 : Nat) : Int))), (16, .sc (.bool (!(rule_Sound x))))]) (h' := [.row 40 (List.map Rule.av out) 1000000 true, .box 40 [.arr .u64 12 x.Match.Value, .arr .u64 12 x.Match.Care, .sc (.int .i64 x.Prio), .sl 48 (List.map Act.av x.Acts) false, .sc (.int .i64 x.Idle), .sc (.int .i64 x.Hard), .sc (.int .i64 x.Owner), .sc (.int .i64 x.Hits), .sc (.int .i64 x.Quiet), .sc (.int .i64 x.Age)]]) (by kernel_rfl) rfl ?_
      refine DK.done (by kernel_rfl) (by kernel_rfl) ?_
      refine AR.cond (.tmp 16) (!(rule_Sound x)) (by kernel_rfl) (by kernel_rfl) (fun hb => ?ht15) (fun hb => ?hf15)
      case ht15 =>
        replace H := cond_t hb H
        refine AR.seg hG hm 2 [3, 8, 9, 10] (k' := [.loop [1, 1, 0, 1, 0], .blk 0, .code [1, 1, 1]]) (t' := [(3, .own 0 1000000), (8, .sl 40 (List.map Rule.av list) f_list), (9, .sc (.int .i64 (((List.map Rule.av list).length : Nat) : Int))), (10, .sc (.int .i64 (IntKind.i64.wrap (((t10 : Nat) : Int) + 1))))]) (h' := [.row 40 (List.map Rule.av out) 1000000 true, .box 40 [.arr .u64 12 x.Match.Value, .arr .u64 12 x.Match.Care, .sc (.int .i64 x.Prio), .sl 48 (List.map Act.av x.Acts) false, .sc (.int .i64 x.Idle), .sc (.int .i64 x.Hard), .sc (.int .i64 x.Owner), .sc (.int .i64 x.Hits), .sc (.int .i64 x.Quiet), .sc (.int .i64 x.Age)]]) (by kernel_rfl) ?_
        refine AR.keep [3, 8, 9, 10] (t' := [(3, .own 0 1000000), (8, .sl 40 (List.map Rule.av list) f_list), (9, .sc (.int .i64 (((List.map Rule.av list).length : Nat) : Int))), (10, .sc (.int .i64 (IntKind.i64.wrap (((t10 : Nat) : Int) + 1))))]) (by kernel_rfl) ?_
        refine AR.drop' 1 hc0 (t' := [(3, .own 0 1000000), (8, .sl 40 (List.map Rule.av list) f_list), (9, .sc (.int .i64 (((List.map Rule.av list).length : Nat) : Int))), (10, .sc (.int .i64 (IntKind.i64.wrap (((t10 : Nat) : Int) + 1))))]) (h' := [.row 40 (List.map Rule.av out) 1000000 true]) (by kernel_rfl) ?_
        refine AR.loop_round ?_
        rw [hw]
        exact ih (t10 + 1) hd2 out H
      case hf15 =>
        replace H := cond_f hb H
        refine AR.seg hG hm 2 [3, 5, 8, 9, 10] (k' := [.code [1, 1, 0, 1, 0, 0, 1, 1, 0, 0, 1, 1, 0], .code [1, 1, 0, 1, 0, 0, 1, 1, 0, 0, 1, 1, 1], .blk 1, .code [1, 1, 0, 1, 0, 0, 1, 1, 1], .loop [1, 1, 0, 1, 0], .blk 0, .code [1, 1, 1]]) (t' := [(3, .own 0 1000000), (5, .ptr 1 0 none), (8, .sl 40 (List.map Rule.av list) f_list), (9, .sc (.int .i64 (((List.map Rule.av list).length : Nat) : Int))), (10, .sc (.int .i64 ((t10 : Nat) : Int)))]) (h' := [.row 40 (List.map Rule.av out) 1000000 true, .box 40 [.arr .u64 12 x.Match.Value, .arr .u64 12 x.Match.Care, .sc (.int .i64 x.Prio), .sl 48 (List.map Act.av x.Acts) false, .sc (.int .i64 x.Idle), .sc (.int .i64 x.Hard), .sc (.int .i64 x.Owner), .sc (.int .i64 x.Hits), .sc (.int .i64 x.Quiet), .sc (.int .i64 x.Age)]]) (by kernel_rfl) ?_
        refine AR.reg hm rule_Sort_k2 (by kernel_rfl) ?_
        refine DK.seg hG 2 [3, 5, 8, 9, 10, 18, 19] (t' := [(3, .own 0 1000000), (5, .ptr 1 0 none), (8, .sl 40 (List.map Rule.av list) f_list), (9, .sc (.int .i64 (((List.map Rule.av list).length : Nat) : Int))), (10, .sc (.int .i64 ((t10 : Nat) : Int))), (18, .own 0 1000000), (19, Rule.av x)]) (h' := [.row 40 (List.map Rule.av out) 1000000 true, .box 40 [.arr .u64 12 x.Match.Value, .arr .u64 12 x.Match.Care, .sc (.int .i64 x.Prio), .sl 48 (List.map Act.av x.Acts) false, .sc (.int .i64 x.Idle), .sc (.int .i64 x.Hard), .sc (.int .i64 x.Owner), .sc (.int .i64 x.Hits), .sc (.int .i64 x.Quiet), .sc (.int .i64 x.Age)]]) (by kernel_rfl) rfl ?_
        refine DK.op' [3, 5, 8, 9, 10, 20] (t' := [(3, .own 0 1000000), (5, .ptr 1 0 none), (8, .sl 40 (List.map Rule.av list) f_list), (9, .sc (.int .i64 (((List.map Rule.av list).length : Nat) : Int))), (10, .sc (.int .i64 ((t10 : Nat) : Int))), (20, .tup [.sc (.int .i64 ((bsR out x rule_compare).1)), .sc (.bool ((bsR out x rule_compare).2))])]) (h' := [.row 40 (List.map Rule.av out) 1000000 true, .box 40 [.arr .u64 12 x.Match.Value, .arr .u64 12 x.Match.Care, .sc (.int .i64 x.Prio), .sl 48 (List.map Act.av x.Acts) false, .sc (.int .i64 x.Idle), .sc (.int .i64 x.Hard), .sc (.int .i64 x.Owner), .sc (.int .i64 x.Hits), .sc (.int .i64 x.Quiet), .sc (.int .i64 x.Age)]]) (LSpec.callF' (caps := []) (slices_BinarySearchFunc__api_Rule_ok out x 71 [] rule_compare rfl rfl (fun y0 y1 => rule_compare_calls y0 y1) false) (by kernel_rfl) (.same rfl (.same rfl (.fn (caps := []) (by kernel_rfl) .nil))) (by kernel_rfl) rfl rfl) (by kernel_rfl) rfl (by kernel_rfl) rfl ?_
        refine DK.seg hG 5 [3, 5, 6, 7, 8, 9, 10] (t' := [(3, .own 0 1000000), (5, .ptr 1 0 none), (6, .sc (.int .i64 ((bsR out x rule_compare).1))), (7, .sc (.bool ((bsR out x rule_compare).2))), (8, .sl 40 (List.map Rule.av list) f_list), (9, .sc (.int .i64 (((List.map Rule.av list).length : Nat) : Int))), (10, .sc (.int .i64 ((t10 : Nat) : Int)))]) (h' := [.row 40 (List.map Rule.av out) 1000000 true, .box 40 [.arr .u64 12 x.Match.Value, .arr .u64 12 x.Match.Care, .sc (.int .i64 x.Prio), .sl 48 (List.map Act.av x.Acts) false, .sc (.int .i64 x.Idle), .sc (.int .i64 x.Hard), .sc (.int .i64 x.Owner), .sc (.int .i64 x.Hits), .sc (.int .i64 x.Quiet), .sc (.int .i64 x.Age)]]) (by kernel_rfl) rfl ?_
        refine DK.done (by kernel_rfl) (by kernel_rfl) ?_
        refine AR.seg hG hm 2 [3, 5, 6, 8, 9, 10, 23] (k' := [.code [1, 1, 0, 1, 0, 0, 1, 1, 0, 0, 1, 1, 1, 1], .blk 1, .code [1, 1, 0, 1, 0, 0, 1, 1, 1], .loop [1, 1, 0, 1, 0], .blk 0, .code [1, 1, 1]]) (t' := [(3, .own 0 1000000), (5, .ptr 1 0 none), (6, .sc (.int .i64 ((bsR out x rule_compare).1))), (8, .sl 40 (List.map Rule.av list) f_list), (9, .sc (.int .i64 (((List.map Rule.av list).length : Nat) : Int))), (10, .sc (.int .i64 ((t10 : Nat) : Int))), (23, .sc (.bool ((bsR out x rule_compare).2)))]) (h' := [.row 40 (List.map Rule.av out) 1000000 true, .box 40 [.arr .u64 12 x.Match.Value, .arr .u64 12 x.Match.Care, .sc (.int .i64 x.Prio), .sl 48 (List.map Act.av x.Acts) false, .sc (.int .i64 x.Idle), .sc (.int .i64 x.Hard), .sc (.int .i64 x.Owner), .sc (.int .i64 x.Hits), .sc (.int .i64 x.Quiet), .sc (.int .i64 x.Age)]]) (by kernel_rfl) ?_
        refine AR.cond (.tmp 23) ((bsR out x rule_compare).2) (by kernel_rfl) (by kernel_rfl) (fun hb => ?ht16) (fun hb => ?hf16)
        case ht16 =>
          replace H := cond_t hb H
          refine AR.reg hm rule_Sort_k3 (by kernel_rfl) ?_
          refine DK.seg hG 3 [3, 8, 9, 10, 24, 25, 26] (t' := [(3, .own 0 1000000), (8, .sl 40 (List.map Rule.av list) f_list), (9, .sc (.int .i64 (((List.map Rule.av list).length : Nat) : Int))), (10, .sc (.int .i64 ((t10 : Nat) : Int))), (24, .own 0 1000000), (25, .sc (.int .i64 ((bsR out x rule_compare).1))), (26, Rule.av x)]) (h' := [.row 40 (List.map Rule.av out) 1000000 true, .box 40 [.arr .u64 12 x.Match.Value, .arr .u64 12 x.Match.Care, .sc (.int .i64 x.Prio), .sl 48 (List.map Act.av x.Acts) false, .sc (.int .i64 x.Idle), .sc (.int .i64 x.Hard), .sc (.int .i64 x.Owner), .sc (.int .i64 x.Hits), .sc (.int .i64 x.Quiet), .sc (.int .i64 x.Age)]]) (by kernel_rfl) rfl ?_
          refine DK.op' [3, 8, 9, 10, 24, 25, 27] (t' := [(3, .own 0 1000000), (8, .sl 40 (List.map Rule.av list) f_list), (9, .sc (.int .i64 (((List.map Rule.av list).length : Nat) : Int))), (10, .sc (.int .i64 ((t10 : Nat) : Int))), (24, .own 0 1000000), (25, .sc (.int .i64 ((bsR out x rule_compare).1))), (27, Rule.av (rule_copied x))]) (h' := [.row 40 (List.map Rule.av out) 1000000 true, .box 40 [.arr .u64 12 x.Match.Value, .arr .u64 12 x.Match.Care, .sc (.int .i64 x.Prio), .sl 48 (List.map Act.av x.Acts) false, .sc (.int .i64 x.Idle), .sc (.int .i64 x.Hard), .sc (.int .i64 x.Owner), .sc (.int .i64 x.Hits), .sc (.int .i64 x.Quiet), .sc (.int .i64 x.Age)]]) (LSpec.callP' (rule_copied_calls x) (by kernel_rfl)) (by kernel_rfl) rfl (by kernel_rfl) rfl ?_
          obtain ⟨x1, hv_x1, H⟩ := Option.bind_eq_some_iff.1 H
          refine DK.op' [3, 8, 9, 10, 27, 28] (t' := [(3, .own 0 1000000), (8, .sl 40 (List.map Rule.av list) f_list), (9, .sc (.int .i64 (((List.map Rule.av list).length : Nat) : Int))), (10, .sc (.int .i64 ((t10 : Nat) : Int))), (27, Rule.av (rule_copied x)), (28, .el 40 0 1000000 (((bsR out x rule_compare).1).toNat) 0)]) (h' := [.row 40 (List.map Rule.av out) 1000000 true, .box 40 [.arr .u64 12 x.Match.Value, .arr .u64 12 x.Match.Care, .sc (.int .i64 x.Prio), .sl 48 (List.map Act.av x.Acts) false, .sc (.int .i64 x.Idle), .sc (.int .i64 x.Hard), .sc (.int .i64 x.Owner), .sc (.int .i64 x.Hits), .sc (.int .i64 x.Quiet), .sc (.int .i64 x.Age)]]) (LSpec.indexOwn hG (e := 40) (o := 0) (k := 1000000) (rows := List.map Rule.av out) (j := ((bsR out x rule_compare).1)) (ixO_req hv_x1 Rule.av) (by kernel_rfl)) (by kernel_rfl) rfl (by kernel_rfl) rfl ?_
          refine DK.op' [3, 8, 9, 10] (t' := [(3, .own 0 1000000), (8, .sl 40 (List.map Rule.av list) f_list), (9, .sc (.int .i64 (((List.map Rule.av list).length : Nat) : Int))), (10, .sc (.int .i64 ((t10 : Nat) : Int)))]) (h' := [.row 40 (List.map Rule.av (out.set (((bsR out x rule_compare).1).toNat) (rule_copied x))) 1000000 true, .box 40 [.arr .u64 12 x.Match.Value, .arr .u64 12 x.Match.Care, .sc (.int .i64 x.Prio), .sl 48 (List.map Act.av x.Acts) false, .sc (.int .i64 x.Idle), .sc (.int .i64 x.Hard), .sc (.int .i64 x.Owner), .sc (.int .i64 x.Hits), .sc (.int .i64 x.Quiet), .sc (.int .i64 x.Age)]]) (LSpec.storeEl' hG Rule.av out (rule_copied x) (ty := 40) (e := 40) (o := 0) (k := 1000000) (j := (((bsR out x rule_compare).1).toNat)) (off := 0) (a := Rule.av (rule_copied x)) (fs := [.arr .u64 12 x1.Match.Value, .arr .u64 12 x1.Match.Care, .sc (.int .i64 x1.Prio), .sl 48 (List.map Act.av x1.Acts) false, .sc (.int .i64 x1.Idle), .sc (.int .i64 x1.Hard), .sc (.int .i64 x1.Owner), .sc (.int .i64 x1.Hits), .sc (.int .i64 x1.Quiet), .sc (.int .i64 x1.Age)]) (fs' := [.arr .u64 12 (((rule_copied x).Match).Value), .arr .u64 12 (((rule_copied x).Match).Care), .sc (.int .i64 ((rule_copied x).Prio)), .sl 48 (List.map Act.av ((rule_copied x).Acts)) false, .sc (.int .i64 ((rule_copied x).Idle)), .sc (.int .i64 ((rule_copied x).Hard)), .sc (.int .i64 ((rule_copied x).Owner)), .sc (.int .i64 ((rule_copied x).Hits)), .sc (.int .i64 ((rule_copied x).Quiet)), .sc (.int .i64 ((rule_copied x).Age))]) (by kernel_rfl) (ixO_map hv_x1 Rule.av).2 (by kernel_rfl) (by kernel_rfl) (by kernel_rfl) (by kernel_rfl)) (by kernel_rfl) (by kernel_rfl) (by kernel_rfl) rfl ?_
          refine DK.done (by kernel_rfl) (by kernel_rfl) ?_
          refine AR.seg hG hm 2 [3, 8, 9, 10] (k' := [.loop [1, 1, 0, 1, 0], .blk 0, .code [1, 1, 1]]) (t' := [(3, .own 0 1000000), (8, .sl 40 (List.map Rule.av list) f_list), (9, .sc (.int .i64 (((List.map Rule.av list).length : Nat) : Int))), (10, .sc (.int .i64 (IntKind.i64.wrap (((t10 : Nat) : Int) + 1))))]) (h' := [.row 40 (List.map Rule.av (out.set (((bsR out x rule_compare).1).toNat) (rule_copied x))) 1000000 true, .box 40 [.arr .u64 12 x.Match.Value, .arr .u64 12 x.Match.Care, .sc (.int .i64 x.Prio), .sl 48 (List.map Act.av x.Acts) false, .sc (.int .i64 x.Idle), .sc (.int .i64 x.Hard), .sc (.int .i64 x.Owner), .sc (.int .i64 x.Hits), .sc (.int .i64 x.Quiet), .sc (.int .i64 x.Age)]]) (by kernel_rfl) ?_
          refine AR.keep [3, 8, 9, 10] (t' := [(3, .own 0 1000000), (8, .sl 40 (List.map Rule.av list) f_list), (9, .sc (.int .i64 (((List.map Rule.av list).length : Nat) : Int))), (10, .sc (.int .i64 (IntKind.i64.wrap (((t10 : Nat) : Int) + 1))))]) (by kernel_rfl) ?_
          refine AR.drop' 1 hc0 (t' := [(3, .own 0 1000000), (8, .sl 40 (List.map Rule.av list) f_list), (9, .sc (.int .i64 (((List.map Rule.av list).length : Nat) : Int))), (10, .sc (.int .i64 (IntKind.i64.wrap (((t10 : Nat) : Int) + 1))))]) (h' := [.row 40 (List.map Rule.av (out.set (((bsR out x rule_compare).1).toNat) (rule_copied x))) 1000000 true]) (by kernel_rfl) ?_
          refine AR.loop_round ?_
          rw [hw]
          exact ih (t10 + 1) hd2 (out.set (((bsR out x rule_compare).1).toNat) (rule_copied x)) H
        case hf16 =>
          replace H := cond_f hb H
          refine AR.reg hm rule_Sort_k4 (by kernel_rfl) ?_
          refine DK.seg hG 3 [8, 9, 10, 29, 30, 31] (t' := [(8, .sl 40 (List.map Rule.av list) f_list), (9, .sc (.int .i64 (((List.map Rule.av list).length : Nat) : Int))), (10, .sc (.int .i64 ((t10 : Nat) : Int))), (29, .own 0 1000000), (30, .sc (.int .i64 ((bsR out x rule_compare).1))), (31, Rule.av x)]) (h' := [.row 40 (List.map Rule.av out) 1000000 true, .box 40 [.arr .u64 12 x.Match.Value, .arr .u64 12 x.Match.Care, .sc (.int .i64 x.Prio), .sl 48 (List.map Act.av x.Acts) false, .sc (.int .i64 x.Idle), .sc (.int .i64 x.Hard), .sc (.int .i64 x.Owner), .sc (.int .i64 x.Hits), .sc (.int .i64 x.Quiet), .sc (.int .i64 x.Age)]]) (by kernel_rfl) rfl ?_
          refine DK.op' [8, 9, 10, 29, 30, 32] (t' := [(8, .sl 40 (List.map Rule.av list) f_list), (9, .sc (.int .i64 (((List.map Rule.av list).length : Nat) : Int))), (10, .sc (.int .i64 ((t10 : Nat) : Int))), (29, .own 0 1000000), (30, .sc (.int .i64 ((bsR out x rule_compare).1))), (32, Rule.av (rule_copied x))]) (h' := [.row 40 (List.map Rule.av out) 1000000 true, .box 40 [.arr .u64 12 x.Match.Value, .arr .u64 12 x.Match.Care, .sc (.int .i64 x.Prio), .sl 48 (List.map Act.av x.Acts) false, .sc (.int .i64 x.Idle), .sc (.int .i64 x.Hard), .sc (.int .i64 x.Owner), .sc (.int .i64 x.Hits), .sc (.int .i64 x.Quiet), .sc (.int .i64 x.Age)]]) (LSpec.callP' (rule_copied_calls x) (by kernel_rfl)) (by kernel_rfl) rfl (by kernel_rfl) rfl ?_
          refine DK.seg hG 1 [8, 9, 10, 29, 30, 33] (t' := [(8, .sl 40 (List.map Rule.av list) f_list), (9, .sc (.int .i64 (((List.map Rule.av list).length : Nat) : Int))), (10, .sc (.int .i64 ((t10 : Nat) : Int))), (29, .own 0 1000000), (30, .sc (.int .i64 ((bsR out x rule_compare).1))), (33, .sl 40 (List.map Rule.av [(rule_copied x)]) true)]) (h' := [.row 40 (List.map Rule.av out) 1000000 true, .box 40 [.arr .u64 12 x.Match.Value, .arr .u64 12 x.Match.Care, .sc (.int .i64 x.Prio), .sl 48 (List.map Act.av x.Acts) false, .sc (.int .i64 x.Idle), .sc (.int .i64 x.Hard), .sc (.int .i64 x.Owner), .sc (.int .i64 x.Hits), .sc (.int .i64 x.Quiet), .sc (.int .i64 x.Age)]]) (by kernel_rfl) rfl ?_
          obtain ⟨hfit, H⟩ := fitO_some H
          obtain ⟨rows, hv, H⟩ := Option.bind_eq_some_iff.1 H
          refine DK.op' [8, 9, 10, 34] (t' := [(8, .sl 40 (List.map Rule.av list) f_list), (9, .sc (.int .i64 (((List.map Rule.av list).length : Nat) : Int))), (10, .sc (.int .i64 ((t10 : Nat) : Int))), (34, .own 0 1000001)]) (h' := [.row 40 (List.map Rule.av rows) 1000001 true, .box 40 [.arr .u64 12 x.Match.Value, .arr .u64 12 x.Match.Care, .sc (.int .i64 x.Prio), .sl 48 (List.map Act.av x.Acts) false, .sc (.int .i64 x.Idle), .sc (.int .i64 x.Hard), .sc (.int .i64 x.Owner), .sc (.int .i64 x.Hits), .sc (.int .i64 x.Quiet), .sc (.int .i64 x.Age)]]) (LSpec.callO (o := 0) (k := 1000000) 1000001 slices_Insert__api_Rule_ent (slices_Insert__api_Rule_O out (rule_copied x) ((bsR out x rule_compare).1) rows true hv hfit) (by kernel_rfl) (by kernel_rfl) (by decide) (by decide)) (by kernel_rfl) (by kernel_rfl) (by kernel_rfl) rfl ?_
          refine DK.seg hG 1 [3, 8, 9, 10] (t' := [(3, .own 0 1000001), (8, .sl 40 (List.map Rule.av list) f_list), (9, .sc (.int .i64 (((List.map Rule.av list).length : Nat) : Int))), (10, .sc (.int .i64 ((t10 : Nat) : Int)))]) (h' := [.row 40 (List.map Rule.av rows) 1000001 true, .box 40 [.arr .u64 12 x.Match.Value, .arr .u64 12 x.Match.Care, .sc (.int .i64 x.Prio), .sl 48 (List.map Act.av x.Acts) false, .sc (.int .i64 x.Idle), .sc (.int .i64 x.Hard), .sc (.int .i64 x.Owner), .sc (.int .i64 x.Hits), .sc (.int .i64 x.Quiet), .sc (.int .i64 x.Age)]]) (by kernel_rfl) rfl ?_
          refine DK.done (by kernel_rfl) (by kernel_rfl) ?_
          refine AR.seg hG hm 2 [3, 8, 9, 10] (k' := [.loop [1, 1, 0, 1, 0], .blk 0, .code [1, 1, 1]]) (t' := [(3, .own 0 1000001), (8, .sl 40 (List.map Rule.av list) f_list), (9, .sc (.int .i64 (((List.map Rule.av list).length : Nat) : Int))), (10, .sc (.int .i64 (IntKind.i64.wrap (((t10 : Nat) : Int) + 1))))]) (h' := [.row 40 (List.map Rule.av rows) 1000001 true, .box 40 [.arr .u64 12 x.Match.Value, .arr .u64 12 x.Match.Care, .sc (.int .i64 x.Prio), .sl 48 (List.map Act.av x.Acts) false, .sc (.int .i64 x.Idle), .sc (.int .i64 x.Hard), .sc (.int .i64 x.Owner), .sc (.int .i64 x.Hits), .sc (.int .i64 x.Quiet), .sc (.int .i64 x.Age)]]) (by kernel_rfl) ?_
          refine AR.keep [3, 8, 9, 10] (t' := [(3, .own 0 1000001), (8, .sl 40 (List.map Rule.av list) f_list), (9, .sc (.int .i64 (((List.map Rule.av list).length : Nat) : Int))), (10, .sc (.int .i64 (IntKind.i64.wrap (((t10 : Nat) : Int) + 1))))]) (by kernel_rfl) ?_
          refine AR.norm' 0 1000000 hc0 (t' := [(3, .own 0 1000000), (8, .sl 40 (List.map Rule.av list) f_list), (9, .sc (.int .i64 (((List.map Rule.av list).length : Nat) : Int))), (10, .sc (.int .i64 (IntKind.i64.wrap (((t10 : Nat) : Int) + 1))))]) (h' := [.row 40 (List.map Rule.av rows) 1000000 true, .box 40 [.arr .u64 12 x.Match.Value, .arr .u64 12 x.Match.Care, .sc (.int .i64 x.Prio), .sl 48 (List.map Act.av x.Acts) false, .sc (.int .i64 x.Idle), .sc (.int .i64 x.Hard), .sc (.int .i64 x.Owner), .sc (.int .i64 x.Hits), .sc (.int .i64 x.Quiet), .sc (.int .i64 x.Age)]]) (by kernel_rfl) ?_
          refine AR.drop' 1 hc0 (t' := [(3, .own 0 1000000), (8, .sl 40 (List.map Rule.av list) f_list), (9, .sc (.int .i64 (((List.map Rule.av list).length : Nat) : Int))), (10, .sc (.int .i64 (IntKind.i64.wrap (((t10 : Nat) : Int) + 1))))]) (h' := [.row 40 (List.map Rule.av rows) 1000000 true]) (by kernel_rfl) ?_
          refine AR.loop_round ?_
          rw [hw]
          exact ih (t10 + 1) hd2 rows H
    case hf14 => exact absurd (hc.symm.trans hb) (by decide)

def rule_Sort_raw (list : List Rule) : Option ((List Rule)) :=
  (rule_Sort_l0s list ([] : List Rule)).bind fun v =>
  some v
theorem rule_Sort_walk (list : List Rule) (f_list : Bool) (r : (List Rule)) (H : rule_Sort_raw list = some r) :
    ACalls Try.prog tab.S 55 [.sl 40 (List.map Rule.av list) f_list] [] (.sl 40 (List.map Rule.av r) true) [] := by
  have hG := tab_ok
  have hm := mixed
  refine ACalls.of_AR (G := tab) rule_Sort_F (fn := Try.f55) Try.func55 (by kernel_rfl) (by kernel_rfl) (by kernel_rfl) (Nat.le_of_ble_eq_true (by kernel_rfl)) ?_
  intro c0 hc0
  replace hc0 : c0.m.length = 0 := hc0
  rw [rule_Sort_raw] at H
  refine AR.seg hG hm 8 [3, 8, 9, 10] (k' := [.code [1, 1, 0, 1, 0], .blk 0, .code [1, 1, 1]]) (t' := [(3, .sl 0 [] true), (8, .sl 40 (List.map Rule.av list) f_list), (9, .sc (.int .i64 (((List.map Rule.av list).length : Nat) : Int))), (10, .sc (.int .i64 0))]) (h' := []) (by kernel_rfl) ?_
  refine AR.adoptB' 3 40 (t' := [(3, .own 0 1000000), (8, .sl 40 (List.map Rule.av list) f_list), (9, .sc (.int .i64 (((List.map Rule.av list).length : Nat) : Int))), (10, .sc (.int .i64 0))]) (h' := [.row 40 (List.map Rule.av ([] : List Rule)) 1000000 true]) (by kernel_rfl) ?_
  refine AR.keep [3, 8, 9, 10] (t' := [(3, .own 0 1000000), (8, .sl 40 (List.map Rule.av list) f_list), (9, .sc (.int .i64 (((List.map Rule.av list).length : Nat) : Int))), (10, .sc (.int .i64 0))]) (by kernel_rfl) ?_
  obtain ⟨v, hv, H⟩ := Option.bind_eq_some_iff.1 H
  refine AR.into (by kernel_rfl) ?_
  refine rule_Sort_l0_walk list f_list r c0 hc0 v ?_ list 0 rfl ([] : List Rule) hv
  refine AR.seg hG hm 1 [3] (k' := [.code [1, 1, 1, 0], .code [1, 1, 1, 1]]) (t' := [(3, .own 0 1000000)]) (h' := [.row 40 (List.map Rule.av v) 1000000 true]) (by kernel_rfl) ?_
  refine AR.reg hm rule_Sort_k5 (by kernel_rfl) ?_
  refine DK.seg hG 1 [36] (t' := [(36, .own 0 1000000)]) (h' := [.row 40 (List.map Rule.av v) 1000000 true]) (by kernel_rfl) rfl ?_
  refine DK.op' [37] (t' := [(37, .sl 40 (List.map Rule.av v) true)]) (h' := [.row 40 (List.map Rule.av v) 1000000 false]) (LSpec.callC' [0] (slices_Clip__api_Rule_calls v false) (by kernel_rfl) (by kernel_rfl)) (by kernel_rfl) (by kernel_rfl) (by kernel_rfl) rfl ?_
  refine DK.seg hG 1 [2] (t' := [(2, .sl 40 (List.map Rule.av v) true)]) (h' := [.row 40 (List.map Rule.av v) 1000000 false]) (by kernel_rfl) rfl ?_
  refine DK.done (by kernel_rfl) (by kernel_rfl) ?_
  obtain rfl := Option.some.inj H
  exact AR.ret0 (fn := Try.f55) hG Try.func55 (by kernel_rfl) hc0 (r0 := .sl 40 (List.map Rule.av v) true) (by kernel_rfl) (WkV.refl _)

def putR (out : List Rule) (x : Rule) : List Rule :=
  bif !(rule_Sound x) then out else
  bif (bsR out x rule_compare).2 then out.set (bsN out x rule_compare) x else out.take (bsN out x rule_compare) ++ x :: out.drop (bsN out x rule_compare)
def sortR (l : List Rule) : List Rule := l.foldl putR []
theorem copied_eq (x : Rule) : rule_copied x = x := rfl
theorem bsR_lt {x : List Rule} {t : Rule} {cmp : Rule → Rule → Int} (h : (bsR x t cmp).2 = true) : bsN x t cmp < x.length := by
  unfold bsR at h
  by_cases hlt : bsN x t cmp < x.length
  · exact hlt
  · simp only [List.getElem?_eq_none (by omega : x.length ≤ bsN x t cmp)] at h
    cases h
theorem putR_len (out : List Rule) (x : Rule) : (putR out x).length ≤ out.length + 1 := by
  unfold putR
  cases !(rule_Sound x)
  · cases (bsR out x rule_compare).2
    · have := bsN_le out x rule_compare
      simp only [cond_false, List.length_append, List.length_cons, List.length_take, List.length_drop]
      omega
    · simp only [cond_true, cond_false, List.length_set]; omega
  · simp only [cond_true]; omega
theorem rule_Sort_l0s_eq : ∀ (l out : List Rule), (out.length + l.length) * 272 ≤ 140737488355328 → rule_Sort_l0s l out = some (l.foldl putR out)
  | [], out, _ => by rw [rule_Sort_l0s]; rfl
  | x :: l, out, h => by
      rw [List.length_cons] at h
      have hp := putR_len out x
      have ih := rule_Sort_l0s_eq l (putR out x) (by omega)
      rw [rule_Sort_l0s, List.foldl_cons, ← ih]
      unfold putR
      cases hs : !(rule_Sound x)
      · simp only [cond_false]
        cases hb : (bsR out x rule_compare).2
        · simp only [cond_false]
          have e1 : (bsR out x rule_compare).1 = ((bsN out x rule_compare : Nat) : Int) := rfl
          have hle := bsN_le out x rule_compare
          rw [fitO_eq (by rw [List.length_cons, List.length_nil]; omega), e1]
          unfold insO
          rw [if_pos (by omega), Int.toNat_natCast]
          rfl
        · simp only [cond_true]
          have e1 : (bsR out x rule_compare).1 = ((bsN out x rule_compare : Nat) : Int) := rfl
          rw [e1, ixO_lt (bsR_lt hb)]
          rfl
      · rfl
theorem rule_Sort_eq (l : List Rule) (h : l.length * 272 ≤ 140737488355328) : rule_Sort_raw l = some (sortR l) := by
  rw [rule_Sort_raw, rule_Sort_l0s_eq l [] (by rw [List.length_nil, Nat.zero_add]; exact h)]
  rfl
theorem rule_Sort_ok (l : List Rule) (f : Bool) : ACalls Try.prog tab.S 55 [.sl 40 (List.map Rule.av l) f] [] (.sl 40 (List.map Rule.av (sortR l)) true) [] := by
  refine ACalls.facts (ent_of Try.func55 (by kernel_rfl) (by kernel_rfl)) fun hf => ?_
  have l0 : l.length * 272 ≤ 140737488355328 := by have h := hf.1.1; rw [List.length_map] at h; exact h
  exact rule_Sort_walk l f _ (rule_Sort_eq l l0)

end Go.Proofs.Ytockmihfoppkpaa

set_option linter.unusedVariables false
set_option linter.unusedSimpArgs false
set_option maxRecDepth 100000
set_option maxHeartbeats 4000000
namespace Go.Proofs.Ytockmihfoppkpaa
open Go.Sh
/-! ### rule.Copy: function 25 -/
noncomputable def rule_Copy_F : Go.Sh.Fn := ⟨25, bodyOf Try.f25, 20⟩
def rule_Copy_k1 : List Kd := [.pure, .read, .pure, .pure, .loud, .pure]
def rule_Copy_k0 : List Kd := [.pure, .pure, .loud, .loud]
def rule_Copy_k2 : List Kd := [.pure, .loud, .pure]
def rule_Copy_l0s : List Rule → List Rule → Option ((List Rule))
  | [], out =>
    some out
  | x :: rest, out =>
    fitO (out.length + [(rule_copied x)].length) 272 (
    rule_Copy_l0s rest (out ++ [(rule_copied x)]))
theorem rule_Copy_l0_walk (list : List Rule) (f_list : Bool) (r : (List Rule)) (c0 : Ctx) (hc0 : c0.m.length = 0) (res : (List Rule)) (J : AR Try.prog tab rule_Copy_F c0 (Rp tab.S c0 (.sl 40 (List.map Rule.av r) true) []) [.code [1, 1, 1]] [(3, .own 0 1000000)] [.row 40 (List.map Rule.av res) 1000000 true]) :
    ∀ (rest : List Rule) (t8 : Nat) (hd : list.drop t8 = rest) (out : List Rule) (H : rule_Copy_l0s rest out = some res), AR Try.prog tab rule_Copy_F c0 (Rp tab.S c0 (.sl 40 (List.map Rule.av r) true) []) [.code [1, 1, 0, 1, 0, 0], .loop [1, 1, 0, 1, 0], .blk 0, .code [1, 1, 1]] [(3, .own 0 1000000), (6, .sl 40 (List.map Rule.av list) f_list), (7, .sc (.int .i64 (((List.map Rule.av list).length : Nat) : Int))), (8, .sc (.int .i64 ((t8 : Nat) : Int)))] [.row 40 (List.map Rule.av out) 1000000 true] := by
  have hG := tab_ok
  have hm := mixed
  intro rest
  induction rest with
  | nil =>
    intro t8 hd out H
    rw [rule_Copy_l0s] at H
    refine AR.facts 6 rfl fun hf => ?_
    have hlen : list.length ≤ 9223372036854775807 := by have hq := len_ok hf.2.1; rw [List.length_map] at hq; exact hq
    have hge : list.length ≤ t8 := List.drop_eq_nil_iff.1 hd
    have hc : (decide (((t8 : Nat) : Int) < (((List.map Rule.av list).length : Nat) : Int))) = false := by rw [List.length_map]; exact decide_eq_false (by omega)
    refine AR.seg hG hm 3 [3, 6, 7, 8, 9] (k' := [.code [1, 1, 0, 1, 0, 0, 1, 0], .code [1, 1, 0, 1, 0, 0, 1, 1], .loop [1, 1, 0, 1, 0], .blk 0, .code [1, 1, 1]]) (t' := [(3, .own 0 1000000), (6, .sl 40 (List.map Rule.av list) f_list), (7, .sc (.int .i64 (((List.map Rule.av list).length : Nat) : Int))), (8, .sc (.int .i64 ((t8 : Nat) : Int))), (9, .sc (.bool (decide (((t8 : Nat) : Int) < (((List.map Rule.av list).length : Nat) : Int)))))]) (h' := [.row 40 (List.map Rule.av out) 1000000 true]) (by kernel_rfl) ?_
    refine AR.cond (.tmp 9) (decide (((t8 : Nat) : Int) < (((List.map Rule.av list).length : Nat) : Int))) (by kernel_rfl) (by kernel_rfl) (fun hb => ?ht5) (fun hb => ?hf5)
    case ht5 => exact absurd (hb.symm.trans hc) (by decide)
    case hf5 =>
      refine AR.seg hG hm 1 [3] (k' := [.code [1, 1, 1]]) (t' := [(3, .own 0 1000000)]) (h' := [.row 40 (List.map Rule.av out) 1000000 true]) (by kernel_rfl) ?_
      refine AR.keep [3] (t' := [(3, .own 0 1000000)]) (by kernel_rfl) ?_
      obtain rfl := Option.some.inj H
      exact J
  | cons x rest ih =>
    intro t8 hd out H
    rw [rule_Copy_l0s] at H
    refine AR.facts 6 rfl fun hf => ?_
    have hlen : list.length ≤ 9223372036854775807 := by have hq := len_ok hf.2.1; rw [List.length_map] at hq; exact hq
    obtain ⟨hlt, hv_t8, hd2⟩ := drop_cons hd
    have hc : (decide (((t8 : Nat) : Int) < (((List.map Rule.av list).length : Nat) : Int))) = true := by rw [List.length_map]; exact decide_eq_true (by omega)
    have hw : IntKind.i64.wrap (((t8 : Nat) : Int) + 1) = ((t8 + 1 : Nat) : Int) := wrapI_succ (by omega)
    refine AR.seg hG hm 3 [3, 6, 7, 8, 9] (k' := [.code [1, 1, 0, 1, 0, 0, 1, 0], .code [1, 1, 0, 1, 0, 0, 1, 1], .loop [1, 1, 0, 1, 0], .blk 0, .code [1, 1, 1]]) (t' := [(3, .own 0 1000000), (6, .sl 40 (List.map Rule.av list) f_list), (7, .sc (.int .i64 (((List.map Rule.av list).length : Nat) : Int))), (8, .sc (.int .i64 ((t8 : Nat) : Int))), (9, .sc (.bool (decide (((t8 : Nat) : Int) < (((List.map Rule.av list).length : Nat) : Int)))))]) (h' := [.row 40 (List.map Rule.av out) 1000000 true]) (by kernel_rfl) ?_
    refine AR.cond (.tmp 9) (decide (((t8 : Nat) : Int) < (((List.map Rule.av list).length : Nat) : Int))) (by kernel_rfl) (by kernel_rfl) (fun hb => ?ht6) (fun hb => ?hf6)
    case ht6 =>
      refine AR.seg hG hm 4 [3, 6, 7, 8] (k' := [.code [1, 1, 0, 1, 0, 0, 1, 1, 0, 0, 0], .code [1, 1, 0, 1, 0, 0, 1, 1, 0, 0, 1], .blk 1, .code [1, 1, 0, 1, 0, 0, 1, 1, 1], .loop [1, 1, 0, 1, 0], .blk 0, .code [1, 1, 1]]) (t' := [(3, .own 0 1000000), (6, .sl 40 (List.map Rule.av list) f_list), (7, .sc (.int .i64 (((List.map Rule.av list).length : Nat) : Int))), (8, .sc (.int .i64 ((t8 : Nat) : Int)))]) (h' := [.row 40 (List.map Rule.av out) 1000000 true]) (by kernel_rfl) ?_
      refine AR.reg hm rule_Copy_k0 (by kernel_rfl) ?_
      refine DK.op' [3, 6, 7, 8, 10] (t' := [(3, .own 0 1000000), (6, .sl 40 (List.map Rule.av list) f_list), (7, .sc (.int .i64 (((List.map Rule.av list).length : Nat) : Int))), (8, .sc (.int .i64 ((t8 : Nat) : Int))), (10, .ep [.arr .u64 12 x.Match.Value, .arr .u64 12 x.Match.Care, .sc (.int .i64 x.Prio), .sl 48 (List.map Act.av x.Acts) false, .sc (.int .i64 x.Idle), .sc (.int .i64 x.Hard), .sc (.int .i64 x.Owner), .sc (.int .i64 x.Hits), .sc (.int .i64 x.Quiet), .sc (.int .i64 x.Age)] 0 none)]) (h' := [.row 40 (List.map Rule.av out) 1000000 true]) (LSpec.index' (r := Rule.av x) (fs := [.arr .u64 12 x.Match.Value, .arr .u64 12 x.Match.Care, .sc (.int .i64 x.Prio), .sl 48 (List.map Act.av x.Acts) false, .sc (.int .i64 x.Idle), .sc (.int .i64 x.Hard), .sc (.int .i64 x.Owner), .sc (.int .i64 x.Hits), .sc (.int .i64 x.Quiet), .sc (.int .i64 x.Age)]) hG (rows := List.map Rule.av list) (j := ((t8 : Nat) : Int)) (by kernel_rfl) (ixO_map hv_t8 _) (by kernel_rfl)) (by kernel_rfl) rfl (by kernel_rfl) rfl ?_
      refine DK.seg hG 3 [3, 5, 6, 7, 8] (t' := [(3, .own 0 1000000), (5, .ptr 1 0 none), (6, .sl 40 (List.map Rule.av list) f_list), (7, .sc (.int .i64 (((List.map Rule.av list).length : Nat) : Int))), (8, .sc (.int .i64 ((t8 : Nat) : Int)))]) (h' := [.row 40 (List.map Rule.av out) 1000000 true, .box 40 [.arr .u64 12 x.Match.Value, .arr .u64 12 x.Match.Care, .sc (.int .i64 x.Prio), .sl 48 (List.map Act.av x.Acts) false, .sc (.int .i64 x.Idle), .sc (.int .i64 x.Hard), .sc (.int .i64 x.Owner), .sc (.int .i64 x.Hits), .sc (.int .i64 x.Quiet), .sc (.int .i64 x.Age)]]) (by kernel_rfl) rfl ?_
      refine DK.done (by kernel_rfl) (by kernel_rfl) ?_
      refine AR.reg hm rule_Copy_k1 (by kernel_rfl) ?_
      refine DK.seg hG 2 [6, 7, 8, 12, 13] (t' := [(6, .sl 40 (List.map Rule.av list) f_list), (7, .sc (.int .i64 (((List.map Rule.av list).length : Nat) : Int))), (8, .sc (.int .i64 ((t8 : Nat) : Int))), (12, .own 0 1000000), (13, Rule.av x)]) (h' := [.row 40 (List.map Rule.av out) 1000000 true, .box 40 [.arr .u64 12 x.Match.Value, .arr .u64 12 x.Match.Care, .sc (.int .i64 x.Prio), .sl 48 (List.map Act.av x.Acts) false, .sc (.int .i64 x.Idle), .sc (.int .i64 x.Hard), .sc (.int .i64 x.Owner), .sc (.int .i64 x.Hits), .sc (.int .i64 x.Quiet), .sc (.int .i64 x.Age)]]) (by kernel_rfl) rfl ?_
      refine DK.op' [6, 7, 8, 12, 14] (t' := [(6, .sl 40 (List.map Rule.av list) f_list), (7, .sc (.int .i64 (((List.map Rule.av list).length : Nat) : Int))), (8, .sc (.int .i64 ((t8 : Nat) : Int))), (12, .own 0 1000000), (14, Rule.av (rule_copied x))]) (h' := [.row 40 (List.map Rule.av out) 1000000 true, .box 40 [.arr .u64 12 x.Match.Value, .arr .u64 12 x.Match.Care, .sc (.int .i64 x.Prio), .sl 48 (List.map Act.av x.Acts) false, .sc (.int .i64 x.Idle), .sc (.int .i64 x.Hard), .sc (.int .i64 x.Owner), .sc (.int .i64 x.Hits), .sc (.int .i64 x.Quiet), .sc (.int .i64 x.Age)]]) (LSpec.callP' (rule_copied_calls x) (by kernel_rfl)) (by kernel_rfl) rfl (by kernel_rfl) rfl ?_
      refine DK.seg hG 1 [6, 7, 8, 12, 15] (t' := [(6, .sl 40 (List.map Rule.av list) f_list), (7, .sc (.int .i64 (((List.map Rule.av list).length : Nat) : Int))), (8, .sc (.int .i64 ((t8 : Nat) : Int))), (12, .own 0 1000000), (15, .sl 40 (List.map Rule.av [(rule_copied x)]) true)]) (h' := [.row 40 (List.map Rule.av out) 1000000 true, .box 40 [.arr .u64 12 x.Match.Value, .arr .u64 12 x.Match.Care, .sc (.int .i64 x.Prio), .sl 48 (List.map Act.av x.Acts) false, .sc (.int .i64 x.Idle), .sc (.int .i64 x.Hard), .sc (.int .i64 x.Owner), .sc (.int .i64 x.Hits), .sc (.int .i64 x.Quiet), .sc (.int .i64 x.Age)]]) (by kernel_rfl) rfl ?_
      obtain ⟨hfit, H⟩ := fitO_some H
      refine DK.op' [6, 7, 8, 16] (t' := [(6, .sl 40 (List.map Rule.av list) f_list), (7, .sc (.int .i64 (((List.map Rule.av list).length : Nat) : Int))), (8, .sc (.int .i64 ((t8 : Nat) : Int))), (16, .own 0 1000001)]) (h' := [.row 40 (List.map Rule.av (out ++ [(rule_copied x)])) 1000001 true, .box 40 [.arr .u64 12 x.Match.Value, .arr .u64 12 x.Match.Care, .sc (.int .i64 x.Prio), .sl 48 (List.map Act.av x.Acts) false, .sc (.int .i64 x.Idle), .sc (.int .i64 x.Hard), .sc (.int .i64 x.Owner), .sc (.int .i64 x.Hits), .sc (.int .i64 x.Quiet), .sc (.int .i64 x.Age)]]) (LSpec.append' hG Rule.av out [(rule_copied x)] 0 1000000 40 272 hfit (by kernel_rfl)) (by kernel_rfl) (by kernel_rfl) (by kernel_rfl) rfl ?_
      refine DK.seg hG 1 [3, 6, 7, 8] (t' := [(3, .own 0 1000001), (6, .sl 40 (List.map Rule.av list) f_list), (7, .sc (.int .i64 (((List.map Rule.av list).length : Nat) : Int))), (8, .sc (.int .i64 ((t8 : Nat) : Int)))]) (h' := [.row 40 (List.map Rule.av (out ++ [(rule_copied x)])) 1000001 true, .box 40 [.arr .u64 12 x.Match.Value, .arr .u64 12 x.Match.Care, .sc (.int .i64 x.Prio), .sl 48 (List.map Act.av x.Acts) false, .sc (.int .i64 x.Idle), .sc (.int .i64 x.Hard), .sc (.int .i64 x.Owner), .sc (.int .i64 x.Hits), .sc (.int .i64 x.Quiet), .sc (.int .i64 x.Age)]]) (by kernel_rfl) rfl ?_
      refine DK.done (by kernel_rfl) (by kernel_rfl) ?_
      refine AR.seg hG hm 2 [3, 6, 7, 8] (k' := [.loop [1, 1, 0, 1, 0], .blk 0, .code [1, 1, 1]]) (t' := [(3, .own 0 1000001), (6, .sl 40 (List.map Rule.av list) f_list), (7, .sc (.int .i64 (((List.map Rule.av list).length : Nat) : Int))), (8, .sc (.int .i64 (IntKind.i64.wrap (((t8 : Nat) : Int) + 1))))]) (h' := [.row 40 (List.map Rule.av (out ++ [(rule_copied x)])) 1000001 true, .box 40 [.arr .u64 12 x.Match.Value, .arr .u64 12 x.Match.Care, .sc (.int .i64 x.Prio), .sl 48 (List.map Act.av x.Acts) false, .sc (.int .i64 x.Idle), .sc (.int .i64 x.Hard), .sc (.int .i64 x.Owner), .sc (.int .i64 x.Hits), .sc (.int .i64 x.Quiet), .sc (.int .i64 x.Age)]]) (by kernel_rfl) ?_
      refine AR.keep [3, 6, 7, 8] (t' := [(3, .own 0 1000001), (6, .sl 40 (List.map Rule.av list) f_list), (7, .sc (.int .i64 (((List.map Rule.av list).length : Nat) : Int))), (8, .sc (.int .i64 (IntKind.i64.wrap (((t8 : Nat) : Int) + 1))))]) (by kernel_rfl) ?_
      refine AR.norm' 0 1000000 hc0 (t' := [(3, .own 0 1000000), (6, .sl 40 (List.map Rule.av list) f_list), (7, .sc (.int .i64 (((List.map Rule.av list).length : Nat) : Int))), (8, .sc (.int .i64 (IntKind.i64.wrap (((t8 : Nat) : Int) + 1))))]) (h' := [.row 40 (List.map Rule.av (out ++ [(rule_copied x)])) 1000000 true, .box 40 [.arr .u64 12 x.Match.Value, .arr .u64 12 x.Match.Care, .sc (.int .i64 x.Prio), .sl 48 (List.map Act.av x.Acts) false, .sc (.int .i64 x.Idle), .sc (.int .i64 x.Hard), .sc (.int .i64 x.Owner), .sc (.int .i64 x.Hits), .sc (.int .i64 x.Quiet), .sc (.int .i64 x.Age)]]) (by kernel_rfl) ?_
      refine AR.drop' 1 hc0 (t' := [(3, .own 0 1000000), (6, .sl 40 (List.map Rule.av list) f_list), (7, .sc (.int .i64 (((List.map Rule.av list).length : Nat) : Int))), (8, .sc (.int .i64 (IntKind.i64.wrap (((t8 : Nat) : Int) + 1))))]) (h' := [.row 40 (List.map Rule.av (out ++ [(rule_copied x)])) 1000000 true]) (by kernel_rfl) ?_
      refine AR.loop_round ?_
      rw [hw]
      exact ih (t8 + 1) hd2 (out ++ [(rule_copied x)]) H
    case hf6 => exact absurd (hc.symm.trans hb) (by decide)

def rule_Copy_raw (list : List Rule) : Option ((List Rule)) :=
  (rule_Copy_l0s list ([] : List Rule)).bind fun v =>
  some v
theorem rule_Copy_walk (list : List Rule) (f_list : Bool) (r : (List Rule)) (H : rule_Copy_raw list = some r) :
    ACalls Try.prog tab.S 25 [.sl 40 (List.map Rule.av list) f_list] [] (.sl 40 (List.map Rule.av r) true) [] := by
  have hG := tab_ok
  have hm := mixed
  refine ACalls.of_AR (G := tab) rule_Copy_F (fn := Try.f25) Try.func25 (by kernel_rfl) (by kernel_rfl) (by kernel_rfl) (Nat.le_of_ble_eq_true (by kernel_rfl)) ?_
  intro c0 hc0
  replace hc0 : c0.m.length = 0 := hc0
  rw [rule_Copy_raw] at H
  refine AR.seg hG hm 8 [3, 6, 7, 8] (k' := [.code [1, 1, 0, 1, 0], .blk 0, .code [1, 1, 1]]) (t' := [(3, .sl 0 [] true), (6, .sl 40 (List.map Rule.av list) f_list), (7, .sc (.int .i64 (((List.map Rule.av list).length : Nat) : Int))), (8, .sc (.int .i64 0))]) (h' := []) (by kernel_rfl) ?_
  refine AR.adoptB' 3 40 (t' := [(3, .own 0 1000000), (6, .sl 40 (List.map Rule.av list) f_list), (7, .sc (.int .i64 (((List.map Rule.av list).length : Nat) : Int))), (8, .sc (.int .i64 0))]) (h' := [.row 40 (List.map Rule.av ([] : List Rule)) 1000000 true]) (by kernel_rfl) ?_
  refine AR.keep [3, 6, 7, 8] (t' := [(3, .own 0 1000000), (6, .sl 40 (List.map Rule.av list) f_list), (7, .sc (.int .i64 (((List.map Rule.av list).length : Nat) : Int))), (8, .sc (.int .i64 0))]) (by kernel_rfl) ?_
  obtain ⟨v, hv, H⟩ := Option.bind_eq_some_iff.1 H
  refine AR.into (by kernel_rfl) ?_
  refine rule_Copy_l0_walk list f_list r c0 hc0 v ?_ list 0 rfl ([] : List Rule) hv
  refine AR.seg hG hm 1 [3] (k' := [.code [1, 1, 1, 0], .code [1, 1, 1, 1]]) (t' := [(3, .own 0 1000000)]) (h' := [.row 40 (List.map Rule.av v) 1000000 true]) (by kernel_rfl) ?_
  refine AR.reg hm rule_Copy_k2 (by kernel_rfl) ?_
  refine DK.seg hG 1 [18] (t' := [(18, .own 0 1000000)]) (h' := [.row 40 (List.map Rule.av v) 1000000 true]) (by kernel_rfl) rfl ?_
  refine DK.op' [19] (t' := [(19, .sl 40 (List.map Rule.av v) true)]) (h' := [.row 40 (List.map Rule.av v) 1000000 false]) (LSpec.callC' [0] (slices_Clip__api_Rule_calls v false) (by kernel_rfl) (by kernel_rfl)) (by kernel_rfl) (by kernel_rfl) (by kernel_rfl) rfl ?_
  refine DK.seg hG 1 [2] (t' := [(2, .sl 40 (List.map Rule.av v) true)]) (h' := [.row 40 (List.map Rule.av v) 1000000 false]) (by kernel_rfl) rfl ?_
  refine DK.done (by kernel_rfl) (by kernel_rfl) ?_
  obtain rfl := Option.some.inj H
  exact AR.ret0 (fn := Try.f25) hG Try.func25 (by kernel_rfl) hc0 (r0 := .sl 40 (List.map Rule.av v) true) (by kernel_rfl) (WkV.refl _)

theorem rule_Copy_l0s_eq : ∀ (l out : List Rule), (out.length + l.length) * 272 ≤ 140737488355328 → rule_Copy_l0s l out = some (out ++ l)
  | [], out, _ => by rw [rule_Copy_l0s, List.append_nil]
  | x :: l, out, h => by
      rw [List.length_cons] at h
      rw [rule_Copy_l0s, fitO_eq (by rw [List.length_cons, List.length_nil]; omega), rule_Copy_l0s_eq l (out ++ [rule_copied x]) (by rw [List.length_append, List.length_cons, List.length_nil]; omega), copied_eq, List.append_assoc]
      rfl
theorem rule_Copy_ok (l : List Rule) (f : Bool) : ACalls Try.prog tab.S 25 [.sl 40 (List.map Rule.av l) f] [] (.sl 40 (List.map Rule.av l) true) [] := by
  refine ACalls.facts (ent_of Try.func25 (by kernel_rfl) (by kernel_rfl)) fun hf => ?_
  have l0 : l.length * 272 ≤ 140737488355328 := by have h := hf.1.1; rw [List.length_map] at h; exact h
  refine rule_Copy_walk l f _ ?_
  rw [rule_Copy_raw, rule_Copy_l0s_eq l [] (by rw [List.length_nil, Nat.zero_add]; exact l0)]
  rfl

/-! ### rule.Table: function 23 -/
noncomputable def rule_Table_F : Go.Sh.Fn := ⟨23, bodyOf Try.f23, 30⟩
def rule_Table_k1 : List Kd := [.read, .pure, .pure, .pure, .pure, .pure, .pure, .pure, .pure, .pure, .pure, .pure, .read, .pure, .pure, .pure, .pure]
def rule_Table_k0 : List Kd := [.pure, .pure, .pure, .loud, .pure, .loud]
def rule_Table_l0s (list : List Rule) : List Rule → Nat → Option (Sum (Unit) (Bool))
  | [], t7 =>
    some (.inl ())
  | x :: rest, t7 =>
    (bif (!(rule_Sound x)) then
      some (.inr false)
    else
      (bif (decide (((t7 : Nat) : Int) > 0)) then
        (ixO list (IntKind.i64.wrap (((t7 : Nat) : Int) - 1))).bind fun x1 =>
        (bif (!(rule_Before x1 x)) then
          some (.inr false)
        else
          rule_Table_l0s list rest (t7 + 1) )
      else
        rule_Table_l0s list rest (t7 + 1) ))
theorem rule_Table_l0_walk (list : List Rule) (f_list : Bool) (r : Bool) (c0 : Ctx) (hc0 : c0.m.length = 0) (res : Sum (Unit) (Bool)) (J : ∀ w : Unit, res = .inl w → AR Try.prog tab rule_Table_F c0 (Rp tab.S c0 (.sc (.bool r)) []) [.code [1, 1]] [] []) (Jr : ∀ w, res = .inr w → w = r) :
    ∀ (rest : List Rule) (t7 : Nat) (hd : list.drop t7 = rest) (H : rule_Table_l0s list rest t7 = some res), AR Try.prog tab rule_Table_F c0 (Rp tab.S c0 (.sc (.bool r)) []) [.code [1, 0, 1, 0, 0], .loop [1, 0, 1, 0], .blk 0, .code [1, 1]] [(0, .sl 40 (List.map Rule.av list) f_list), (5, .sl 40 (List.map Rule.av list) f_list), (6, .sc (.int .i64 (((List.map Rule.av list).length : Nat) : Int))), (7, .sc (.int .i64 ((t7 : Nat) : Int)))] [] := by
  have hG := tab_ok
  have hm := mixed
  intro rest
  induction rest with
  | nil =>
    intro t7 hd  H
    rw [rule_Table_l0s] at H
    refine AR.facts 0 rfl fun hf => ?_
    have hlen : list.length ≤ 9223372036854775807 := by have hq := len_ok hf.2.1; rw [List.length_map] at hq; exact hq
    have hge : list.length ≤ t7 := List.drop_eq_nil_iff.1 hd
    have hc : (decide (((t7 : Nat) : Int) < (((List.map Rule.av list).length : Nat) : Int))) = false := by rw [List.length_map]; exact decide_eq_false (by omega)
    refine AR.seg hG hm 3 [0, 5, 6, 7, 8] (k' := [.code [1, 0, 1, 0, 0, 1, 0], .code [1, 0, 1, 0, 0, 1, 1], .loop [1, 0, 1, 0], .blk 0, .code [1, 1]]) (t' := [(0, .sl 40 (List.map Rule.av list) f_list), (5, .sl 40 (List.map Rule.av list) f_list), (6, .sc (.int .i64 (((List.map Rule.av list).length : Nat) : Int))), (7, .sc (.int .i64 ((t7 : Nat) : Int))), (8, .sc (.bool (decide (((t7 : Nat) : Int) < (((List.map Rule.av list).length : Nat) : Int)))))]) (h' := []) (by kernel_rfl) ?_
    refine AR.cond (.tmp 8) (decide (((t7 : Nat) : Int) < (((List.map Rule.av list).length : Nat) : Int))) (by kernel_rfl) (by kernel_rfl) (fun hb => ?ht13) (fun hb => ?hf13)
    case ht13 => exact absurd (hb.symm.trans hc) (by decide)
    case hf13 =>
      refine AR.seg hG hm 1 [] (k' := [.code [1, 1]]) (t' := []) (h' := []) (by kernel_rfl) ?_
      refine AR.keep [] (t' := []) (by kernel_rfl) ?_
      exact J () (Option.some.inj H).symm
  | cons x rest ih =>
    intro t7 hd  H
    rw [rule_Table_l0s] at H
    refine AR.facts 0 rfl fun hf => ?_
    have hlen : list.length ≤ 9223372036854775807 := by have hq := len_ok hf.2.1; rw [List.length_map] at hq; exact hq
    obtain ⟨hlt, hv_t7, hd2⟩ := drop_cons hd
    have hc : (decide (((t7 : Nat) : Int) < (((List.map Rule.av list).length : Nat) : Int))) = true := by rw [List.length_map]; exact decide_eq_true (by omega)
    have hw : IntKind.i64.wrap (((t7 : Nat) : Int) + 1) = ((t7 + 1 : Nat) : Int) := wrapI_succ (by omega)
    refine AR.seg hG hm 3 [0, 5, 6, 7, 8] (k' := [.code [1, 0, 1, 0, 0, 1, 0], .code [1, 0, 1, 0, 0, 1, 1], .loop [1, 0, 1, 0], .blk 0, .code [1, 1]]) (t' := [(0, .sl 40 (List.map Rule.av list) f_list), (5, .sl 40 (List.map Rule.av list) f_list), (6, .sc (.int .i64 (((List.map Rule.av list).length : Nat) : Int))), (7, .sc (.int .i64 ((t7 : Nat) : Int))), (8, .sc (.bool (decide (((t7 : Nat) : Int) < (((List.map Rule.av list).length : Nat) : Int)))))]) (h' := []) (by kernel_rfl) ?_
    refine AR.cond (.tmp 8) (decide (((t7 : Nat) : Int) < (((List.map Rule.av list).length : Nat) : Int))) (by kernel_rfl) (by kernel_rfl) (fun hb => ?ht14) (fun hb => ?hf14)
    case ht14 =>
      refine AR.seg hG hm 4 [0, 5, 6, 7] (k' := [.code [1, 0, 1, 0, 0, 1, 1, 0, 0, 0], .code [1, 0, 1, 0, 0, 1, 1, 0, 0, 1], .blk 1, .code [1, 0, 1, 0, 0, 1, 1, 1], .loop [1, 0, 1, 0], .blk 0, .code [1, 1]]) (t' := [(0, .sl 40 (List.map Rule.av list) f_list), (5, .sl 40 (List.map Rule.av list) f_list), (6, .sc (.int .i64 (((List.map Rule.av list).length : Nat) : Int))), (7, .sc (.int .i64 ((t7 : Nat) : Int)))]) (h' := []) (by kernel_rfl) ?_
      refine AR.reg hm rule_Table_k0 (by kernel_rfl) ?_
      refine DK.seg hG 1 [0, 5, 6, 7, 9] (t' := [(0, .sl 40 (List.map Rule.av list) f_list), (5, .sl 40 (List.map Rule.av list) f_list), (6, .sc (.int .i64 (((List.map Rule.av list).length : Nat) : Int))), (7, .sc (.int .i64 ((t7 : Nat) : Int))), (9, .sc (.int .i64 ((t7 : Nat) : Int)))]) (h' := []) (by kernel_rfl) rfl ?_
      refine DK.op' [0, 5, 6, 7, 9, 10] (t' := [(0, .sl 40 (List.map Rule.av list) f_list), (5, .sl 40 (List.map Rule.av list) f_list), (6, .sc (.int .i64 (((List.map Rule.av list).length : Nat) : Int))), (7, .sc (.int .i64 ((t7 : Nat) : Int))), (9, .sc (.int .i64 ((t7 : Nat) : Int))), (10, .ep [.arr .u64 12 x.Match.Value, .arr .u64 12 x.Match.Care, .sc (.int .i64 x.Prio), .sl 48 (List.map Act.av x.Acts) false, .sc (.int .i64 x.Idle), .sc (.int .i64 x.Hard), .sc (.int .i64 x.Owner), .sc (.int .i64 x.Hits), .sc (.int .i64 x.Quiet), .sc (.int .i64 x.Age)] 0 none)]) (h' := []) (LSpec.index' (r := Rule.av x) (fs := [.arr .u64 12 x.Match.Value, .arr .u64 12 x.Match.Care, .sc (.int .i64 x.Prio), .sl 48 (List.map Act.av x.Acts) false, .sc (.int .i64 x.Idle), .sc (.int .i64 x.Hard), .sc (.int .i64 x.Owner), .sc (.int .i64 x.Hits), .sc (.int .i64 x.Quiet), .sc (.int .i64 x.Age)]) hG (rows := List.map Rule.av list) (j := ((t7 : Nat) : Int)) (by kernel_rfl) (ixO_map hv_t7 _) (by kernel_rfl)) (by kernel_rfl) rfl (by kernel_rfl) rfl ?_
      refine DK.seg hG 4 [0, 3, 4, 5, 6, 7] (t' := [(0, .sl 40 (List.map Rule.av list) f_list), (3, .sc (.int .i64 ((t7 : Nat) : Int))), (4, .ptr 0 0 none), (5, .sl 40 (List.map Rule.av list) f_list), (6, .sc (.int .i64 (((List.map Rule.av list).length : Nat) : Int))), (7, .sc (.int .i64 ((t7 : Nat) : Int)))]) (h' := [.box 40 [.arr .u64 12 x.Match.Value, .arr .u64 12 x.Match.Care, .sc (.int .i64 x.Prio), .sl 48 (List.map Act.av x.Acts) false, .sc (.int .i64 x.Idle), .sc (.int .i64 x.Hard), .sc (.int .i64 x.Owner), .sc (.int .i64 x.Hits), .sc (.int .i64 x.Quiet), .sc (.int .i64 x.Age)]]) (by kernel_rfl) rfl ?_
      refine DK.done (by kernel_rfl) (by kernel_rfl) ?_
      refine AR.seg hG hm 1 [0, 3, 4, 5, 6, 7] (k' := [.code [1, 0, 1, 0, 0, 1, 1, 0, 0, 1, 0], .code [1, 0, 1, 0, 0, 1, 1, 0, 0, 1, 1], .blk 1, .code [1, 0, 1, 0, 0, 1, 1, 1], .loop [1, 0, 1, 0], .blk 0, .code [1, 1]]) (t' := [(0, .sl 40 (List.map Rule.av list) f_list), (3, .sc (.int .i64 ((t7 : Nat) : Int))), (4, .ptr 0 0 none), (5, .sl 40 (List.map Rule.av list) f_list), (6, .sc (.int .i64 (((List.map Rule.av list).length : Nat) : Int))), (7, .sc (.int .i64 ((t7 : Nat) : Int)))]) (h' := [.box 40 [.arr .u64 12 x.Match.Value, .arr .u64 12 x.Match.Care, .sc (.int .i64 x.Prio), .sl 48 (List.map Act.av x.Acts) false, .sc (.int .i64 x.Idle), .sc (.int .i64 x.Hard), .sc (.int .i64 x.Owner), .sc (.int .i64 x.Hits), .sc (.int .i64 x.Quiet), .sc (.int .i64 x.Age)]]) (by kernel_rfl) ?_
      refine AR.reg hm rule_Table_k1 (by kernel_rfl) ?_
      refine DK.seg hG 1 [0, 3, 4, 5, 6, 7, 12] (t' := [(0, .sl 40 (List.map Rule.av list) f_list), (3, .sc (.int .i64 ((t7 : Nat) : Int))), (4, .ptr 0 0 none), (5, .sl 40 (List.map Rule.av list) f_list), (6, .sc (.int .i64 (((List.map Rule.av list).length : Nat) : Int))), (7, .sc (.int .i64 ((t7 : Nat) : Int))), (12, Rule.av x)]) (h' := [.box 40 [.arr .u64 12 x.Match.Value, .arr .u64 12 x.Match.Care, .sc (.int .i64 x.Prio), .sl 48 (List.map Act.av x.Acts) false, .sc (.int .i64 x.Idle), .sc (.int .i64 x.Hard), .sc (.int .i64 x.Owner), .sc (.int .i64 x.Hits), .sc (.int .i64 x.Quiet), .sc (.int .i64 x.Age)]]) (by kernel_rfl) rfl ?_
      refine DK.op' [0, 3, 4, 5, 6, 7, 13] (t' := [(0, .sl 40 (List.map Rule.av list) f_list), (3, .sc (.int .i64 ((t7 : Nat) : Int))), (4, .ptr 0 0 none), (5, .sl 40 (List.map Rule.av list) f_list), (6, .sc (.int .i64 (((List.map Rule.av list).length : Nat) : Int))), (7, .sc (.int .i64 ((t7 : Nat) : Int))), (13, .sc (.bool (rule_Sound x)))]) (h' := [.box 40 [.arr .u64 12 x.Match.Value, .arr .u64 12 x.Match.Care, .sc (.int .i64 x.Prio), .sl 48 (List.map Act.av x.Acts) false, .sc (.int .i64 x.Idle), .sc (.int .i64 x.Hard), .sc (.int .i64 x.Owner), .sc (.int .i64 x.Hits), .sc (.int .i64 x.Quiet), .sc (.int .i64 x.Age)]]) (LSpec.callP' (rule_Sound_calls x) (by kernel_rfl)) (by kernel_rfl) rfl (by kernel_rfl) rfl ?_
      refine DK.seg hG 2 [0, 3, 4, 5, 6, 7, 15] (t' := [(0, .sl 40 (List.map Rule.av list) f_list), (3, .sc (.int .i64 ((t7 : Nat) : Int))), (4, .ptr 0 0 none), (5, .sl 40 (List.map Rule.av list) f_list), (6, .sc (.int .i64 (((List.map Rule.av list).length : Nat) : Int))), (7, .sc (.int .i64 ((t7 : Nat) : Int))), (15, .sc (.bool (!(rule_Sound x))))]) (h' := [.box 40 [.arr .u64 12 x.Match.Value, .arr .u64 12 x.Match.Care, .sc (.int .i64 x.Prio), .sl 48 (List.map Act.av x.Acts) false, .sc (.int .i64 x.Idle), .sc (.int .i64 x.Hard), .sc (.int .i64 x.Owner), .sc (.int .i64 x.Hits), .sc (.int .i64 x.Quiet), .sc (.int .i64 x.Age)]]) (by kernel_rfl) rfl ?_
      refine DK.split 15 (!(rule_Sound x)) (by kernel_rfl) (fun hb => ?ht15) (fun hb => ?hf15)
      case ht15 =>
        replace H := cond_t hb H
        refine DK.seg hG 13 [0, 5, 6, 7, 28] (t' := [(0, .sl 40 (List.map Rule.av list) f_list), (5, .sl 40 (List.map Rule.av list) f_list), (6, .sc (.int .i64 (((List.map Rule.av list).length : Nat) : Int))), (7, .sc (.int .i64 ((t7 : Nat) : Int))), (28, .sc (.bool true))]) (h' := [.box 40 [.arr .u64 12 x.Match.Value, .arr .u64 12 x.Match.Care, .sc (.int .i64 x.Prio), .sl 48 (List.map Act.av x.Acts) false, .sc (.int .i64 x.Idle), .sc (.int .i64 x.Hard), .sc (.int .i64 x.Owner), .sc (.int .i64 x.Hits), .sc (.int .i64 x.Quiet), .sc (.int .i64 x.Age)]]) (by kernel_rfl) rfl ?_
        refine DK.done (by kernel_rfl) (by kernel_rfl) ?_
        refine AR.seg hG hm 3 [2] (k' := [.code [1, 0, 1, 0, 0, 1, 1, 0, 0, 1, 1, 0, 1], .blk 1, .code [1, 0, 1, 0, 0, 1, 1, 1], .loop [1, 0, 1, 0], .blk 0, .code [1, 1]]) (t' := [(2, .sc (.bool false))]) (h' := [.box 40 [.arr .u64 12 x.Match.Value, .arr .u64 12 x.Match.Care, .sc (.int .i64 x.Prio), .sl 48 (List.map Act.av x.Acts) false, .sc (.int .i64 x.Idle), .sc (.int .i64 x.Hard), .sc (.int .i64 x.Owner), .sc (.int .i64 x.Hits), .sc (.int .i64 x.Quiet), .sc (.int .i64 x.Age)]]) (by kernel_rfl) ?_
        obtain rfl := Option.some.inj H
        obtain rfl := Jr _ rfl
        exact AR.ret0 (fn := Try.f23) hG Try.func23 (by kernel_rfl) hc0 (r0 := .sc (.bool false)) (by kernel_rfl) (WkV.refl _)
      case hf15 =>
        replace H := cond_f hb H
        refine DK.seg hG 3 [0, 3, 4, 5, 6, 7, 15, 18] (t' := [(0, .sl 40 (List.map Rule.av list) f_list), (3, .sc (.int .i64 ((t7 : Nat) : Int))), (4, .ptr 0 0 none), (5, .sl 40 (List.map Rule.av list) f_list), (6, .sc (.int .i64 (((List.map Rule.av list).length : Nat) : Int))), (7, .sc (.int .i64 ((t7 : Nat) : Int))), (15, .sc (.bool false)), (18, .sc (.bool (decide (((t7 : Nat) : Int) > 0))))]) (h' := [.box 40 [.arr .u64 12 x.Match.Value, .arr .u64 12 x.Match.Care, .sc (.int .i64 x.Prio), .sl 48 (List.map Act.av x.Acts) false, .sc (.int .i64 x.Idle), .sc (.int .i64 x.Hard), .sc (.int .i64 x.Owner), .sc (.int .i64 x.Hits), .sc (.int .i64 x.Quiet), .sc (.int .i64 x.Age)]]) (by kernel_rfl) rfl ?_
        refine DK.split 18 (decide (((t7 : Nat) : Int) > 0)) (by kernel_rfl) (fun hb => ?ht16) (fun hb => ?hf16)
        case ht16 =>
          replace H := cond_t hb H
          refine DK.seg hG 3 [0, 4, 5, 6, 7, 15, 18, 19, 21] (t' := [(0, .sl 40 (List.map Rule.av list) f_list), (4, .ptr 0 0 none), (5, .sl 40 (List.map Rule.av list) f_list), (6, .sc (.int .i64 (((List.map Rule.av list).length : Nat) : Int))), (7, .sc (.int .i64 ((t7 : Nat) : Int))), (15, .sc (.bool false)), (18, .sc (.bool true)), (19, .sl 40 (List.map Rule.av list) f_list), (21, .sc (.int .i64 (IntKind.i64.wrap (((t7 : Nat) : Int) - 1))))]) (h' := [.box 40 [.arr .u64 12 x.Match.Value, .arr .u64 12 x.Match.Care, .sc (.int .i64 x.Prio), .sl 48 (List.map Act.av x.Acts) false, .sc (.int .i64 x.Idle), .sc (.int .i64 x.Hard), .sc (.int .i64 x.Owner), .sc (.int .i64 x.Hits), .sc (.int .i64 x.Quiet), .sc (.int .i64 x.Age)]]) (by kernel_rfl) rfl ?_
          obtain ⟨x1, hv, H⟩ := Option.bind_eq_some_iff.1 H
          refine DK.op' [0, 4, 5, 6, 7, 15, 18, 22] (t' := [(0, .sl 40 (List.map Rule.av list) f_list), (4, .ptr 0 0 none), (5, .sl 40 (List.map Rule.av list) f_list), (6, .sc (.int .i64 (((List.map Rule.av list).length : Nat) : Int))), (7, .sc (.int .i64 ((t7 : Nat) : Int))), (15, .sc (.bool false)), (18, .sc (.bool true)), (22, .ep [.arr .u64 12 x1.Match.Value, .arr .u64 12 x1.Match.Care, .sc (.int .i64 x1.Prio), .sl 48 (List.map Act.av x1.Acts) false, .sc (.int .i64 x1.Idle), .sc (.int .i64 x1.Hard), .sc (.int .i64 x1.Owner), .sc (.int .i64 x1.Hits), .sc (.int .i64 x1.Quiet), .sc (.int .i64 x1.Age)] 0 none)]) (h' := [.box 40 [.arr .u64 12 x.Match.Value, .arr .u64 12 x.Match.Care, .sc (.int .i64 x.Prio), .sl 48 (List.map Act.av x.Acts) false, .sc (.int .i64 x.Idle), .sc (.int .i64 x.Hard), .sc (.int .i64 x.Owner), .sc (.int .i64 x.Hits), .sc (.int .i64 x.Quiet), .sc (.int .i64 x.Age)]]) (LSpec.index' (r := Rule.av x1) (fs := [.arr .u64 12 x1.Match.Value, .arr .u64 12 x1.Match.Care, .sc (.int .i64 x1.Prio), .sl 48 (List.map Act.av x1.Acts) false, .sc (.int .i64 x1.Idle), .sc (.int .i64 x1.Hard), .sc (.int .i64 x1.Owner), .sc (.int .i64 x1.Hits), .sc (.int .i64 x1.Quiet), .sc (.int .i64 x1.Age)]) hG (rows := List.map Rule.av list) (j := (IntKind.i64.wrap (((t7 : Nat) : Int) - 1))) (by kernel_rfl) (ixO_map hv _) (by kernel_rfl)) (by kernel_rfl) rfl (by kernel_rfl) rfl ?_
          refine DK.seg hG 2 [0, 5, 6, 7, 15, 18, 23, 24] (t' := [(0, .sl 40 (List.map Rule.av list) f_list), (5, .sl 40 (List.map Rule.av list) f_list), (6, .sc (.int .i64 (((List.map Rule.av list).length : Nat) : Int))), (7, .sc (.int .i64 ((t7 : Nat) : Int))), (15, .sc (.bool false)), (18, .sc (.bool true)), (23, Rule.av x1), (24, Rule.av x)]) (h' := [.box 40 [.arr .u64 12 x.Match.Value, .arr .u64 12 x.Match.Care, .sc (.int .i64 x.Prio), .sl 48 (List.map Act.av x.Acts) false, .sc (.int .i64 x.Idle), .sc (.int .i64 x.Hard), .sc (.int .i64 x.Owner), .sc (.int .i64 x.Hits), .sc (.int .i64 x.Quiet), .sc (.int .i64 x.Age)]]) (by kernel_rfl) rfl ?_
          refine DK.op' [0, 5, 6, 7, 15, 18, 25] (t' := [(0, .sl 40 (List.map Rule.av list) f_list), (5, .sl 40 (List.map Rule.av list) f_list), (6, .sc (.int .i64 (((List.map Rule.av list).length : Nat) : Int))), (7, .sc (.int .i64 ((t7 : Nat) : Int))), (15, .sc (.bool false)), (18, .sc (.bool true)), (25, .sc (.bool (rule_Before x1 x)))]) (h' := [.box 40 [.arr .u64 12 x.Match.Value, .arr .u64 12 x.Match.Care, .sc (.int .i64 x.Prio), .sl 48 (List.map Act.av x.Acts) false, .sc (.int .i64 x.Idle), .sc (.int .i64 x.Hard), .sc (.int .i64 x.Owner), .sc (.int .i64 x.Hits), .sc (.int .i64 x.Quiet), .sc (.int .i64 x.Age)]]) (LSpec.callP' (rule_Before_calls x1 x) (by kernel_rfl)) (by kernel_rfl) rfl (by kernel_rfl) rfl ?_
          refine DK.seg hG 3 [0, 5, 6, 7, 28] (t' := [(0, .sl 40 (List.map Rule.av list) f_list), (5, .sl 40 (List.map Rule.av list) f_list), (6, .sc (.int .i64 (((List.map Rule.av list).length : Nat) : Int))), (7, .sc (.int .i64 ((t7 : Nat) : Int))), (28, .sc (.bool (!(rule_Before x1 x))))]) (h' := [.box 40 [.arr .u64 12 x.Match.Value, .arr .u64 12 x.Match.Care, .sc (.int .i64 x.Prio), .sl 48 (List.map Act.av x.Acts) false, .sc (.int .i64 x.Idle), .sc (.int .i64 x.Hard), .sc (.int .i64 x.Owner), .sc (.int .i64 x.Hits), .sc (.int .i64 x.Quiet), .sc (.int .i64 x.Age)]]) (by kernel_rfl) rfl ?_
          refine DK.done (by kernel_rfl) (by kernel_rfl) ?_
          refine AR.cond (.tmp 28) (!(rule_Before x1 x)) (by kernel_rfl) (by kernel_rfl) (fun hb => ?ht17) (fun hb => ?hf17)
          case ht17 =>
            replace H := cond_t hb H
            refine AR.seg hG hm 2 [2] (k' := [.code [1, 0, 1, 0, 0, 1, 1, 0, 0, 1, 1, 0, 1], .blk 1, .code [1, 0, 1, 0, 0, 1, 1, 1], .loop [1, 0, 1, 0], .blk 0, .code [1, 1]]) (t' := [(2, .sc (.bool false))]) (h' := [.box 40 [.arr .u64 12 x.Match.Value, .arr .u64 12 x.Match.Care, .sc (.int .i64 x.Prio), .sl 48 (List.map Act.av x.Acts) false, .sc (.int .i64 x.Idle), .sc (.int .i64 x.Hard), .sc (.int .i64 x.Owner), .sc (.int .i64 x.Hits), .sc (.int .i64 x.Quiet), .sc (.int .i64 x.Age)]]) (by kernel_rfl) ?_
            obtain rfl := Option.some.inj H
            obtain rfl := Jr _ rfl
            exact AR.ret0 (fn := Try.f23) hG Try.func23 (by kernel_rfl) hc0 (r0 := .sc (.bool false)) (by kernel_rfl) (WkV.refl _)
          case hf17 =>
            replace H := cond_f hb H
            refine AR.seg hG hm 3 [0, 5, 6, 7] (k' := [.loop [1, 0, 1, 0], .blk 0, .code [1, 1]]) (t' := [(0, .sl 40 (List.map Rule.av list) f_list), (5, .sl 40 (List.map Rule.av list) f_list), (6, .sc (.int .i64 (((List.map Rule.av list).length : Nat) : Int))), (7, .sc (.int .i64 (IntKind.i64.wrap (((t7 : Nat) : Int) + 1))))]) (h' := [.box 40 [.arr .u64 12 x.Match.Value, .arr .u64 12 x.Match.Care, .sc (.int .i64 x.Prio), .sl 48 (List.map Act.av x.Acts) false, .sc (.int .i64 x.Idle), .sc (.int .i64 x.Hard), .sc (.int .i64 x.Owner), .sc (.int .i64 x.Hits), .sc (.int .i64 x.Quiet), .sc (.int .i64 x.Age)]]) (by kernel_rfl) ?_
            refine AR.keep [0, 5, 6, 7] (t' := [(0, .sl 40 (List.map Rule.av list) f_list), (5, .sl 40 (List.map Rule.av list) f_list), (6, .sc (.int .i64 (((List.map Rule.av list).length : Nat) : Int))), (7, .sc (.int .i64 (IntKind.i64.wrap (((t7 : Nat) : Int) + 1))))]) (by kernel_rfl) ?_
            refine AR.drop' 0 hc0 (t' := [(0, .sl 40 (List.map Rule.av list) f_list), (5, .sl 40 (List.map Rule.av list) f_list), (6, .sc (.int .i64 (((List.map Rule.av list).length : Nat) : Int))), (7, .sc (.int .i64 (IntKind.i64.wrap (((t7 : Nat) : Int) + 1))))]) (h' := []) (by kernel_rfl) ?_
            refine AR.loop_round ?_
            rw [hw]
            exact ih (t7 + 1) hd2 H
        case hf16 =>
          replace H := cond_f hb H
          refine DK.seg hG 10 [0, 5, 6, 7, 28] (t' := [(0, .sl 40 (List.map Rule.av list) f_list), (5, .sl 40 (List.map Rule.av list) f_list), (6, .sc (.int .i64 (((List.map Rule.av list).length : Nat) : Int))), (7, .sc (.int .i64 ((t7 : Nat) : Int))), (28, .sc (.bool false))]) (h' := [.box 40 [.arr .u64 12 x.Match.Value, .arr .u64 12 x.Match.Care, .sc (.int .i64 x.Prio), .sl 48 (List.map Act.av x.Acts) false, .sc (.int .i64 x.Idle), .sc (.int .i64 x.Hard), .sc (.int .i64 x.Owner), .sc (.int .i64 x.Hits), .sc (.int .i64 x.Quiet), .sc (.int .i64 x.Age)]]) (by kernel_rfl) rfl ?_
          refine DK.done (by kernel_rfl) (by kernel_rfl) ?_
          refine AR.seg hG hm 4 [0, 5, 6, 7] (k' := [.loop [1, 0, 1, 0], .blk 0, .code [1, 1]]) (t' := [(0, .sl 40 (List.map Rule.av list) f_list), (5, .sl 40 (List.map Rule.av list) f_list), (6, .sc (.int .i64 (((List.map Rule.av list).length : Nat) : Int))), (7, .sc (.int .i64 (IntKind.i64.wrap (((t7 : Nat) : Int) + 1))))]) (h' := [.box 40 [.arr .u64 12 x.Match.Value, .arr .u64 12 x.Match.Care, .sc (.int .i64 x.Prio), .sl 48 (List.map Act.av x.Acts) false, .sc (.int .i64 x.Idle), .sc (.int .i64 x.Hard), .sc (.int .i64 x.Owner), .sc (.int .i64 x.Hits), .sc (.int .i64 x.Quiet), .sc (.int .i64 x.Age)]]) (by kernel_rfl) ?_
          refine AR.keep [0, 5, 6, 7] (t' := [(0, .sl 40 (List.map Rule.av list) f_list), (5, .sl 40 (List.map Rule.av list) f_list), (6, .sc (.int .i64 (((List.map Rule.av list).length : Nat) : Int))), (7, .sc (.int .i64 (IntKind.i64.wrap (((t7 : Nat) : Int) + 1))))]) (by kernel_rfl) ?_
          refine AR.drop' 0 hc0 (t' := [(0, .sl 40 (List.map Rule.av list) f_list), (5, .sl 40 (List.map Rule.av list) f_list), (6, .sc (.int .i64 (((List.map Rule.av list).length : Nat) : Int))), (7, .sc (.int .i64 (IntKind.i64.wrap (((t7 : Nat) : Int) + 1))))]) (h' := []) (by kernel_rfl) ?_
          refine AR.loop_round ?_
          rw [hw]
          exact ih (t7 + 1) hd2 H
    case hf14 => exact absurd (hc.symm.trans hb) (by decide)

def rule_Table_raw (list : List Rule) : Option (Bool) :=
  loopO (rule_Table_l0s list list 0) fun v =>
  some true
theorem rule_Table_walk (list : List Rule) (f_list : Bool) (r : Bool) (H : rule_Table_raw list = some r) :
    ACalls Try.prog tab.S 23 [.sl 40 (List.map Rule.av list) f_list] [] (.sc (.bool r)) [] := by
  have hG := tab_ok
  have hm := mixed
  refine ACalls.of_AR (G := tab) rule_Table_F (fn := Try.f23) Try.func23 (by kernel_rfl) (by kernel_rfl) (by kernel_rfl) (Nat.le_of_ble_eq_true (by kernel_rfl)) ?_
  intro c0 hc0
  replace hc0 : c0.m.length = 0 := hc0
  rw [rule_Table_raw] at H
  refine AR.seg hG hm 6 [0, 5, 6, 7] (k' := [.code [1, 0, 1, 0], .blk 0, .code [1, 1]]) (t' := [(0, .sl 40 (List.map Rule.av list) f_list), (5, .sl 40 (List.map Rule.av list) f_list), (6, .sc (.int .i64 (((List.map Rule.av list).length : Nat) : Int))), (7, .sc (.int .i64 0))]) (h' := []) (by kernel_rfl) ?_
  rcases loopO_some H with ⟨v, hv, H⟩ | hv
  case inr =>
    refine AR.into (by kernel_rfl) ?_
    exact rule_Table_l0_walk list f_list _ c0 hc0 (.inr _) (fun _ e => by cases e) (fun _ e => (Sum.inr.inj e).symm) list 0 rfl hv
  refine AR.into (by kernel_rfl) ?_
  refine rule_Table_l0_walk list f_list r c0 hc0 (.inl v) (fun w e => ?_) (fun _ e => by cases e) list 0 rfl hv
  have e := Sum.inl.inj e
  subst e
  refine AR.seg hG hm 2 [2] (k' := [.code [1, 1, 1]]) (t' := [(2, .sc (.bool true))]) (h' := []) (by kernel_rfl) ?_
  obtain rfl := Option.some.inj H
  exact AR.ret0 (fn := Try.f23) hG Try.func23 (by kernel_rfl) hc0 (r0 := .sc (.bool true)) (by kernel_rfl) (WkV.refl _)

def tableF : Option Rule → List Rule → Bool
  | _, [] => true
  | p, x :: l => rule_Sound x && (match p with | some y => rule_Before y x | none => true) && tableF (some x) l
def befO (p : Option Rule) (x : Rule) : Bool := match p with | some y => rule_Before y x | none => true
theorem tableF_cons (p : Option Rule) (x : Rule) (l : List Rule) : tableF p (x :: l) = (rule_Sound x && befO p x && tableF (some x) l) := by cases p <;> rfl
def tableR (l : List Rule) : Bool := tableF none l
theorem rule_Table_l0s_eq (all : List Rule) (hall : all.length ≤ 1000000000000000) : ∀ (l : List Rule) (i : Nat), all.drop i = l → rule_Table_l0s all l i = some (if tableF (if i = 0 then none else all[i - 1]?) l then .inl () else .inr false)
  | [], i, _ => by rw [rule_Table_l0s, tableF]; rfl
  | x :: l, i, h => by
      have hlt : i < all.length := by
        rcases Nat.lt_or_ge i all.length with q | q
        · exact q
        · rw [List.drop_eq_nil_of_le q] at h; cases h
      rw [List.drop_eq_getElem_cons hlt] at h
      injection h with h1 h2
      have ih : rule_Table_l0s all l (i + 1) = some (if tableF (some x) l then .inl () else .inr false) := by
        have q := rule_Table_l0s_eq all hall l (i + 1) h2
        have e : (if i + 1 = 0 then (none : Option Rule) else all[i + 1 - 1]?) = some x := by rw [if_neg (by omega), Nat.add_sub_cancel, List.getElem?_eq_getElem hlt, h1]
        rw [e] at q
        exact q
      rw [rule_Table_l0s, tableF_cons]
      cases hs : rule_Sound x
      · rfl
      · simp only [Bool.not_true, cond_false, Bool.true_and]
        by_cases hi : i = 0
        · subst hi
          rw [decide_eq_false (by omega), cond_false, ih, if_pos rfl]
          rfl
        · rw [decide_eq_true (by omega), cond_true, if_neg hi, wrap_eq (by omega) (by omega)]
          have e : ((i : Nat) : Int) - 1 = ((i - 1 : Nat) : Int) := by omega
          rw [e, ixO_lt (show i - 1 < all.length by omega), Option.bind_some, List.getElem?_eq_getElem (by omega), ih]
          show (bif !(rule_Before all[i - 1] x) then _ else _) = some (if (rule_Before all[i - 1] x && _) = true then _ else _)
          cases rule_Before all[i - 1] x <;> rfl
theorem rule_Table_ok (l : List Rule) (f : Bool) : ACalls Try.prog tab.S 23 [.sl 40 (List.map Rule.av l) f] [] (.sc (.bool (tableR l))) [] := by
  refine ACalls.facts (ent_of Try.func23 (by kernel_rfl) (by kernel_rfl)) fun hf => ?_
  have l0 : l.length * 272 ≤ 140737488355328 := by have h := hf.1.1; rw [List.length_map] at h; exact h
  refine rule_Table_walk l f _ ?_
  rw [rule_Table_raw, rule_Table_l0s_eq l (by omega) l 0 rfl, if_pos rfl]
  unfold tableR
  cases tableF none l <;> rfl

end Go.Proofs.Ytockmihfoppkpaa

set_option linter.unusedVariables false
set_option linter.unusedSimpArgs false
set_option maxRecDepth 100000
set_option maxHeartbeats 4000000
namespace Go.Proofs.Ytockmihfoppkpaa
open Go.Sh
/-! ### A comparison that orders -/
structure Good {α : Type} (c : α → α → Int) : Prop where
  eq : ∀ a b, c a b = 0 ↔ a = b
  anti : ∀ a b, 0 < c b a ↔ c a b < 0
  trans : ∀ a b d, c a b < 0 → c b d < 0 → c a d < 0
theorem good_u64 : Good cmp_Compare_uint64 := by
  have e : ∀ x y, cmp_Compare_uint64 x y = if x < y then -1 else if x > y then 1 else 0 := by
    intro x y
    have h : ∀ z, cmp_isNaN_uint64 z = false := fun z => by simp [cmp_isNaN_uint64]
    rw [cmp_Compare_uint64, h, h]
    by_cases h1 : x < y
    · simp [h1]
    · by_cases h2 : x > y
      · simp [h1, h2]
      · simp [h1, h2]
  refine ⟨fun a b => ?_, fun a b => ?_, fun a b d => ?_⟩
  · rw [e]; split
    · constructor <;> intro <;> omega
    · split <;> constructor <;> intro <;> omega
  · rw [e, e]
    (repeat' split) <;> constructor <;> intro <;> omega
  · rw [e, e, e]
    (repeat' split) <;> intro <;> intro <;> omega
theorem cmpL_cons {α : Type} (c : α → α → Int) (x y : α) (l r : List α) : cmpL c (x :: l) (y :: r) = if c x y = 0 then cmpL c l r else c x y := by
  rw [cmpL]
  by_cases h : c x y = 0
  · rw [if_pos h, h]; rfl
  · have : (c x y != 0) = true := by simp [h]
    rw [if_neg h, this]; rfl
theorem good_list {α : Type} {c : α → α → Int} (g : Good c) : Good (cmpL c) := by
  have eq : ∀ a b, cmpL c a b = 0 ↔ a = b := by
    intro a
    induction a with
    | nil => intro b; cases b <;> simp [cmpL]
    | cons x l ih =>
      intro b
      cases b with
      | nil => simp [cmpL]
      | cons y r =>
        rw [cmpL_cons, List.cons.injEq, ← g.eq x y, ← ih r]
        split
        · rename_i h; simp [h]
        · rename_i h; simp [h]
  have anti : ∀ a b, 0 < cmpL c b a ↔ cmpL c a b < 0 := by
    intro a
    induction a with
    | nil => intro b; cases b <;> simp [cmpL]
    | cons x l ih =>
      intro b
      cases b with
      | nil => simp [cmpL]
      | cons y r =>
        rw [cmpL_cons, cmpL_cons]
        have h1 := g.anti x y
        have h2 := g.anti y x
        have h3 := ih r
        by_cases h : c x y = 0
        · have h' : c y x = 0 := by omega
          rw [if_pos h, if_pos h']; exact h3
        · have h' : c y x ≠ 0 := by omega
          rw [if_neg h, if_neg h']; exact h1
  refine ⟨eq, anti, ?_⟩
  intro a
  induction a with
  | nil =>
    intro b d h1 h2
    cases d with
    | nil =>
      cases b with
      | nil => simp [cmpL] at h1
      | cons y r => simp [cmpL] at h2
    | cons z s => simp [cmpL]
  | cons x l ih =>
    intro b d h1 h2
    cases b with
    | nil => simp [cmpL] at h1
    | cons y r =>
      cases d with
      | nil => simp [cmpL] at h2
      | cons z s =>
        rw [cmpL_cons] at h1 h2 ⊢
        by_cases e1 : c x y = 0
        · rw [if_pos e1] at h1
          have hxy := (g.eq x y).1 e1
          subst hxy
          by_cases e2 : c x z = 0
          · rw [if_pos e2] at h2 ⊢
            exact ih r s h1 h2
          · rw [if_neg e2] at h2 ⊢
            exact h2
        · rw [if_neg e1] at h1
          by_cases e2 : c y z = 0
          · have hyz := (g.eq y z).1 e2
            subst hyz
            rw [if_neg e1]; exact h1
          · rw [if_neg e2] at h2
            have h3 := g.trans x y z h1 h2
            rw [if_neg (by omega)]; exact h3
theorem good_pair {α β : Type} {c : α → α → Int} {d : β → β → Int} (g : Good c) (k : Good d) : Good (fun (a b : α × β) => if c a.1 b.1 = 0 then d a.2 b.2 else c a.1 b.1) := by
  refine ⟨fun a b => ?_, fun a b => ?_, fun a b e h1 h2 => ?_⟩
  · obtain ⟨a1, a2⟩ := a
    obtain ⟨b1, b2⟩ := b
    rw [Prod.mk.injEq, ← g.eq a1 b1, ← k.eq a2 b2]
    split
    · rename_i h; simp [h]
    · rename_i h; simp [h]
  · have h1 := g.anti a.1 b.1
    have h2 := g.anti b.1 a.1
    have h3 := k.anti a.2 b.2
    by_cases h : c a.1 b.1 = 0
    · rw [if_pos h, if_pos (by omega)]; exact h3
    · rw [if_neg h, if_neg (by omega)]; exact h1
  · by_cases e1 : c a.1 b.1 = 0
    · rw [if_pos e1] at h1
      rw [(g.eq _ _).1 e1]
      by_cases e2 : c b.1 e.1 = 0
      · rw [if_pos e2] at h2 ⊢; exact k.trans _ _ _ h1 h2
      · rw [if_neg e2] at h2 ⊢; exact h2
    · rw [if_neg e1] at h1
      by_cases e2 : c b.1 e.1 = 0
      · rw [← (g.eq _ _).1 e2, if_neg e1]; exact h1
      · rw [if_neg e2] at h2
        have h3 := g.trans _ _ _ h1 h2
        rw [if_neg (by omega)]; exact h3
def downI (a b : Int) : Int := if a = b then 0 else if a > b then -1 else 1
theorem good_down : Good downI := by
  refine ⟨fun a b => ?_, fun a b => ?_, fun a b d => ?_⟩ <;> unfold downI <;> (repeat' split) <;> first | (constructor <;> intro <;> omega) | (intro _ _; omega)
def keyC (a b : Int × List Int × List Int) : Int := if downI a.1 b.1 = 0 then (if cmpL cmp_Compare_uint64 a.2.1 b.2.1 = 0 then cmpL cmp_Compare_uint64 a.2.2 b.2.2 else cmpL cmp_Compare_uint64 a.2.1 b.2.1) else downI a.1 b.1
theorem good_key : Good keyC := good_pair good_down (good_pair (good_list good_u64) (good_list good_u64))
def Rule.key (r : Rule) : Int × List Int × List Int := (r.Prio, r.Match.Care, r.Match.Value)
theorem head_Compare_eq (a b : List Int) : head_Compare a b = cmpL cmp_Compare_uint64 a b := rfl
theorem cmp_Or_two (a b : Int) : cmp_Or_int [a, b] = if a = 0 then b else a := by
  rw [cmp_Or_int, cmp_Or_int_l0s, cmp_Or_int_l0s, cmp_Or_int_l0s]
  by_cases h : a = 0
  · subst h
    by_cases k : b = 0
    · subst k; rfl
    · have : (b != 0) = true := by simp [k]
      rw [if_pos rfl, this]; rfl
  · have : (a != 0) = true := by simp [h]
    rw [if_neg h, this]; rfl
theorem compare_key (a b : Rule) : rule_compare a b = keyC a.key b.key := by
  rw [rule_compare, cube_Compare, cmp_Or_two, head_Compare_eq, head_Compare_eq]
  unfold keyC Rule.key downI
  by_cases h : a.Prio = b.Prio
  · simp [h]
  · by_cases k : a.Prio > b.Prio
    · have k' : b.Prio < a.Prio := k
      have hb : (a.Prio != b.Prio) = true := by simp [h]
      rw [hb]; simp [h, k']
    · have k' : ¬ b.Prio < a.Prio := k
      have hb : (a.Prio != b.Prio) = true := by simp [h]
      rw [hb]; simp [h, k']
theorem Key_key (a b : Rule) : rule_Key a b = decide (a.key = b.key) := by
  rw [rule_Key]
  unfold Rule.key
  rw [Bool.eq_iff_iff]
  simp only [Bool.and_eq_true, beq_iff_eq, decide_eq_true_eq, Prod.mk.injEq]
  constructor
  · rintro ⟨⟨h1, h2⟩, h3⟩; exact ⟨h3, h2, h1⟩
  · rintro ⟨h1, h2, h3⟩; exact ⟨⟨h3, h2⟩, h1⟩
theorem Before_key (a b : Rule) : rule_Before a b = decide (keyC a.key b.key < 0) := by rw [rule_Before, compare_key]

end Go.Proofs.Ytockmihfoppkpaa

set_option linter.unusedVariables false
set_option linter.unusedSimpArgs false
set_option maxRecDepth 100000
set_option maxHeartbeats 4000000
namespace Go.Proofs.Ytockmihfoppkpaa
open Go.Sh
/-! ### Tables: strictly in order, one rule for a key -/
abbrev Key3 := Int × List Int × List Int
def RLt (a b : Rule) : Prop := keyC a.key b.key < 0
theorem RLt.trans {a b c : Rule} (h : RLt a b) (k : RLt b c) : RLt a c := good_key.trans _ _ _ h k
theorem RLt.irr (a b : Rule) (h : a.key = b.key) : ¬ RLt a b := by
  intro k
  have := (good_key.eq a.key b.key).2 h
  unfold RLt at k
  omega
theorem RLt.asymm {a b : Rule} (h : RLt a b) : ¬ RLt b a := fun k => RLt.irr a a rfl (h.trans k)
def Srt (l : List Rule) : Prop := l.Pairwise RLt
def look (l : List Rule) (k : Key3) : Option Rule := l.find? (fun r => decide (r.key = k))
theorem look_cons (x : Rule) (l : List Rule) (k : Key3) : look (x :: l) k = if x.key = k then some x else look l k := by
  unfold look
  rw [List.find?_cons]
  by_cases h : x.key = k
  · simp [h]
  · simp [h]
theorem look_append (a b : List Rule) (k : Key3) : look (a ++ b) k = (look a k).or (look b k) := by
  unfold look
  rw [List.find?_append]
theorem look_none {l : List Rule} {k : Key3} (h : ∀ y ∈ l, y.key ≠ k) : look l k = none := by
  unfold look
  rw [List.find?_eq_none]
  intro y hy
  simp [h y hy]
theorem bsF_spec (c : Nat → Bool) (hm : ∀ i j, i ≤ j → c j = true → c i = true) : ∀ (m i j : Nat), i ≤ j → j - i < m → (∀ k, k < i → c k = true) → (∀ k, j ≤ k → c k = false) → (∀ k, k < bsF c m i j → c k = true) ∧ ∀ k, bsF c m i j ≤ k → c k = false
  | 0, i, j, _, h, _, _ => absurd h (by omega)
  | m + 1, i, j, h1, h2, h3, h4 => by
      rw [bsF]
      by_cases hij : i < j
      · rw [if_pos hij]
        cases hc : c ((i + j) / 2)
        · simp only [Bool.false_eq_true, if_false]
          refine bsF_spec c hm m i ((i + j) / 2) (by omega) (by omega) h3 (fun k hk => ?_)
          cases hk2 : c k with
          | false => rfl
          | true => rw [hm _ _ hk hk2] at hc; cases hc
        · simp only [if_true]
          exact bsF_spec c hm m ((i + j) / 2 + 1) j (by omega) (by omega) (fun k hk => hm k ((i + j) / 2) (by omega) hc) h4
      · rw [if_neg hij]
        exact ⟨h3, fun k hk => h4 k (by omega)⟩
theorem srt_get {l : List Rule} (h : Srt l) {i j : Nat} (hij : i < j) (hj : j < l.length) : RLt (l[i]'(by omega)) l[j] := List.pairwise_iff_getElem.1 h i j (by omega) hj hij
theorem bsN_spec {out : List Rule} (h : Srt out) (x : Rule) : (∀ k (hk : k < out.length), k < bsN out x rule_compare → RLt out[k] x) ∧ ∀ k (hk : k < out.length), bsN out x rule_compare ≤ k → ¬ RLt out[k] x := by
  have hl : ∀ k (hk : k < out.length), lowAt out x rule_compare k = true ↔ RLt out[k] x := by
    intro k hk
    unfold lowAt RLt
    rw [List.getElem?_eq_getElem hk]
    simp only [decide_eq_true_eq, compare_key]
  have hl2 : ∀ k, out.length ≤ k → lowAt out x rule_compare k = false := by
    intro k hk
    unfold lowAt
    rw [List.getElem?_eq_none hk]
  have hm : ∀ i j, i ≤ j → lowAt out x rule_compare j = true → lowAt out x rule_compare i = true := by
    intro i j hij hj
    have hjl : j < out.length := by
      by_cases q : j < out.length
      · exact q
      · rw [hl2 j (by omega)] at hj; cases hj
    rcases Nat.lt_or_ge i j with q | q
    · exact (hl i (by omega)).2 ((srt_get h q hjl).trans ((hl j hjl).1 hj))
    · have : i = j := by omega
      subst this; exact hj
  obtain ⟨s1, s2⟩ := bsF_spec (lowAt out x rule_compare) hm (out.length + 1) 0 out.length (by omega) (by omega) (by omega) hl2
  refine ⟨fun k hk hlt => (hl k hk).1 (s1 k hlt), fun k hk hge hlt => ?_⟩
  have := s2 k hge
  rw [(hl k hk).2 hlt] at this
  cases this
theorem not_lt {a b : Rule} (h : ¬ RLt a b) : a.key = b.key ∨ RLt b a := by
  unfold RLt at *
  rcases Int.lt_trichotomy (keyC a.key b.key) 0 with q | q | q
  · exact absurd q h
  · exact .inl ((good_key.eq _ _).1 q)
  · exact .inr ((good_key.anti _ _).1 q)
theorem putR_split {out : List Rule} (h : Srt out) {x : Rule} (hs : rule_Sound x = true) : ∃ A mid B, out = A ++ (mid ++ B) ∧ putR out x = A ++ x :: B ∧ (∀ a ∈ A, RLt a x) ∧ (∀ b ∈ B, RLt x b) ∧ ∀ y ∈ mid, y.key = x.key := by
  obtain ⟨s1, s2⟩ := bsN_spec h x
  have hle := bsN_le out x rule_compare
  generalize hn : bsN out x rule_compare = n at s1 s2 hle
  have hA : ∀ a ∈ out.take n, RLt a x := by
    intro a ha
    obtain ⟨k, hk, rfl⟩ := List.getElem_of_mem ha
    rw [List.getElem_take]
    rw [List.length_take] at hk
    exact s1 k (by omega) (by omega)
  unfold putR
  rw [hs, hn]
  simp only [Bool.not_true, cond_false]
  have hb2 : (bsR out x rule_compare).2 = match out[n]? with | some y => rule_compare y x == 0 | none => false := by
    subst hn
    unfold bsR
    cases out[bsN out x rule_compare]? <;> rfl
  cases hb : (bsR out x rule_compare).2
  · refine ⟨out.take n, [], out.drop n, by simp, rfl, hA, ?_, by simp⟩
    intro b hbm
    obtain ⟨k, hk, rfl⟩ := List.getElem_of_mem hbm
    rw [List.length_drop] at hk
    rw [List.getElem_drop]
    have hlt : n < out.length := by omega
    have h0 : RLt x out[n] := by
      rw [hb2, List.getElem?_eq_getElem hlt] at hb
      rcases not_lt (s2 n hlt (by omega)) with q | q
      · have := (good_key.eq _ _).2 q
        rw [← compare_key] at this
        simp [this] at hb
      · exact q
    rcases Nat.eq_zero_or_pos k with q | q
    · subst q; exact h0
    · exact h0.trans (srt_get h (by omega) (by omega))
  · have hlt : n < out.length := by have := bsR_lt hb; omega
    refine ⟨out.take n, [out[n]], out.drop (n + 1), ?_, ?_, hA, ?_, ?_⟩
    · rw [List.singleton_append, ← List.drop_eq_getElem_cons hlt, List.take_append_drop]
    · rw [cond_true, List.set_eq_take_append_cons_drop, if_pos hlt]
    · intro b hbm
      obtain ⟨k, hk, rfl⟩ := List.getElem_of_mem hbm
      rw [List.length_drop] at hk
      rw [List.getElem_drop]
      rw [hb2, List.getElem?_eq_getElem hlt] at hb
      have h0 : keyC out[n].key x.key = 0 := by rw [← compare_key]; simpa using hb
      have h1 := srt_get h (show n < n + 1 + k by omega) (by omega)
      have h2 := (good_key.eq _ _).1 h0
      unfold RLt at *
      rw [← h2]; exact h1
    · intro y hy
      rw [List.mem_singleton] at hy
      subst hy
      rw [hb2, List.getElem?_eq_getElem hlt] at hb
      exact (good_key.eq _ _).1 (by rw [← compare_key]; simpa using hb)
theorem putR_not {out : List Rule} {x : Rule} (hs : rule_Sound x = false) : putR out x = out := by
  unfold putR
  rw [hs]
  rfl
theorem putR_srt {out : List Rule} (h : Srt out) (x : Rule) : Srt (putR out x) := by
  cases hs : rule_Sound x
  · rw [putR_not hs]; exact h
  · obtain ⟨A, mid, B, e1, e2, e3, e4, _⟩ := putR_split h hs
    rw [e2]
    subst e1
    obtain ⟨p1, p2, p3⟩ := List.pairwise_append.1 h
    obtain ⟨p4, p5, p6⟩ := List.pairwise_append.1 p2
    refine List.pairwise_append.2 ⟨p1, List.pairwise_cons.2 ⟨e4, p5⟩, fun a ha b hb => ?_⟩
    rcases List.mem_cons.1 hb with rfl | hb
    · exact e3 a ha
    · exact (e3 a ha).trans (e4 b hb)
theorem putR_look {out : List Rule} (h : Srt out) (x : Rule) (k : Key3) : look (putR out x) k = if rule_Sound x = true ∧ x.key = k then some x else look out k := by
  cases hs : rule_Sound x
  · rw [putR_not hs, if_neg (by simp)]
  · obtain ⟨A, mid, B, e1, e2, e3, e4, e5⟩ := putR_split h hs
    rw [e2, e1, look_append, look_append, look_append, look_cons]
    by_cases hk : x.key = k
    · rw [if_pos hk, if_pos ⟨rfl, hk⟩, look_none (l := A) (fun y hy e => RLt.irr y x (e.trans hk.symm) (e3 y hy))]
      rfl
    · rw [if_neg hk, if_neg (fun q => hk q.2), look_none (l := mid) (fun y hy e => hk ((e5 y hy).symm.trans e))]
      rfl
theorem putR_mem {out : List Rule} (h : Srt out) {x y : Rule} (hy : y ∈ putR out x) : y ∈ out ∨ (y = x ∧ rule_Sound x = true) := by
  cases hs : rule_Sound x
  · rw [putR_not hs] at hy; exact .inl hy
  · obtain ⟨A, mid, B, e1, e2, _⟩ := putR_split h hs
    rw [e2] at hy
    rw [e1]
    rcases List.mem_append.1 hy with q | q
    · exact .inl (by simp [q])
    · rcases List.mem_cons.1 q with q | q
      · exact .inr ⟨q, rfl⟩
      · exact .inl (by simp [q])
def last (l : List Rule) (k : Key3) : Option Rule := l.foldl (fun acc x => if rule_Sound x = true ∧ x.key = k then some x else acc) none
theorem last_init (l : List Rule) (k : Key3) : ∀ acc : Option Rule, l.foldl (fun acc x => if rule_Sound x = true ∧ x.key = k then some x else acc) acc = (last l k).or acc := by
  unfold last
  induction l with
  | nil => intro acc; simp
  | cons x l ih =>
    intro acc
    rw [List.foldl_cons, List.foldl_cons, ih, ih (if rule_Sound x = true ∧ x.key = k then some x else none)]
    by_cases q : rule_Sound x = true ∧ x.key = k
    · rw [if_pos q, if_pos q]
      cases List.foldl (fun acc x => if rule_Sound x = true ∧ x.key = k then some x else acc) none l <;> rfl
    · rw [if_neg q, if_neg q]
      cases List.foldl (fun acc x => if rule_Sound x = true ∧ x.key = k then some x else acc) none l <;> rfl
theorem last_append (a b : List Rule) (k : Key3) : last (a ++ b) k = (last b k).or (last a k) := by
  unfold last
  rw [List.foldl_append, last_init b]
  rfl
theorem last_cons (x : Rule) (l : List Rule) (k : Key3) : last (x :: l) k = (last l k).or (if rule_Sound x = true ∧ x.key = k then some x else none) := by
  unfold last
  rw [List.foldl_cons, last_init l]
  rfl
theorem fold_srt : ∀ (l out : List Rule), Srt out → Srt (l.foldl putR out)
  | [], out, h => h
  | x :: l, out, h => fold_srt l (putR out x) (putR_srt h x)
theorem fold_look (k : Key3) : ∀ (l out : List Rule), Srt out → look (l.foldl putR out) k = (last l k).or (look out k)
  | [], out, h => rfl
  | x :: l, out, h => by
      rw [List.foldl_cons, fold_look k l _ (putR_srt h x), putR_look h, last_cons]
      by_cases q : rule_Sound x = true ∧ x.key = k
      · rw [if_pos q, if_pos q]; cases last l k <;> rfl
      · rw [if_neg q, if_neg q]; cases last l k <;> rfl
theorem fold_sound : ∀ (l out : List Rule), Srt out → (∀ y ∈ out, rule_Sound y = true) → ∀ y ∈ l.foldl putR out, rule_Sound y = true
  | [], out, _, h => h
  | x :: l, out, hs, h => fold_sound l (putR out x) (putR_srt hs x) (fun y hy => by
      rcases putR_mem hs hy with q | ⟨q, q2⟩
      · exact h y q
      · rw [q]; exact q2)
theorem fold_len : ∀ (l out : List Rule), (l.foldl putR out).length ≤ out.length + l.length
  | [], out => by simp
  | x :: l, out => by
      have h1 := fold_len l (putR out x)
      have h2 := putR_len out x
      rw [List.foldl_cons, List.length_cons]
      omega
theorem sortR_srt (l : List Rule) : Srt (sortR l) := fold_srt l [] List.Pairwise.nil
theorem sortR_sound (l : List Rule) : ∀ y ∈ sortR l, rule_Sound y = true := fold_sound l [] List.Pairwise.nil (by simp)
theorem sortR_look (l : List Rule) (k : Key3) : look (sortR l) k = last l k := by
  unfold sortR
  rw [fold_look k l [] List.Pairwise.nil]
  show (last l k).or none = last l k
  cases last l k <;> rfl
theorem sortR_len (l : List Rule) : (sortR l).length ≤ l.length := by
  have := fold_len l []
  unfold sortR
  simpa using this
theorem last_look : ∀ (l : List Rule), Srt l → (∀ y ∈ l, rule_Sound y = true) → ∀ k, last l k = look l k
  | [], _, _, k => rfl
  | x :: l, h, hs, k => by
      obtain ⟨h1, h2⟩ := List.pairwise_cons.1 h
      rw [last_cons, look_cons, last_look l h2 (fun y hy => hs y (by simp [hy])) k]
      by_cases q : x.key = k
      · rw [if_pos ⟨hs x (by simp), q⟩, if_pos q, look_none (fun y hy e => RLt.irr x y (q.trans e.symm) (h1 y hy))]
        rfl
      · rw [if_neg (fun z => q z.2), if_neg q]
        cases look l k <;> rfl
theorem look_mem {l : List Rule} {k : Key3} {x : Rule} (h : look l k = some x) : x ∈ l := List.mem_of_find?_eq_some h
theorem srt_uniq : ∀ (l r : List Rule), Srt l → Srt r → (∀ k, look l k = look r k) → l = r
  | [], [], _, _, _ => rfl
  | [], y :: r, _, _, h => by
      have := h y.key
      rw [look_cons, if_pos rfl] at this
      cases this
  | x :: l, [], _, _, h => by
      have := h x.key
      rw [look_cons, if_pos rfl] at this
      cases this
  | x :: l, y :: r, hl, hr, h => by
      obtain ⟨l1, l2⟩ := List.pairwise_cons.1 hl
      obtain ⟨r1, r2⟩ := List.pairwise_cons.1 hr
      have hx : x ∈ y :: r := look_mem (k := x.key) (by rw [← h x.key, look_cons, if_pos rfl])
      have hy : y ∈ x :: l := look_mem (k := y.key) (by rw [h y.key, look_cons, if_pos rfl])
      have hxy : x = y := by
        rcases List.mem_cons.1 hx with q | q
        · exact q
        · rcases List.mem_cons.1 hy with q2 | q2
          · exact q2.symm
          · exact absurd (l1 y q2) (RLt.asymm (r1 x q))
      subst hxy
      rw [srt_uniq l r l2 r2 (fun k => ?_)]
      by_cases q : x.key = k
      · rw [look_none (fun y hy e => RLt.irr x y (q.trans e.symm) (l1 y hy)), look_none (fun y hy e => RLt.irr x y (q.trans e.symm) (r1 y hy))]
      · have := h k
        rw [look_cons, look_cons, if_neg q, if_neg q] at this
        exact this
theorem sortR_self {l : List Rule} (h : Srt l) (hs : ∀ y ∈ l, rule_Sound y = true) : sortR l = l :=
  srt_uniq _ _ (sortR_srt l) h (fun k => by rw [sortR_look, last_look l h hs])
theorem sortR_joins (a b : List Rule) : sortR (a ++ b) = sortR (sortR a ++ sortR b) :=
  srt_uniq _ _ (sortR_srt _) (sortR_srt _) (fun k => by
    rw [sortR_look, sortR_look, last_append, last_append, last_look _ (sortR_srt a) (sortR_sound a), last_look _ (sortR_srt b) (sortR_sound b), sortR_look, sortR_look])

end Go.Proofs.Ytockmihfoppkpaa
