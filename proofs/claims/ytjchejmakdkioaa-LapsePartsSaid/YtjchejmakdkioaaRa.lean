import Derived.Test.YtjchejmakdkioaaR9
set_option linter.unusedVariables false
set_option maxRecDepth 100000
set_option maxHeartbeats 4000000
namespace Go.Proofs.Ytjchejmakdkioaa
open Go.Sh
/-! ### podestaref04.Rule: function 52 -/
noncomputable def podestaref04_Rule_F : Go.Sh.Fn := ⟨52, bodyOf Try.f52, 46⟩
def podestaref04_Rule_k0 : List Kd := [.pure, .read, .pure, .pure, .pure, .read, .pure, .pure, .pure, .pure, .read, .pure, .pure, .pure, .pure, .read, .pure, .pure, .pure, .pure, .read, .pure, .pure, .pure, .pure, .read, .pure, .pure, .pure, .pure, .read, .pure, .pure, .pure, .pure, .read, .pure, .pure, .pure, .pure, .read, .pure, .pure, .pure]
def podestaref04_Rule (r2 : Rule) : Bool :=
  (((((((((podestaref01_Cube r2.Match) && (ActsOk r2.Acts)) && (podestaref04_span r2.Prio 65535)) && (podestaref04_span r2.Idle 1048576)) && (podestaref04_span r2.Hard 1048576)) && (podestaref04_span r2.Owner 255)) && (decide (r2.Hits ≥ 0))) && (decide (r2.Quiet ≥ 0))) && (decide (r2.Age ≥ 0)))
theorem podestaref04_Rule_walk (r2 : Rule) (r : Bool) (H : podestaref04_Rule r2 = r) :
    ACalls Try.prog tab.S 52 [Rule.av r2] [] (.sc (.bool r)) [] := by
  have hG := tab_ok
  have hm := mixed
  refine ACalls.of_AR (G := tab) podestaref04_Rule_F (fn := Try.f52) Try.func52 (by kernel_rfl) (by kernel_rfl) (by kernel_rfl) (Nat.le_of_ble_eq_true (by kernel_rfl)) ?_
  intro c0 hc0
  replace hc0 : c0.m.length = 0 := hc0
  rw [podestaref04_Rule] at H
  refine AR.seg hG hm 3 [1] (k' := [.code [1, 0], .code [1, 1]]) (t' := [(1, .ptr 0 0 none)]) (h' := [.box 66 [.arr .u64 12 r2.Match.Value, .arr .u64 12 r2.Match.Care, .sc (.int .i64 r2.Prio), .sl 110 (List.map Act.av r2.Acts) false, .sc (.int .i64 r2.Idle), .sc (.int .i64 r2.Hard), .sc (.int .i64 r2.Owner), .sc (.int .i64 r2.Hits), .sc (.int .i64 r2.Quiet), .sc (.int .i64 r2.Age)]]) (by kernel_rfl) ?_
  refine AR.reg hm podestaref04_Rule_k0 (by kernel_rfl) ?_
  refine DK.seg hG 2 [1, 4] (t' := [(1, .ptr 0 0 none), (4, Cube.av r2.Match)]) (h' := [.box 66 [.arr .u64 12 r2.Match.Value, .arr .u64 12 r2.Match.Care, .sc (.int .i64 r2.Prio), .sl 110 (List.map Act.av r2.Acts) false, .sc (.int .i64 r2.Idle), .sc (.int .i64 r2.Hard), .sc (.int .i64 r2.Owner), .sc (.int .i64 r2.Hits), .sc (.int .i64 r2.Quiet), .sc (.int .i64 r2.Age)]]) (by kernel_rfl) rfl ?_
  refine DK.op' [1, 5] (t' := [(1, .ptr 0 0 none), (5, .sc (.bool (podestaref01_Cube r2.Match)))]) (h' := [.box 66 [.arr .u64 12 r2.Match.Value, .arr .u64 12 r2.Match.Care, .sc (.int .i64 r2.Prio), .sl 110 (List.map Act.av r2.Acts) false, .sc (.int .i64 r2.Idle), .sc (.int .i64 r2.Hard), .sc (.int .i64 r2.Owner), .sc (.int .i64 r2.Hits), .sc (.int .i64 r2.Quiet), .sc (.int .i64 r2.Age)]]) (LSpec.callP' (podestaref01_Cube_calls r2.Match) (by kernel_rfl)) (by kernel_rfl) rfl (by kernel_rfl) rfl ?_
  refine DK.seg hG 1 [1, 6] (t' := [(1, .ptr 0 0 none), (6, .sc (.bool (podestaref01_Cube r2.Match)))]) (h' := [.box 66 [.arr .u64 12 r2.Match.Value, .arr .u64 12 r2.Match.Care, .sc (.int .i64 r2.Prio), .sl 110 (List.map Act.av r2.Acts) false, .sc (.int .i64 r2.Idle), .sc (.int .i64 r2.Hard), .sc (.int .i64 r2.Owner), .sc (.int .i64 r2.Hits), .sc (.int .i64 r2.Quiet), .sc (.int .i64 r2.Age)]]) (by kernel_rfl) rfl ?_
  refine DK.mux 6 (podestaref01_Cube r2.Match) (j := 8) (h' := [.box 66 [.arr .u64 12 r2.Match.Value, .arr .u64 12 r2.Match.Care, .sc (.int .i64 r2.Prio), .sl 110 (List.map Act.av r2.Acts) false, .sc (.int .i64 r2.Idle), .sc (.int .i64 r2.Hard), .sc (.int .i64 r2.Owner), .sc (.int .i64 r2.Hits), .sc (.int .i64 r2.Quiet), .sc (.int .i64 r2.Age)]]) (by kernel_rfl) (fun z => [(1, .ptr 0 0 none), (10, .sc (.bool (z && (ActsOk r2.Acts))))]) ?J1 (fun hb J => ?ht1) (fun hb J => ?hf1)
  case ht1 =>
    refine DK.seg hG 2 [1, 6, 8] (t' := [(1, .ptr 0 0 none), (6, .sc (.bool true)), (8, .sl 110 (List.map Act.av r2.Acts) false)]) (h' := [.box 66 [.arr .u64 12 r2.Match.Value, .arr .u64 12 r2.Match.Care, .sc (.int .i64 r2.Prio), .sl 110 (List.map Act.av r2.Acts) false, .sc (.int .i64 r2.Idle), .sc (.int .i64 r2.Hard), .sc (.int .i64 r2.Owner), .sc (.int .i64 r2.Hits), .sc (.int .i64 r2.Quiet), .sc (.int .i64 r2.Age)]]) (by kernel_rfl) rfl ?_
    refine DK.op' [1, 6, 9] (t' := [(1, .ptr 0 0 none), (6, .sc (.bool true)), (9, .sc (.bool (ActsOk r2.Acts)))]) (h' := [.box 66 [.arr .u64 12 r2.Match.Value, .arr .u64 12 r2.Match.Care, .sc (.int .i64 r2.Prio), .sl 110 (List.map Act.av r2.Acts) false, .sc (.int .i64 r2.Idle), .sc (.int .i64 r2.Hard), .sc (.int .i64 r2.Owner), .sc (.int .i64 r2.Hits), .sc (.int .i64 r2.Quiet), .sc (.int .i64 r2.Age)]]) (LSpec.callP' (Acts_calls r2.Acts false) (by kernel_rfl)) (by kernel_rfl) rfl (by kernel_rfl) rfl ?_
    exact DK.seg hG 1 [1, 10] (by kernel_rfl) rfl J
  case hf1 =>
    exact DK.seg hG 4 [1, 10] (by kernel_rfl) rfl J
  refine DK.seg hG 1 [1, 11] (t' := [(1, .ptr 0 0 none), (11, .sc (.bool ((podestaref01_Cube r2.Match) && (ActsOk r2.Acts))))]) (h' := [.box 66 [.arr .u64 12 r2.Match.Value, .arr .u64 12 r2.Match.Care, .sc (.int .i64 r2.Prio), .sl 110 (List.map Act.av r2.Acts) false, .sc (.int .i64 r2.Idle), .sc (.int .i64 r2.Hard), .sc (.int .i64 r2.Owner), .sc (.int .i64 r2.Hits), .sc (.int .i64 r2.Quiet), .sc (.int .i64 r2.Age)]]) (by kernel_rfl) rfl ?_
  refine DK.mux 11 ((podestaref01_Cube r2.Match) && (ActsOk r2.Acts)) (j := 13) (h' := [.box 66 [.arr .u64 12 r2.Match.Value, .arr .u64 12 r2.Match.Care, .sc (.int .i64 r2.Prio), .sl 110 (List.map Act.av r2.Acts) false, .sc (.int .i64 r2.Idle), .sc (.int .i64 r2.Hard), .sc (.int .i64 r2.Owner), .sc (.int .i64 r2.Hits), .sc (.int .i64 r2.Quiet), .sc (.int .i64 r2.Age)]]) (by kernel_rfl) (fun z => [(1, .ptr 0 0 none), (15, .sc (.bool (z && (podestaref04_span r2.Prio 65535))))]) ?J2 (fun hb J => ?ht2) (fun hb J => ?hf2)
  case ht2 =>
    refine DK.seg hG 2 [1, 11, 13] (t' := [(1, .ptr 0 0 none), (11, .sc (.bool true)), (13, .sc (.int .i64 r2.Prio))]) (h' := [.box 66 [.arr .u64 12 r2.Match.Value, .arr .u64 12 r2.Match.Care, .sc (.int .i64 r2.Prio), .sl 110 (List.map Act.av r2.Acts) false, .sc (.int .i64 r2.Idle), .sc (.int .i64 r2.Hard), .sc (.int .i64 r2.Owner), .sc (.int .i64 r2.Hits), .sc (.int .i64 r2.Quiet), .sc (.int .i64 r2.Age)]]) (by kernel_rfl) rfl ?_
    refine DK.op' [1, 11, 14] (t' := [(1, .ptr 0 0 none), (11, .sc (.bool true)), (14, .sc (.bool (podestaref04_span r2.Prio 65535)))]) (h' := [.box 66 [.arr .u64 12 r2.Match.Value, .arr .u64 12 r2.Match.Care, .sc (.int .i64 r2.Prio), .sl 110 (List.map Act.av r2.Acts) false, .sc (.int .i64 r2.Idle), .sc (.int .i64 r2.Hard), .sc (.int .i64 r2.Owner), .sc (.int .i64 r2.Hits), .sc (.int .i64 r2.Quiet), .sc (.int .i64 r2.Age)]]) (LSpec.callP' (podestaref04_span_calls r2.Prio 65535) (by kernel_rfl)) (by kernel_rfl) rfl (by kernel_rfl) rfl ?_
    exact DK.seg hG 1 [1, 15] (by kernel_rfl) rfl J
  case hf2 =>
    exact DK.seg hG 4 [1, 15] (by kernel_rfl) rfl J
  refine DK.seg hG 1 [1, 16] (t' := [(1, .ptr 0 0 none), (16, .sc (.bool (((podestaref01_Cube r2.Match) && (ActsOk r2.Acts)) && (podestaref04_span r2.Prio 65535))))]) (h' := [.box 66 [.arr .u64 12 r2.Match.Value, .arr .u64 12 r2.Match.Care, .sc (.int .i64 r2.Prio), .sl 110 (List.map Act.av r2.Acts) false, .sc (.int .i64 r2.Idle), .sc (.int .i64 r2.Hard), .sc (.int .i64 r2.Owner), .sc (.int .i64 r2.Hits), .sc (.int .i64 r2.Quiet), .sc (.int .i64 r2.Age)]]) (by kernel_rfl) rfl ?_
  refine DK.mux 16 (((podestaref01_Cube r2.Match) && (ActsOk r2.Acts)) && (podestaref04_span r2.Prio 65535)) (j := 18) (h' := [.box 66 [.arr .u64 12 r2.Match.Value, .arr .u64 12 r2.Match.Care, .sc (.int .i64 r2.Prio), .sl 110 (List.map Act.av r2.Acts) false, .sc (.int .i64 r2.Idle), .sc (.int .i64 r2.Hard), .sc (.int .i64 r2.Owner), .sc (.int .i64 r2.Hits), .sc (.int .i64 r2.Quiet), .sc (.int .i64 r2.Age)]]) (by kernel_rfl) (fun z => [(1, .ptr 0 0 none), (20, .sc (.bool (z && (podestaref04_span r2.Idle 1048576))))]) ?J3 (fun hb J => ?ht3) (fun hb J => ?hf3)
  case ht3 =>
    refine DK.seg hG 2 [1, 16, 18] (t' := [(1, .ptr 0 0 none), (16, .sc (.bool true)), (18, .sc (.int .i64 r2.Idle))]) (h' := [.box 66 [.arr .u64 12 r2.Match.Value, .arr .u64 12 r2.Match.Care, .sc (.int .i64 r2.Prio), .sl 110 (List.map Act.av r2.Acts) false, .sc (.int .i64 r2.Idle), .sc (.int .i64 r2.Hard), .sc (.int .i64 r2.Owner), .sc (.int .i64 r2.Hits), .sc (.int .i64 r2.Quiet), .sc (.int .i64 r2.Age)]]) (by kernel_rfl) rfl ?_
    refine DK.op' [1, 16, 19] (t' := [(1, .ptr 0 0 none), (16, .sc (.bool true)), (19, .sc (.bool (podestaref04_span r2.Idle 1048576)))]) (h' := [.box 66 [.arr .u64 12 r2.Match.Value, .arr .u64 12 r2.Match.Care, .sc (.int .i64 r2.Prio), .sl 110 (List.map Act.av r2.Acts) false, .sc (.int .i64 r2.Idle), .sc (.int .i64 r2.Hard), .sc (.int .i64 r2.Owner), .sc (.int .i64 r2.Hits), .sc (.int .i64 r2.Quiet), .sc (.int .i64 r2.Age)]]) (LSpec.callP' (podestaref04_span_calls r2.Idle 1048576) (by kernel_rfl)) (by kernel_rfl) rfl (by kernel_rfl) rfl ?_
    exact DK.seg hG 1 [1, 20] (by kernel_rfl) rfl J
  case hf3 =>
    exact DK.seg hG 4 [1, 20] (by kernel_rfl) rfl J
  refine DK.seg hG 1 [1, 21] (t' := [(1, .ptr 0 0 none), (21, .sc (.bool ((((podestaref01_Cube r2.Match) && (ActsOk r2.Acts)) && (podestaref04_span r2.Prio 65535)) && (podestaref04_span r2.Idle 1048576))))]) (h' := [.box 66 [.arr .u64 12 r2.Match.Value, .arr .u64 12 r2.Match.Care, .sc (.int .i64 r2.Prio), .sl 110 (List.map Act.av r2.Acts) false, .sc (.int .i64 r2.Idle), .sc (.int .i64 r2.Hard), .sc (.int .i64 r2.Owner), .sc (.int .i64 r2.Hits), .sc (.int .i64 r2.Quiet), .sc (.int .i64 r2.Age)]]) (by kernel_rfl) rfl ?_
  refine DK.mux 21 ((((podestaref01_Cube r2.Match) && (ActsOk r2.Acts)) && (podestaref04_span r2.Prio 65535)) && (podestaref04_span r2.Idle 1048576)) (j := 23) (h' := [.box 66 [.arr .u64 12 r2.Match.Value, .arr .u64 12 r2.Match.Care, .sc (.int .i64 r2.Prio), .sl 110 (List.map Act.av r2.Acts) false, .sc (.int .i64 r2.Idle), .sc (.int .i64 r2.Hard), .sc (.int .i64 r2.Owner), .sc (.int .i64 r2.Hits), .sc (.int .i64 r2.Quiet), .sc (.int .i64 r2.Age)]]) (by kernel_rfl) (fun z => [(1, .ptr 0 0 none), (25, .sc (.bool (z && (podestaref04_span r2.Hard 1048576))))]) ?J4 (fun hb J => ?ht4) (fun hb J => ?hf4)
  case ht4 =>
    refine DK.seg hG 2 [1, 21, 23] (t' := [(1, .ptr 0 0 none), (21, .sc (.bool true)), (23, .sc (.int .i64 r2.Hard))]) (h' := [.box 66 [.arr .u64 12 r2.Match.Value, .arr .u64 12 r2.Match.Care, .sc (.int .i64 r2.Prio), .sl 110 (List.map Act.av r2.Acts) false, .sc (.int .i64 r2.Idle), .sc (.int .i64 r2.Hard), .sc (.int .i64 r2.Owner), .sc (.int .i64 r2.Hits), .sc (.int .i64 r2.Quiet), .sc (.int .i64 r2.Age)]]) (by kernel_rfl) rfl ?_
    refine DK.op' [1, 21, 24] (t' := [(1, .ptr 0 0 none), (21, .sc (.bool true)), (24, .sc (.bool (podestaref04_span r2.Hard 1048576)))]) (h' := [.box 66 [.arr .u64 12 r2.Match.Value, .arr .u64 12 r2.Match.Care, .sc (.int .i64 r2.Prio), .sl 110 (List.map Act.av r2.Acts) false, .sc (.int .i64 r2.Idle), .sc (.int .i64 r2.Hard), .sc (.int .i64 r2.Owner), .sc (.int .i64 r2.Hits), .sc (.int .i64 r2.Quiet), .sc (.int .i64 r2.Age)]]) (LSpec.callP' (podestaref04_span_calls r2.Hard 1048576) (by kernel_rfl)) (by kernel_rfl) rfl (by kernel_rfl) rfl ?_
    exact DK.seg hG 1 [1, 25] (by kernel_rfl) rfl J
  case hf4 =>
    exact DK.seg hG 4 [1, 25] (by kernel_rfl) rfl J
  refine DK.seg hG 1 [1, 26] (t' := [(1, .ptr 0 0 none), (26, .sc (.bool (((((podestaref01_Cube r2.Match) && (ActsOk r2.Acts)) && (podestaref04_span r2.Prio 65535)) && (podestaref04_span r2.Idle 1048576)) && (podestaref04_span r2.Hard 1048576))))]) (h' := [.box 66 [.arr .u64 12 r2.Match.Value, .arr .u64 12 r2.Match.Care, .sc (.int .i64 r2.Prio), .sl 110 (List.map Act.av r2.Acts) false, .sc (.int .i64 r2.Idle), .sc (.int .i64 r2.Hard), .sc (.int .i64 r2.Owner), .sc (.int .i64 r2.Hits), .sc (.int .i64 r2.Quiet), .sc (.int .i64 r2.Age)]]) (by kernel_rfl) rfl ?_
  refine DK.mux 26 (((((podestaref01_Cube r2.Match) && (ActsOk r2.Acts)) && (podestaref04_span r2.Prio 65535)) && (podestaref04_span r2.Idle 1048576)) && (podestaref04_span r2.Hard 1048576)) (j := 28) (h' := [.box 66 [.arr .u64 12 r2.Match.Value, .arr .u64 12 r2.Match.Care, .sc (.int .i64 r2.Prio), .sl 110 (List.map Act.av r2.Acts) false, .sc (.int .i64 r2.Idle), .sc (.int .i64 r2.Hard), .sc (.int .i64 r2.Owner), .sc (.int .i64 r2.Hits), .sc (.int .i64 r2.Quiet), .sc (.int .i64 r2.Age)]]) (by kernel_rfl) (fun z => [(1, .ptr 0 0 none), (30, .sc (.bool (z && (podestaref04_span r2.Owner 255))))]) ?J5 (fun hb J => ?ht5) (fun hb J => ?hf5)
  case ht5 =>
    refine DK.seg hG 2 [1, 26, 28] (t' := [(1, .ptr 0 0 none), (26, .sc (.bool true)), (28, .sc (.int .i64 r2.Owner))]) (h' := [.box 66 [.arr .u64 12 r2.Match.Value, .arr .u64 12 r2.Match.Care, .sc (.int .i64 r2.Prio), .sl 110 (List.map Act.av r2.Acts) false, .sc (.int .i64 r2.Idle), .sc (.int .i64 r2.Hard), .sc (.int .i64 r2.Owner), .sc (.int .i64 r2.Hits), .sc (.int .i64 r2.Quiet), .sc (.int .i64 r2.Age)]]) (by kernel_rfl) rfl ?_
    refine DK.op' [1, 26, 29] (t' := [(1, .ptr 0 0 none), (26, .sc (.bool true)), (29, .sc (.bool (podestaref04_span r2.Owner 255)))]) (h' := [.box 66 [.arr .u64 12 r2.Match.Value, .arr .u64 12 r2.Match.Care, .sc (.int .i64 r2.Prio), .sl 110 (List.map Act.av r2.Acts) false, .sc (.int .i64 r2.Idle), .sc (.int .i64 r2.Hard), .sc (.int .i64 r2.Owner), .sc (.int .i64 r2.Hits), .sc (.int .i64 r2.Quiet), .sc (.int .i64 r2.Age)]]) (LSpec.callP' (podestaref04_span_calls r2.Owner 255) (by kernel_rfl)) (by kernel_rfl) rfl (by kernel_rfl) rfl ?_
    exact DK.seg hG 1 [1, 30] (by kernel_rfl) rfl J
  case hf5 =>
    exact DK.seg hG 4 [1, 30] (by kernel_rfl) rfl J
  refine DK.seg hG 1 [1, 31] (t' := [(1, .ptr 0 0 none), (31, .sc (.bool ((((((podestaref01_Cube r2.Match) && (ActsOk r2.Acts)) && (podestaref04_span r2.Prio 65535)) && (podestaref04_span r2.Idle 1048576)) && (podestaref04_span r2.Hard 1048576)) && (podestaref04_span r2.Owner 255))))]) (h' := [.box 66 [.arr .u64 12 r2.Match.Value, .arr .u64 12 r2.Match.Care, .sc (.int .i64 r2.Prio), .sl 110 (List.map Act.av r2.Acts) false, .sc (.int .i64 r2.Idle), .sc (.int .i64 r2.Hard), .sc (.int .i64 r2.Owner), .sc (.int .i64 r2.Hits), .sc (.int .i64 r2.Quiet), .sc (.int .i64 r2.Age)]]) (by kernel_rfl) rfl ?_
  refine DK.mux 31 ((((((podestaref01_Cube r2.Match) && (ActsOk r2.Acts)) && (podestaref04_span r2.Prio 65535)) && (podestaref04_span r2.Idle 1048576)) && (podestaref04_span r2.Hard 1048576)) && (podestaref04_span r2.Owner 255)) (j := 33) (h' := [.box 66 [.arr .u64 12 r2.Match.Value, .arr .u64 12 r2.Match.Care, .sc (.int .i64 r2.Prio), .sl 110 (List.map Act.av r2.Acts) false, .sc (.int .i64 r2.Idle), .sc (.int .i64 r2.Hard), .sc (.int .i64 r2.Owner), .sc (.int .i64 r2.Hits), .sc (.int .i64 r2.Quiet), .sc (.int .i64 r2.Age)]]) (by kernel_rfl) (fun z => [(1, .ptr 0 0 none), (35, .sc (.bool (z && (decide (r2.Hits ≥ 0)))))]) ?J6 (fun hb J => ?ht6) (fun hb J => ?hf6)
  case ht6 =>
    exact DK.seg hG 4 [1, 35] (by kernel_rfl) rfl J
  case hf6 =>
    exact DK.seg hG 4 [1, 35] (by kernel_rfl) rfl J
  refine DK.seg hG 1 [1, 36] (t' := [(1, .ptr 0 0 none), (36, .sc (.bool (((((((podestaref01_Cube r2.Match) && (ActsOk r2.Acts)) && (podestaref04_span r2.Prio 65535)) && (podestaref04_span r2.Idle 1048576)) && (podestaref04_span r2.Hard 1048576)) && (podestaref04_span r2.Owner 255)) && (decide (r2.Hits ≥ 0)))))]) (h' := [.box 66 [.arr .u64 12 r2.Match.Value, .arr .u64 12 r2.Match.Care, .sc (.int .i64 r2.Prio), .sl 110 (List.map Act.av r2.Acts) false, .sc (.int .i64 r2.Idle), .sc (.int .i64 r2.Hard), .sc (.int .i64 r2.Owner), .sc (.int .i64 r2.Hits), .sc (.int .i64 r2.Quiet), .sc (.int .i64 r2.Age)]]) (by kernel_rfl) rfl ?_
  refine DK.mux 36 (((((((podestaref01_Cube r2.Match) && (ActsOk r2.Acts)) && (podestaref04_span r2.Prio 65535)) && (podestaref04_span r2.Idle 1048576)) && (podestaref04_span r2.Hard 1048576)) && (podestaref04_span r2.Owner 255)) && (decide (r2.Hits ≥ 0))) (j := 38) (h' := [.box 66 [.arr .u64 12 r2.Match.Value, .arr .u64 12 r2.Match.Care, .sc (.int .i64 r2.Prio), .sl 110 (List.map Act.av r2.Acts) false, .sc (.int .i64 r2.Idle), .sc (.int .i64 r2.Hard), .sc (.int .i64 r2.Owner), .sc (.int .i64 r2.Hits), .sc (.int .i64 r2.Quiet), .sc (.int .i64 r2.Age)]]) (by kernel_rfl) (fun z => [(1, .ptr 0 0 none), (40, .sc (.bool (z && (decide (r2.Quiet ≥ 0)))))]) ?J7 (fun hb J => ?ht7) (fun hb J => ?hf7)
  case ht7 =>
    exact DK.seg hG 4 [1, 40] (by kernel_rfl) rfl J
  case hf7 =>
    exact DK.seg hG 4 [1, 40] (by kernel_rfl) rfl J
  refine DK.seg hG 1 [1, 41] (t' := [(1, .ptr 0 0 none), (41, .sc (.bool ((((((((podestaref01_Cube r2.Match) && (ActsOk r2.Acts)) && (podestaref04_span r2.Prio 65535)) && (podestaref04_span r2.Idle 1048576)) && (podestaref04_span r2.Hard 1048576)) && (podestaref04_span r2.Owner 255)) && (decide (r2.Hits ≥ 0))) && (decide (r2.Quiet ≥ 0)))))]) (h' := [.box 66 [.arr .u64 12 r2.Match.Value, .arr .u64 12 r2.Match.Care, .sc (.int .i64 r2.Prio), .sl 110 (List.map Act.av r2.Acts) false, .sc (.int .i64 r2.Idle), .sc (.int .i64 r2.Hard), .sc (.int .i64 r2.Owner), .sc (.int .i64 r2.Hits), .sc (.int .i64 r2.Quiet), .sc (.int .i64 r2.Age)]]) (by kernel_rfl) rfl ?_
  refine DK.mux 41 ((((((((podestaref01_Cube r2.Match) && (ActsOk r2.Acts)) && (podestaref04_span r2.Prio 65535)) && (podestaref04_span r2.Idle 1048576)) && (podestaref04_span r2.Hard 1048576)) && (podestaref04_span r2.Owner 255)) && (decide (r2.Hits ≥ 0))) && (decide (r2.Quiet ≥ 0))) (j := 43) (h' := [.box 66 [.arr .u64 12 r2.Match.Value, .arr .u64 12 r2.Match.Care, .sc (.int .i64 r2.Prio), .sl 110 (List.map Act.av r2.Acts) false, .sc (.int .i64 r2.Idle), .sc (.int .i64 r2.Hard), .sc (.int .i64 r2.Owner), .sc (.int .i64 r2.Hits), .sc (.int .i64 r2.Quiet), .sc (.int .i64 r2.Age)]]) (by kernel_rfl) (fun z => [(45, .sc (.bool (z && (decide (r2.Age ≥ 0)))))]) ?J8 (fun hb J => ?ht8) (fun hb J => ?hf8)
  case ht8 =>
    exact DK.seg hG 4 [45] (by kernel_rfl) rfl J
  case hf8 =>
    exact DK.seg hG 4 [45] (by kernel_rfl) rfl J
  refine DK.seg hG 1 [2] (t' := [(2, .sc (.bool (((((((((podestaref01_Cube r2.Match) && (ActsOk r2.Acts)) && (podestaref04_span r2.Prio 65535)) && (podestaref04_span r2.Idle 1048576)) && (podestaref04_span r2.Hard 1048576)) && (podestaref04_span r2.Owner 255)) && (decide (r2.Hits ≥ 0))) && (decide (r2.Quiet ≥ 0))) && (decide (r2.Age ≥ 0)))))]) (h' := [.box 66 [.arr .u64 12 r2.Match.Value, .arr .u64 12 r2.Match.Care, .sc (.int .i64 r2.Prio), .sl 110 (List.map Act.av r2.Acts) false, .sc (.int .i64 r2.Idle), .sc (.int .i64 r2.Hard), .sc (.int .i64 r2.Owner), .sc (.int .i64 r2.Hits), .sc (.int .i64 r2.Quiet), .sc (.int .i64 r2.Age)]]) (by kernel_rfl) rfl ?_
  refine DK.done (by kernel_rfl) (by kernel_rfl) ?_
  subst H
  exact AR.ret0 (fn := Try.f52) hG Try.func52 (by kernel_rfl) hc0 (r0 := .sc (.bool (((((((((podestaref01_Cube r2.Match) && (ActsOk r2.Acts)) && (podestaref04_span r2.Prio 65535)) && (podestaref04_span r2.Idle 1048576)) && (podestaref04_span r2.Hard 1048576)) && (podestaref04_span r2.Owner 255)) && (decide (r2.Hits ≥ 0))) && (decide (r2.Quiet ≥ 0))) && (decide (r2.Age ≥ 0))))) (by kernel_rfl) (WkV.refl _)
theorem podestaref04_Rule_calls (r2 : Rule) : ACalls Try.prog tab.S 52 [Rule.av r2] [] (.sc (.bool (podestaref04_Rule r2))) [] := podestaref04_Rule_walk r2 _ rfl

/-! ### podestaref04.Table: function 37 -/
noncomputable def podestaref04_Table_F : Go.Sh.Fn := ⟨37, bodyOf Try.f37, 33⟩
def podestaref04_Table_k0 : List Kd := [.pure, .pure, .pure, .read, .pure, .pure, .pure, .pure, .pure, .pure, .pure, .pure, .pure, .pure, .read, .pure, .pure, .pure, .read, .pure, .pure, .pure, .pure]
def podestaref04_Table_l0 (l : List Rule) : Nat → Int → Option (Sum (Unit) (Bool))
  | 0, _ => none
  | m + 1, i =>
    (bif (decide (i < (((List.map Rule.av l).length : Nat) : Int))) then
    (ixO l i).bind fun x =>
    (bif (!(podestaref04_Rule x)) then
      some (.inr false)
    else
      (bif (decide (i > 0)) then
        (ixO l (IntKind.i64.wrap (i - 1))).bind fun x1 =>
        (ixO l i).bind fun x2 =>
        (bif (!(podestaref04_Before x1 x2)) then
          some (.inr false)
        else
          podestaref04_Table_l0 l m (IntKind.i64.wrap (i + 1)))
      else
        podestaref04_Table_l0 l m (IntKind.i64.wrap (i + 1))))
  else
    some (.inl ()))
theorem podestaref04_Table_l0_walk (q0 : Nat) (l : List Rule) (f_l : Bool) (r : Bool) (c0 : Ctx) (hc0 : c0.m.length = 0) (res : Sum (Unit) (Bool)) (J : ∀ w : Unit, res = .inl w → AR Try.prog tab podestaref04_Table_F c0 (Rp tab.S c0 (.sc (.bool r)) []) [.code [1, 1]] [] []) (Jr : ∀ w, res = .inr w → w = r) :
    ∀ (m : Nat) (i : Int) (H : podestaref04_Table_l0 l m i = some res), AR Try.prog tab podestaref04_Table_F c0 (Rp tab.S c0 (.sc (.bool r)) []) [.code [1, 0, 1, 0, 0], .loop [1, 0, 1, 0], .blk 0, .code [1, 1]] [(0, .sl 66 (List.map Rule.av l) f_l), (3, .sc (.int .i64 i))] [] := by
  have hG := tab_ok
  have hm := mixed
  intro m
  induction m with
  | zero => intro i H; cases H
  | succ m ih =>
    intro i H
    rw [podestaref04_Table_l0] at H
    refine AR.seg hG hm 3 [0, 3, 7] (k' := [.code [1, 0, 1, 0, 0, 0, 1], .code [1, 0, 1, 0, 0, 1], .loop [1, 0, 1, 0], .blk 0, .code [1, 1]]) (t' := [(0, .sl 66 (List.map Rule.av l) f_l), (3, .sc (.int .i64 i)), (7, .sc (.bool (decide (i < (((List.map Rule.av l).length : Nat) : Int)))))]) (h' := []) (by kernel_rfl) ?_
    refine AR.cond (.tmp 7) (decide (i < (((List.map Rule.av l).length : Nat) : Int))) (by kernel_rfl) (by kernel_rfl) (fun hb => ?ht9) (fun hb => ?hf9)
    case ht9 =>
      replace H := cond_t hb H
      refine AR.seg hG hm 4 [0, 3] (k' := [.code [1, 0, 1, 0, 0, 1, 0, 0, 0], .code [1, 0, 1, 0, 0, 1, 0, 0, 1], .blk 1, .code [1, 0, 1, 0, 0, 1, 1], .loop [1, 0, 1, 0], .blk 0, .code [1, 1]]) (t' := [(0, .sl 66 (List.map Rule.av l) f_l), (3, .sc (.int .i64 i))]) (h' := []) (by kernel_rfl) ?_
      refine AR.reg hm podestaref04_Table_k0 (by kernel_rfl) ?_
      refine DK.seg hG 2 [0, 3, 10, 11] (t' := [(0, .sl 66 (List.map Rule.av l) f_l), (3, .sc (.int .i64 i)), (10, .sl 66 (List.map Rule.av l) f_l), (11, .sc (.int .i64 i))]) (h' := []) (by kernel_rfl) rfl ?_
      obtain ⟨x, hv, H⟩ := Option.bind_eq_some_iff.1 H
      refine DK.op' [0, 3, 12] (t' := [(0, .sl 66 (List.map Rule.av l) f_l), (3, .sc (.int .i64 i)), (12, .ep [.arr .u64 12 x.Match.Value, .arr .u64 12 x.Match.Care, .sc (.int .i64 x.Prio), .sl 110 (List.map Act.av x.Acts) false, .sc (.int .i64 x.Idle), .sc (.int .i64 x.Hard), .sc (.int .i64 x.Owner), .sc (.int .i64 x.Hits), .sc (.int .i64 x.Quiet), .sc (.int .i64 x.Age)] 0 none)]) (h' := []) (LSpec.index' (r := Rule.av x) (fs := [.arr .u64 12 x.Match.Value, .arr .u64 12 x.Match.Care, .sc (.int .i64 x.Prio), .sl 110 (List.map Act.av x.Acts) false, .sc (.int .i64 x.Idle), .sc (.int .i64 x.Hard), .sc (.int .i64 x.Owner), .sc (.int .i64 x.Hits), .sc (.int .i64 x.Quiet), .sc (.int .i64 x.Age)]) hG (rows := List.map Rule.av l) (j := i) (by kernel_rfl) (ixO_map hv _) (by kernel_rfl)) (by kernel_rfl) rfl (by kernel_rfl) rfl ?_
      refine DK.seg hG 1 [0, 3, 13] (t' := [(0, .sl 66 (List.map Rule.av l) f_l), (3, .sc (.int .i64 i)), (13, Rule.av x)]) (h' := []) (by kernel_rfl) rfl ?_
      refine DK.op' [0, 3, 14] (t' := [(0, .sl 66 (List.map Rule.av l) f_l), (3, .sc (.int .i64 i)), (14, .sc (.bool (podestaref04_Rule x)))]) (h' := []) (LSpec.callP' (podestaref04_Rule_calls x) (by kernel_rfl)) (by kernel_rfl) rfl (by kernel_rfl) rfl ?_
      refine DK.seg hG 2 [0, 3, 16] (t' := [(0, .sl 66 (List.map Rule.av l) f_l), (3, .sc (.int .i64 i)), (16, .sc (.bool (!(podestaref04_Rule x))))]) (h' := []) (by kernel_rfl) rfl ?_
      refine DK.split 16 (!(podestaref04_Rule x)) (by kernel_rfl) (fun hb => ?ht10) (fun hb => ?hf10)
      case ht10 =>
        replace H := cond_t hb H
        refine DK.seg hG 16 [0, 3, 32] (t' := [(0, .sl 66 (List.map Rule.av l) f_l), (3, .sc (.int .i64 i)), (32, .sc (.bool true))]) (h' := []) (by kernel_rfl) rfl ?_
        refine DK.done (by kernel_rfl) (by kernel_rfl) ?_
        refine AR.seg hG hm 3 [2] (k' := [.code [1, 0, 1, 0, 0, 1, 0, 0, 1, 0, 1], .blk 1, .code [1, 0, 1, 0, 0, 1, 1], .loop [1, 0, 1, 0], .blk 0, .code [1, 1]]) (t' := [(2, .sc (.bool false))]) (h' := []) (by kernel_rfl) ?_
        obtain rfl := Option.some.inj H
        obtain rfl := Jr _ rfl
        exact AR.ret0 (fn := Try.f37) hG Try.func37 (by kernel_rfl) hc0 (r0 := .sc (.bool false)) (by kernel_rfl) (WkV.refl _)
      case hf10 =>
        replace H := cond_f hb H
        refine DK.seg hG 3 [0, 3, 16, 19] (t' := [(0, .sl 66 (List.map Rule.av l) f_l), (3, .sc (.int .i64 i)), (16, .sc (.bool false)), (19, .sc (.bool (decide (i > 0))))]) (h' := []) (by kernel_rfl) rfl ?_
        refine DK.split 19 (decide (i > 0)) (by kernel_rfl) (fun hb => ?ht11) (fun hb => ?hf11)
        case ht11 =>
          replace H := cond_t hb H
          refine DK.seg hG 3 [0, 3, 16, 19, 20, 22] (t' := [(0, .sl 66 (List.map Rule.av l) f_l), (3, .sc (.int .i64 i)), (16, .sc (.bool false)), (19, .sc (.bool true)), (20, .sl 66 (List.map Rule.av l) f_l), (22, .sc (.int .i64 (IntKind.i64.wrap (i - 1))))]) (h' := []) (by kernel_rfl) rfl ?_
          obtain ⟨x1, hv, H⟩ := Option.bind_eq_some_iff.1 H
          refine DK.op' [0, 3, 16, 19, 23] (t' := [(0, .sl 66 (List.map Rule.av l) f_l), (3, .sc (.int .i64 i)), (16, .sc (.bool false)), (19, .sc (.bool true)), (23, .ep [.arr .u64 12 x1.Match.Value, .arr .u64 12 x1.Match.Care, .sc (.int .i64 x1.Prio), .sl 110 (List.map Act.av x1.Acts) false, .sc (.int .i64 x1.Idle), .sc (.int .i64 x1.Hard), .sc (.int .i64 x1.Owner), .sc (.int .i64 x1.Hits), .sc (.int .i64 x1.Quiet), .sc (.int .i64 x1.Age)] 0 none)]) (h' := []) (LSpec.index' (r := Rule.av x1) (fs := [.arr .u64 12 x1.Match.Value, .arr .u64 12 x1.Match.Care, .sc (.int .i64 x1.Prio), .sl 110 (List.map Act.av x1.Acts) false, .sc (.int .i64 x1.Idle), .sc (.int .i64 x1.Hard), .sc (.int .i64 x1.Owner), .sc (.int .i64 x1.Hits), .sc (.int .i64 x1.Quiet), .sc (.int .i64 x1.Age)]) hG (rows := List.map Rule.av l) (j := (IntKind.i64.wrap (i - 1))) (by kernel_rfl) (ixO_map hv _) (by kernel_rfl)) (by kernel_rfl) rfl (by kernel_rfl) rfl ?_
          refine DK.seg hG 3 [0, 3, 16, 19, 24, 25, 26] (t' := [(0, .sl 66 (List.map Rule.av l) f_l), (3, .sc (.int .i64 i)), (16, .sc (.bool false)), (19, .sc (.bool true)), (24, Rule.av x1), (25, .sl 66 (List.map Rule.av l) f_l), (26, .sc (.int .i64 i))]) (h' := []) (by kernel_rfl) rfl ?_
          obtain ⟨x2, hv, H⟩ := Option.bind_eq_some_iff.1 H
          refine DK.op' [0, 3, 16, 19, 24, 27] (t' := [(0, .sl 66 (List.map Rule.av l) f_l), (3, .sc (.int .i64 i)), (16, .sc (.bool false)), (19, .sc (.bool true)), (24, Rule.av x1), (27, .ep [.arr .u64 12 x2.Match.Value, .arr .u64 12 x2.Match.Care, .sc (.int .i64 x2.Prio), .sl 110 (List.map Act.av x2.Acts) false, .sc (.int .i64 x2.Idle), .sc (.int .i64 x2.Hard), .sc (.int .i64 x2.Owner), .sc (.int .i64 x2.Hits), .sc (.int .i64 x2.Quiet), .sc (.int .i64 x2.Age)] 0 none)]) (h' := []) (LSpec.index' (r := Rule.av x2) (fs := [.arr .u64 12 x2.Match.Value, .arr .u64 12 x2.Match.Care, .sc (.int .i64 x2.Prio), .sl 110 (List.map Act.av x2.Acts) false, .sc (.int .i64 x2.Idle), .sc (.int .i64 x2.Hard), .sc (.int .i64 x2.Owner), .sc (.int .i64 x2.Hits), .sc (.int .i64 x2.Quiet), .sc (.int .i64 x2.Age)]) hG (rows := List.map Rule.av l) (j := i) (by kernel_rfl) (ixO_map hv _) (by kernel_rfl)) (by kernel_rfl) rfl (by kernel_rfl) rfl ?_
          refine DK.seg hG 1 [0, 3, 16, 19, 24, 28] (t' := [(0, .sl 66 (List.map Rule.av l) f_l), (3, .sc (.int .i64 i)), (16, .sc (.bool false)), (19, .sc (.bool true)), (24, Rule.av x1), (28, Rule.av x2)]) (h' := []) (by kernel_rfl) rfl ?_
          refine DK.op' [0, 3, 16, 19, 29] (t' := [(0, .sl 66 (List.map Rule.av l) f_l), (3, .sc (.int .i64 i)), (16, .sc (.bool false)), (19, .sc (.bool true)), (29, .sc (.bool (podestaref04_Before x1 x2)))]) (h' := []) (LSpec.callP' (podestaref04_Before_calls x1 x2) (by kernel_rfl)) (by kernel_rfl) rfl (by kernel_rfl) rfl ?_
          refine DK.seg hG 3 [0, 3, 32] (t' := [(0, .sl 66 (List.map Rule.av l) f_l), (3, .sc (.int .i64 i)), (32, .sc (.bool (!(podestaref04_Before x1 x2))))]) (h' := []) (by kernel_rfl) rfl ?_
          refine DK.done (by kernel_rfl) (by kernel_rfl) ?_
          refine AR.cond (.tmp 32) (!(podestaref04_Before x1 x2)) (by kernel_rfl) (by kernel_rfl) (fun hb => ?ht12) (fun hb => ?hf12)
          case ht12 =>
            replace H := cond_t hb H
            refine AR.seg hG hm 2 [2] (k' := [.code [1, 0, 1, 0, 0, 1, 0, 0, 1, 0, 1], .blk 1, .code [1, 0, 1, 0, 0, 1, 1], .loop [1, 0, 1, 0], .blk 0, .code [1, 1]]) (t' := [(2, .sc (.bool false))]) (h' := []) (by kernel_rfl) ?_
            obtain rfl := Option.some.inj H
            obtain rfl := Jr _ rfl
            exact AR.ret0 (fn := Try.f37) hG Try.func37 (by kernel_rfl) hc0 (r0 := .sc (.bool false)) (by kernel_rfl) (WkV.refl _)
          case hf12 =>
            replace H := cond_f hb H
            refine AR.seg hG hm 3 [0, 3] (k' := [.loop [1, 0, 1, 0], .blk 0, .code [1, 1]]) (t' := [(0, .sl 66 (List.map Rule.av l) f_l), (3, .sc (.int .i64 (IntKind.i64.wrap (i + 1))))]) (h' := []) (by kernel_rfl) ?_
            refine AR.keep [0, 3] (t' := [(0, .sl 66 (List.map Rule.av l) f_l), (3, .sc (.int .i64 (IntKind.i64.wrap (i + 1))))]) (by kernel_rfl) ?_
            refine AR.loop_round ?_
            exact ih (IntKind.i64.wrap (i + 1)) H
        case hf11 =>
          replace H := cond_f hb H
          refine DK.seg hG 13 [0, 3, 32] (t' := [(0, .sl 66 (List.map Rule.av l) f_l), (3, .sc (.int .i64 i)), (32, .sc (.bool false))]) (h' := []) (by kernel_rfl) rfl ?_
          refine DK.done (by kernel_rfl) (by kernel_rfl) ?_
          refine AR.seg hG hm 4 [0, 3] (k' := [.loop [1, 0, 1, 0], .blk 0, .code [1, 1]]) (t' := [(0, .sl 66 (List.map Rule.av l) f_l), (3, .sc (.int .i64 (IntKind.i64.wrap (i + 1))))]) (h' := []) (by kernel_rfl) ?_
          refine AR.keep [0, 3] (t' := [(0, .sl 66 (List.map Rule.av l) f_l), (3, .sc (.int .i64 (IntKind.i64.wrap (i + 1))))]) (by kernel_rfl) ?_
          refine AR.loop_round ?_
          exact ih (IntKind.i64.wrap (i + 1)) H
    case hf9 =>
      replace H := cond_f hb H
      refine AR.seg hG hm 1 [] (k' := [.code [1, 1]]) (t' := []) (h' := []) (by kernel_rfl) ?_
      refine AR.keep [] (t' := []) (by kernel_rfl) ?_
      exact J () (Option.some.inj H).symm
def podestaref04_Table_raw (q0 : Nat) (l : List Rule) : Option (Bool) :=
  loopO (podestaref04_Table_l0 l q0 0) fun v =>
  some true
theorem podestaref04_Table_walk (q0 : Nat) (l : List Rule) (f_l : Bool) (r : Bool) (H : podestaref04_Table_raw q0 l = some r) :
    ACalls Try.prog tab.S 37 [.sl 66 (List.map Rule.av l) f_l] [] (.sc (.bool r)) [] := by
  have hG := tab_ok
  have hm := mixed
  refine ACalls.of_AR (G := tab) podestaref04_Table_F (fn := Try.f37) Try.func37 (by kernel_rfl) (by kernel_rfl) (by kernel_rfl) (Nat.le_of_ble_eq_true (by kernel_rfl)) ?_
  intro c0 hc0
  replace hc0 : c0.m.length = 0 := hc0
  rw [podestaref04_Table_raw] at H
  refine AR.seg hG hm 6 [0, 3] (k' := [.code [1, 0, 1, 0], .blk 0, .code [1, 1]]) (t' := [(0, .sl 66 (List.map Rule.av l) f_l), (3, .sc (.int .i64 0))]) (h' := []) (by kernel_rfl) ?_
  rcases loopO_some H with ⟨v, hv, H⟩ | hv
  case inr =>
    refine AR.into (by kernel_rfl) ?_
    exact podestaref04_Table_l0_walk q0 l f_l r c0 hc0 (.inr r) (fun _ e => by cases e) (fun _ e => (Sum.inr.inj e).symm) q0 0 hv
  refine AR.into (by kernel_rfl) ?_
  refine podestaref04_Table_l0_walk q0 l f_l r c0 hc0 (.inl v) (fun w e => ?_) (fun _ e => by cases e) q0 0 hv
  have e := Sum.inl.inj e
  subst e
  refine AR.seg hG hm 2 [2] (k' := [.code [1, 1, 1]]) (t' := [(2, .sc (.bool true))]) (h' := []) (by kernel_rfl) ?_
  obtain rfl := Option.some.inj H
  exact AR.ret0 (fn := Try.f37) hG Try.func37 (by kernel_rfl) hc0 (r0 := .sc (.bool true)) (by kernel_rfl) (WkV.refl _)

end Go.Proofs.Ytjchejmakdkioaa
