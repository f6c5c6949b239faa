import Derived.Test.YtlfiemphadkimaaM4UndoAny
set_option linter.unusedVariables false
set_option linter.unusedSimpArgs false
set_option maxRecDepth 100000
set_option maxHeartbeats 4000000
namespace Go.Proofs.Ytlfiemphadkimaa
open Go.Sh
/-! ### podestaref01.Cube: function 36 -/
noncomputable def podestaref01_Cube_F : Go.Sh.Fn := ⟨36, bodyOf Try.f36, 11⟩
def podestaref01_Cube_k0 : List Kd := [.read, .pure, .pure, .pure, .pure, .pure, .pure]
def podestaref01_Cube (c : Cube) : Bool :=
  (textT c).2
theorem podestaref01_Cube_walk (c : Cube) (r : Bool) (H : podestaref01_Cube c = r) :
    ACalls Try.prog tab.S 36 [Cube.av c] [] (.sc (.bool r)) [] := by
  have hG := tab_ok
  have hm := mixed
  refine ACalls.of_AR (G := tab) podestaref01_Cube_F (fn := Try.f36) Try.func36 (by kernel_rfl) (by kernel_rfl) (by kernel_rfl) (Nat.le_of_ble_eq_true (by kernel_rfl)) ?_
  intro c0 hc0
  replace hc0 : c0.m.length = 0 := hc0
  rw [podestaref01_Cube] at H
  refine AR.seg hG hm 3 [1] (k' := [.code [1, 0], .code [1, 1]]) (t' := [(1, .ptr 0 0 none)]) (h' := [.box 30 (Cube.ch c)]) (by kernel_rfl) ?_
  refine AR.reg hm podestaref01_Cube_k0 (by kernel_rfl) ?_
  refine DK.seg hG 1 [6] (t' := [(6, Cube.av c)]) (h' := [.box 30 (Cube.ch c)]) (by kernel_rfl) rfl ?_
  refine DK.op' [7] (t' := [(7, .tup [.sc (.string ((textT c).1)), .sc (.bool ((textT c).2))])]) (h' := [.box 30 (Cube.ch c)]) (LSpec.callP' (podestaref01_Text_ok c) (by kernel_rfl)) (by kernel_rfl) rfl (by kernel_rfl) rfl ?_
  refine DK.seg hG 5 [4] (t' := [(4, .sc (.bool ((textT c).2)))]) (h' := [.box 30 (Cube.ch c)]) (by kernel_rfl) rfl ?_
  refine DK.done (by kernel_rfl) (by kernel_rfl) ?_
  refine AR.seg hG hm 2 [2] (k' := [.code [1, 1, 1]]) (t' := [(2, .sc (.bool ((textT c).2)))]) (h' := [.box 30 (Cube.ch c)]) (by kernel_rfl) ?_
  subst H
  exact AR.ret0 (fn := Try.f36) hG Try.func36 (by kernel_rfl) hc0 (r0 := .sc (.bool ((textT c).2))) (by kernel_rfl) (WkV.refl _)
theorem podestaref01_Cube_calls (c : Cube) : ACalls Try.prog tab.S 36 [Cube.av c] [] (.sc (.bool (podestaref01_Cube c))) [] := podestaref01_Cube_walk c _ rfl

/-! ### podestaref04.span: function 38 -/
noncomputable def podestaref04_span_F : Go.Sh.Fn := ⟨38, bodyOf Try.f38, 12⟩
def podestaref04_span_k0 : List Kd := [.pure, .pure, .pure, .pure, .pure, .pure, .pure, .pure]
def podestaref04_span (n : Int) (most : Int) : Bool :=
  ((decide (n ≥ 0)) && (decide (n ≤ most)))
theorem podestaref04_span_walk (n : Int) (most : Int) (r : Bool) (H : podestaref04_span n most = r) :
    ACalls Try.prog tab.S 38 [.sc (.int .i64 n), .sc (.int .i64 most)] [] (.sc (.bool r)) [] := by
  have hG := tab_ok
  have hm := mixed
  refine ACalls.of_AR (G := tab) podestaref04_span_F (fn := Try.f38) Try.func38 (by kernel_rfl) (by kernel_rfl) (by kernel_rfl) (Nat.le_of_ble_eq_true (by kernel_rfl)) ?_
  intro c0 hc0
  replace hc0 : c0.m.length = 0 := hc0
  rw [podestaref04_span] at H
  refine AR.seg hG hm 3 [0, 1] (k' := [.code [1, 0], .code [1, 1]]) (t' := [(0, .sc (.int .i64 n)), (1, .sc (.int .i64 most))]) (h' := []) (by kernel_rfl) ?_
  refine AR.reg hm podestaref04_span_k0 (by kernel_rfl) ?_
  refine DK.seg hG 3 [0, 1, 7] (t' := [(0, .sc (.int .i64 n)), (1, .sc (.int .i64 most)), (7, .sc (.bool (decide (n ≥ 0))))]) (h' := []) (by kernel_rfl) rfl ?_
  refine DK.mux 7 (decide (n ≥ 0)) (j := 7) (h' := []) (by kernel_rfl) (fun z => [(11, .sc (.bool (z && (decide (n ≤ most)))))]) ?J1 (fun hb J => ?ht1) (fun hb J => ?hf1)
  case ht1 =>
    exact DK.seg hG 4 [11] (by kernel_rfl) rfl J
  case hf1 =>
    exact DK.seg hG 4 [11] (by kernel_rfl) rfl J
  refine DK.seg hG 1 [4] (t' := [(4, .sc (.bool ((decide (n ≥ 0)) && (decide (n ≤ most)))))]) (h' := []) (by kernel_rfl) rfl ?_
  refine DK.done (by kernel_rfl) (by kernel_rfl) ?_
  subst H
  exact AR.ret0 (fn := Try.f38) hG Try.func38 (by kernel_rfl) hc0 (r0 := .sc (.bool ((decide (n ≥ 0)) && (decide (n ≤ most))))) (by kernel_rfl) (WkV.refl _)
theorem podestaref04_span_calls (n : Int) (most : Int) : ACalls Try.prog tab.S 38 [.sc (.int .i64 n), .sc (.int .i64 most)] [] (.sc (.bool (podestaref04_span n most))) [] := podestaref04_span_walk n most _ rfl

/-! ### podestaref04.Rule: function 28 -/
noncomputable def podestaref04_Rule_F : Go.Sh.Fn := ⟨28, bodyOf Try.f28, 46⟩
def podestaref04_Rule_k0 : List Kd := [.pure, .read, .pure, .pure, .pure, .read, .pure, .pure, .pure, .pure, .read, .pure, .pure, .pure, .pure, .read, .pure, .pure, .pure, .pure, .read, .pure, .pure, .pure, .pure, .read, .pure, .pure, .pure, .pure, .read, .pure, .pure, .pure, .pure, .read, .pure, .pure, .pure, .pure, .read, .pure, .pure, .pure]
def podestaref04_Rule (r2 : Rule) : Bool :=
  (((((((((podestaref01_Cube r2.Match) && (podestaref04_Acts r2.Acts)) && (podestaref04_span r2.Prio 65535)) && (podestaref04_span r2.Idle 1048576)) && (podestaref04_span r2.Hard 1048576)) && (podestaref04_span r2.Owner 255)) && (decide (r2.Hits ≥ 0))) && (decide (r2.Quiet ≥ 0))) && (decide (r2.Age ≥ 0)))
theorem podestaref04_Rule_walk (r2 : Rule) (r : Bool) (H : podestaref04_Rule r2 = r) :
    ACalls Try.prog tab.S 28 [Rule.av r2] [] (.sc (.bool r)) [] := by
  have hG := tab_ok
  have hm := mixed
  refine ACalls.of_AR (G := tab) podestaref04_Rule_F (fn := Try.f28) Try.func28 (by kernel_rfl) (by kernel_rfl) (by kernel_rfl) (Nat.le_of_ble_eq_true (by kernel_rfl)) ?_
  intro c0 hc0
  replace hc0 : c0.m.length = 0 := hc0
  rw [podestaref04_Rule] at H
  refine AR.seg hG hm 3 [1] (k' := [.code [1, 0], .code [1, 1]]) (t' := [(1, .ptr 0 0 none)]) (h' := [.box 51 (Rule.ch r2)]) (by kernel_rfl) ?_
  refine AR.reg hm podestaref04_Rule_k0 (by kernel_rfl) ?_
  refine DK.seg hG 2 [1, 4] (t' := [(1, .ptr 0 0 none), (4, Cube.av r2.Match)]) (h' := [.box 51 (Rule.ch r2)]) (by kernel_rfl) rfl ?_
  refine DK.op' [1, 5] (t' := [(1, .ptr 0 0 none), (5, .sc (.bool (podestaref01_Cube r2.Match)))]) (h' := [.box 51 (Rule.ch r2)]) (LSpec.callP' (podestaref01_Cube_calls r2.Match) (by kernel_rfl)) (by kernel_rfl) rfl (by kernel_rfl) rfl ?_
  refine DK.seg hG 1 [1, 6] (t' := [(1, .ptr 0 0 none), (6, .sc (.bool (podestaref01_Cube r2.Match)))]) (h' := [.box 51 (Rule.ch r2)]) (by kernel_rfl) rfl ?_
  refine DK.mux 6 (podestaref01_Cube r2.Match) (j := 8) (h' := [.box 51 (Rule.ch r2)]) (by kernel_rfl) (fun z => [(1, .ptr 0 0 none), (10, .sc (.bool (z && (podestaref04_Acts r2.Acts))))]) ?J1 (fun hb J => ?ht1) (fun hb J => ?hf1)
  case ht1 =>
    refine DK.seg hG 2 [1, 6, 8] (t' := [(1, .ptr 0 0 none), (6, .sc (.bool true)), (8, .sl 60 (List.map Act.av r2.Acts) false)]) (h' := [.box 51 (Rule.ch r2)]) (by kernel_rfl) rfl ?_
    refine DK.op' [1, 6, 9] (t' := [(1, .ptr 0 0 none), (6, .sc (.bool true)), (9, .sc (.bool (podestaref04_Acts r2.Acts)))]) (h' := [.box 51 (Rule.ch r2)]) (LSpec.callP' (podestaref04_Acts_calls r2.Acts false) (by kernel_rfl)) (by kernel_rfl) rfl (by kernel_rfl) rfl ?_
    exact DK.seg hG 1 [1, 10] (by kernel_rfl) rfl J
  case hf1 =>
    exact DK.seg hG 4 [1, 10] (by kernel_rfl) rfl J
  refine DK.seg hG 1 [1, 11] (t' := [(1, .ptr 0 0 none), (11, .sc (.bool ((podestaref01_Cube r2.Match) && (podestaref04_Acts r2.Acts))))]) (h' := [.box 51 (Rule.ch r2)]) (by kernel_rfl) rfl ?_
  refine DK.mux 11 ((podestaref01_Cube r2.Match) && (podestaref04_Acts r2.Acts)) (j := 13) (h' := [.box 51 (Rule.ch r2)]) (by kernel_rfl) (fun z => [(1, .ptr 0 0 none), (15, .sc (.bool (z && (podestaref04_span r2.Prio 65535))))]) ?J2 (fun hb J => ?ht2) (fun hb J => ?hf2)
  case ht2 =>
    refine DK.seg hG 2 [1, 11, 13] (t' := [(1, .ptr 0 0 none), (11, .sc (.bool true)), (13, .sc (.int .i64 r2.Prio))]) (h' := [.box 51 (Rule.ch r2)]) (by kernel_rfl) rfl ?_
    refine DK.op' [1, 11, 14] (t' := [(1, .ptr 0 0 none), (11, .sc (.bool true)), (14, .sc (.bool (podestaref04_span r2.Prio 65535)))]) (h' := [.box 51 (Rule.ch r2)]) (LSpec.callP' (podestaref04_span_calls r2.Prio 65535) (by kernel_rfl)) (by kernel_rfl) rfl (by kernel_rfl) rfl ?_
    exact DK.seg hG 1 [1, 15] (by kernel_rfl) rfl J
  case hf2 =>
    exact DK.seg hG 4 [1, 15] (by kernel_rfl) rfl J
  refine DK.seg hG 1 [1, 16] (t' := [(1, .ptr 0 0 none), (16, .sc (.bool (((podestaref01_Cube r2.Match) && (podestaref04_Acts r2.Acts)) && (podestaref04_span r2.Prio 65535))))]) (h' := [.box 51 (Rule.ch r2)]) (by kernel_rfl) rfl ?_
  refine DK.mux 16 (((podestaref01_Cube r2.Match) && (podestaref04_Acts r2.Acts)) && (podestaref04_span r2.Prio 65535)) (j := 18) (h' := [.box 51 (Rule.ch r2)]) (by kernel_rfl) (fun z => [(1, .ptr 0 0 none), (20, .sc (.bool (z && (podestaref04_span r2.Idle 1048576))))]) ?J3 (fun hb J => ?ht3) (fun hb J => ?hf3)
  case ht3 =>
    refine DK.seg hG 2 [1, 16, 18] (t' := [(1, .ptr 0 0 none), (16, .sc (.bool true)), (18, .sc (.int .i64 r2.Idle))]) (h' := [.box 51 (Rule.ch r2)]) (by kernel_rfl) rfl ?_
    refine DK.op' [1, 16, 19] (t' := [(1, .ptr 0 0 none), (16, .sc (.bool true)), (19, .sc (.bool (podestaref04_span r2.Idle 1048576)))]) (h' := [.box 51 (Rule.ch r2)]) (LSpec.callP' (podestaref04_span_calls r2.Idle 1048576) (by kernel_rfl)) (by kernel_rfl) rfl (by kernel_rfl) rfl ?_
    exact DK.seg hG 1 [1, 20] (by kernel_rfl) rfl J
  case hf3 =>
    exact DK.seg hG 4 [1, 20] (by kernel_rfl) rfl J
  refine DK.seg hG 1 [1, 21] (t' := [(1, .ptr 0 0 none), (21, .sc (.bool ((((podestaref01_Cube r2.Match) && (podestaref04_Acts r2.Acts)) && (podestaref04_span r2.Prio 65535)) && (podestaref04_span r2.Idle 1048576))))]) (h' := [.box 51 (Rule.ch r2)]) (by kernel_rfl) rfl ?_
  refine DK.mux 21 ((((podestaref01_Cube r2.Match) && (podestaref04_Acts r2.Acts)) && (podestaref04_span r2.Prio 65535)) && (podestaref04_span r2.Idle 1048576)) (j := 23) (h' := [.box 51 (Rule.ch r2)]) (by kernel_rfl) (fun z => [(1, .ptr 0 0 none), (25, .sc (.bool (z && (podestaref04_span r2.Hard 1048576))))]) ?J4 (fun hb J => ?ht4) (fun hb J => ?hf4)
  case ht4 =>
    refine DK.seg hG 2 [1, 21, 23] (t' := [(1, .ptr 0 0 none), (21, .sc (.bool true)), (23, .sc (.int .i64 r2.Hard))]) (h' := [.box 51 (Rule.ch r2)]) (by kernel_rfl) rfl ?_
    refine DK.op' [1, 21, 24] (t' := [(1, .ptr 0 0 none), (21, .sc (.bool true)), (24, .sc (.bool (podestaref04_span r2.Hard 1048576)))]) (h' := [.box 51 (Rule.ch r2)]) (LSpec.callP' (podestaref04_span_calls r2.Hard 1048576) (by kernel_rfl)) (by kernel_rfl) rfl (by kernel_rfl) rfl ?_
    exact DK.seg hG 1 [1, 25] (by kernel_rfl) rfl J
  case hf4 =>
    exact DK.seg hG 4 [1, 25] (by kernel_rfl) rfl J
  refine DK.seg hG 1 [1, 26] (t' := [(1, .ptr 0 0 none), (26, .sc (.bool (((((podestaref01_Cube r2.Match) && (podestaref04_Acts r2.Acts)) && (podestaref04_span r2.Prio 65535)) && (podestaref04_span r2.Idle 1048576)) && (podestaref04_span r2.Hard 1048576))))]) (h' := [.box 51 (Rule.ch r2)]) (by kernel_rfl) rfl ?_
  refine DK.mux 26 (((((podestaref01_Cube r2.Match) && (podestaref04_Acts r2.Acts)) && (podestaref04_span r2.Prio 65535)) && (podestaref04_span r2.Idle 1048576)) && (podestaref04_span r2.Hard 1048576)) (j := 28) (h' := [.box 51 (Rule.ch r2)]) (by kernel_rfl) (fun z => [(1, .ptr 0 0 none), (30, .sc (.bool (z && (podestaref04_span r2.Owner 255))))]) ?J5 (fun hb J => ?ht5) (fun hb J => ?hf5)
  case ht5 =>
    refine DK.seg hG 2 [1, 26, 28] (t' := [(1, .ptr 0 0 none), (26, .sc (.bool true)), (28, .sc (.int .i64 r2.Owner))]) (h' := [.box 51 (Rule.ch r2)]) (by kernel_rfl) rfl ?_
    refine DK.op' [1, 26, 29] (t' := [(1, .ptr 0 0 none), (26, .sc (.bool true)), (29, .sc (.bool (podestaref04_span r2.Owner 255)))]) (h' := [.box 51 (Rule.ch r2)]) (LSpec.callP' (podestaref04_span_calls r2.Owner 255) (by kernel_rfl)) (by kernel_rfl) rfl (by kernel_rfl) rfl ?_
    exact DK.seg hG 1 [1, 30] (by kernel_rfl) rfl J
  case hf5 =>
    exact DK.seg hG 4 [1, 30] (by kernel_rfl) rfl J
  refine DK.seg hG 1 [1, 31] (t' := [(1, .ptr 0 0 none), (31, .sc (.bool ((((((podestaref01_Cube r2.Match) && (podestaref04_Acts r2.Acts)) && (podestaref04_span r2.Prio 65535)) && (podestaref04_span r2.Idle 1048576)) && (podestaref04_span r2.Hard 1048576)) && (podestaref04_span r2.Owner 255))))]) (h' := [.box 51 (Rule.ch r2)]) (by kernel_rfl) rfl ?_
  refine DK.mux 31 ((((((podestaref01_Cube r2.Match) && (podestaref04_Acts r2.Acts)) && (podestaref04_span r2.Prio 65535)) && (podestaref04_span r2.Idle 1048576)) && (podestaref04_span r2.Hard 1048576)) && (podestaref04_span r2.Owner 255)) (j := 33) (h' := [.box 51 (Rule.ch r2)]) (by kernel_rfl) (fun z => [(1, .ptr 0 0 none), (35, .sc (.bool (z && (decide (r2.Hits ≥ 0)))))]) ?J6 (fun hb J => ?ht6) (fun hb J => ?hf6)
  case ht6 =>
    exact DK.seg hG 4 [1, 35] (by kernel_rfl) rfl J
  case hf6 =>
    exact DK.seg hG 4 [1, 35] (by kernel_rfl) rfl J
  refine DK.seg hG 1 [1, 36] (t' := [(1, .ptr 0 0 none), (36, .sc (.bool (((((((podestaref01_Cube r2.Match) && (podestaref04_Acts r2.Acts)) && (podestaref04_span r2.Prio 65535)) && (podestaref04_span r2.Idle 1048576)) && (podestaref04_span r2.Hard 1048576)) && (podestaref04_span r2.Owner 255)) && (decide (r2.Hits ≥ 0)))))]) (h' := [.box 51 (Rule.ch r2)]) (by kernel_rfl) rfl ?_
  refine DK.mux 36 (((((((podestaref01_Cube r2.Match) && (podestaref04_Acts r2.Acts)) && (podestaref04_span r2.Prio 65535)) && (podestaref04_span r2.Idle 1048576)) && (podestaref04_span r2.Hard 1048576)) && (podestaref04_span r2.Owner 255)) && (decide (r2.Hits ≥ 0))) (j := 38) (h' := [.box 51 (Rule.ch r2)]) (by kernel_rfl) (fun z => [(1, .ptr 0 0 none), (40, .sc (.bool (z && (decide (r2.Quiet ≥ 0)))))]) ?J7 (fun hb J => ?ht7) (fun hb J => ?hf7)
  case ht7 =>
    exact DK.seg hG 4 [1, 40] (by kernel_rfl) rfl J
  case hf7 =>
    exact DK.seg hG 4 [1, 40] (by kernel_rfl) rfl J
  refine DK.seg hG 1 [1, 41] (t' := [(1, .ptr 0 0 none), (41, .sc (.bool ((((((((podestaref01_Cube r2.Match) && (podestaref04_Acts r2.Acts)) && (podestaref04_span r2.Prio 65535)) && (podestaref04_span r2.Idle 1048576)) && (podestaref04_span r2.Hard 1048576)) && (podestaref04_span r2.Owner 255)) && (decide (r2.Hits ≥ 0))) && (decide (r2.Quiet ≥ 0)))))]) (h' := [.box 51 (Rule.ch r2)]) (by kernel_rfl) rfl ?_
  refine DK.mux 41 ((((((((podestaref01_Cube r2.Match) && (podestaref04_Acts r2.Acts)) && (podestaref04_span r2.Prio 65535)) && (podestaref04_span r2.Idle 1048576)) && (podestaref04_span r2.Hard 1048576)) && (podestaref04_span r2.Owner 255)) && (decide (r2.Hits ≥ 0))) && (decide (r2.Quiet ≥ 0))) (j := 43) (h' := [.box 51 (Rule.ch r2)]) (by kernel_rfl) (fun z => [(45, .sc (.bool (z && (decide (r2.Age ≥ 0)))))]) ?J8 (fun hb J => ?ht8) (fun hb J => ?hf8)
  case ht8 =>
    exact DK.seg hG 4 [45] (by kernel_rfl) rfl J
  case hf8 =>
    exact DK.seg hG 4 [45] (by kernel_rfl) rfl J
  refine DK.seg hG 1 [2] (t' := [(2, .sc (.bool (((((((((podestaref01_Cube r2.Match) && (podestaref04_Acts r2.Acts)) && (podestaref04_span r2.Prio 65535)) && (podestaref04_span r2.Idle 1048576)) && (podestaref04_span r2.Hard 1048576)) && (podestaref04_span r2.Owner 255)) && (decide (r2.Hits ≥ 0))) && (decide (r2.Quiet ≥ 0))) && (decide (r2.Age ≥ 0)))))]) (h' := [.box 51 (Rule.ch r2)]) (by kernel_rfl) rfl ?_
  refine DK.done (by kernel_rfl) (by kernel_rfl) ?_
  subst H
  exact AR.ret0 (fn := Try.f28) hG Try.func28 (by kernel_rfl) hc0 (r0 := .sc (.bool (((((((((podestaref01_Cube r2.Match) && (podestaref04_Acts r2.Acts)) && (podestaref04_span r2.Prio 65535)) && (podestaref04_span r2.Idle 1048576)) && (podestaref04_span r2.Hard 1048576)) && (podestaref04_span r2.Owner 255)) && (decide (r2.Hits ≥ 0))) && (decide (r2.Quiet ≥ 0))) && (decide (r2.Age ≥ 0))))) (by kernel_rfl) (WkV.refl _)
theorem podestaref04_Rule_calls (r2 : Rule) : ACalls Try.prog tab.S 28 [Rule.av r2] [] (.sc (.bool (podestaref04_Rule r2))) [] := podestaref04_Rule_walk r2 _ rfl

/-! ### podestaref01.Order: function 72 -/
noncomputable def podestaref01_Order_F : Go.Sh.Fn := ⟨72, bodyOf Try.f72, 24⟩
def podestaref01_Order_k1 : List Kd := [.pure, .pure, .read, .pure, .pure, .read, .pure]
def podestaref01_Order_k0 : List Kd := [.pure, .pure, .read, .pure, .pure, .read, .pure]
def podestaref01_Order_l0s (a : List Int) (b : List Int) : Nat → Nat → Sum (Unit) (Int)
  | 0, i =>
    (.inl ())
  | rest + 1, i =>
    (bif (decide ((a.getD (i) 0) < (b.getD (i) 0))) then
      (.inr (-1))
    else
      (bif (decide ((a.getD (i) 0) > (b.getD (i) 0))) then
        (.inr 1)
      else
        podestaref01_Order_l0s a b rest (i + 1) ))
theorem podestaref01_Order_l0_walk (a : List Int) (b : List Int) (r : Int) (c0 : Ctx) (hc0 : c0.m.length = 0) (res : Sum (Unit) (Int)) (J : ∀ w : Unit, res = .inl w → AR Try.prog tab podestaref01_Order_F c0 (Rp tab.S c0 (.sc (.int .i64 r)) []) [.code [1, 1]] [] [.box 28 [.arr .u64 12 a], .box 28 [.arr .u64 12 b]]) (Jr : ∀ w, res = .inr w → w = r) :
    ∀ (rest : Nat) (i : Nat) (hd : i + rest = 12) (H : podestaref01_Order_l0s a b rest i = res), AR Try.prog tab podestaref01_Order_F c0 (Rp tab.S c0 (.sc (.int .i64 r)) []) [.code [1, 0, 1, 0, 0], .loop [1, 0, 1, 0], .blk 0, .code [1, 1]] [(2, .ptr 0 0 none), (3, .ptr 1 0 none), (5, .sc (.int .i64 ((i : Nat) : Int)))] [.box 28 [.arr .u64 12 a], .box 28 [.arr .u64 12 b]] := by
  have hG := tab_ok
  have hm := mixed
  intro rest
  induction rest with
  | zero =>
    intro i hd  H
    rw [podestaref01_Order_l0s] at H
    have hc : (decide (((i : Nat) : Int) < 12)) = false := decide_eq_false (by omega)
    refine AR.seg hG hm 3 [2, 3, 5, 7] (k' := [.code [1, 0, 1, 0, 0, 0, 1], .code [1, 0, 1, 0, 0, 1], .loop [1, 0, 1, 0], .blk 0, .code [1, 1]]) (t' := [(2, .ptr 0 0 none), (3, .ptr 1 0 none), (5, .sc (.int .i64 ((i : Nat) : Int))), (7, .sc (.bool (decide (((i : Nat) : Int) < 12))))]) (h' := [.box 28 [.arr .u64 12 a], .box 28 [.arr .u64 12 b]]) (by kernel_rfl) ?_
    refine AR.cond (.tmp 7) (decide (((i : Nat) : Int) < 12)) (by kernel_rfl) (by kernel_rfl) (fun hb => ?ht10) (fun hb => ?hf10)
    case ht10 => exact absurd (hb.symm.trans hc) (by decide)
    case hf10 =>
      refine AR.seg hG hm 1 [] (k' := [.code [1, 1]]) (t' := []) (h' := [.box 28 [.arr .u64 12 a], .box 28 [.arr .u64 12 b]]) (by kernel_rfl) ?_
      refine AR.keep [] (t' := []) (by kernel_rfl) ?_
      exact J () H.symm
  | succ rest ih =>
    intro i hd  H
    rw [podestaref01_Order_l0s] at H
    have hlt_i : i < 12 := by omega
    have hc : (decide (((i : Nat) : Int) < 12)) = true := decide_eq_true (by omega)
    have hw : IntKind.i64.wrap (((i : Nat) : Int) + 1) = ((i + 1 : Nat) : Int) := wrapI_succ (by omega)
    refine AR.seg hG hm 3 [2, 3, 5, 7] (k' := [.code [1, 0, 1, 0, 0, 0, 1], .code [1, 0, 1, 0, 0, 1], .loop [1, 0, 1, 0], .blk 0, .code [1, 1]]) (t' := [(2, .ptr 0 0 none), (3, .ptr 1 0 none), (5, .sc (.int .i64 ((i : Nat) : Int))), (7, .sc (.bool (decide (((i : Nat) : Int) < 12))))]) (h' := [.box 28 [.arr .u64 12 a], .box 28 [.arr .u64 12 b]]) (by kernel_rfl) ?_
    refine AR.cond (.tmp 7) (decide (((i : Nat) : Int) < 12)) (by kernel_rfl) (by kernel_rfl) (fun hb => ?ht11) (fun hb => ?hf11)
    case ht11 =>
      refine AR.seg hG hm 5 [2, 3, 5] (k' := [.code [1, 0, 1, 0, 0, 1, 0, 0, 0, 0], .code [1, 0, 1, 0, 0, 1, 0, 0, 0, 1], .code [1, 0, 1, 0, 0, 1, 0, 0, 1], .blk 1, .code [1, 0, 1, 0, 0, 1, 1], .loop [1, 0, 1, 0], .blk 0, .code [1, 1]]) (t' := [(2, .ptr 0 0 none), (3, .ptr 1 0 none), (5, .sc (.int .i64 ((i : Nat) : Int)))]) (h' := [.box 28 [.arr .u64 12 a], .box 28 [.arr .u64 12 b]]) (by kernel_rfl) ?_
      refine AR.reg hm podestaref01_Order_k0 (by kernel_rfl) ?_
      refine DK.seg hG 1 [2, 3, 5, 10] (t' := [(2, .ptr 0 0 none), (3, .ptr 1 0 none), (5, .sc (.int .i64 ((i : Nat) : Int))), (10, .sc (.int .i64 ((i : Nat) : Int)))]) (h' := [.box 28 [.arr .u64 12 a], .box 28 [.arr .u64 12 b]]) (by kernel_rfl) rfl ?_
      have hreq := idx_in 12 hlt_i (by decide)
      refine DK.op' [2, 3, 5, 11] (t' := [(2, .ptr 0 0 none), (3, .ptr 1 0 none), (5, .sc (.int .i64 ((i : Nat) : Int))), (11, .ptr 0 0 (some (i, 12)))]) (h' := [.box 28 [.arr .u64 12 a], .box 28 [.arr .u64 12 b]]) (LSpec.idxPtr (o := 0) (off := 0) (m := 12) (j := ((i : Nat) : Int)) hG hreq (by kernel_rfl)) (by kernel_rfl) rfl (by kernel_rfl) rfl ?_
      refine DK.seg hG 2 [2, 3, 5, 12, 13] (t' := [(2, .ptr 0 0 none), (3, .ptr 1 0 none), (5, .sc (.int .i64 ((i : Nat) : Int))), (12, .sc (.int .u64 (a.getD (i) 0))), (13, .sc (.int .i64 ((i : Nat) : Int)))]) (h' := [.box 28 [.arr .u64 12 a], .box 28 [.arr .u64 12 b]]) (by kernel_rfl) rfl ?_
      have hreq := idx_in 12 hlt_i (by decide)
      refine DK.op' [2, 3, 5, 12, 14] (t' := [(2, .ptr 0 0 none), (3, .ptr 1 0 none), (5, .sc (.int .i64 ((i : Nat) : Int))), (12, .sc (.int .u64 (a.getD (i) 0))), (14, .ptr 1 0 (some (i, 12)))]) (h' := [.box 28 [.arr .u64 12 a], .box 28 [.arr .u64 12 b]]) (LSpec.idxPtr (o := 1) (off := 0) (m := 12) (j := ((i : Nat) : Int)) hG hreq (by kernel_rfl)) (by kernel_rfl) rfl (by kernel_rfl) rfl ?_
      refine DK.seg hG 2 [2, 3, 5, 16] (t' := [(2, .ptr 0 0 none), (3, .ptr 1 0 none), (5, .sc (.int .i64 ((i : Nat) : Int))), (16, .sc (.bool (decide ((a.getD (i) 0) < (b.getD (i) 0)))))]) (h' := [.box 28 [.arr .u64 12 a], .box 28 [.arr .u64 12 b]]) (by kernel_rfl) rfl ?_
      refine DK.done (by kernel_rfl) (by kernel_rfl) ?_
      refine AR.cond (.tmp 16) (decide ((a.getD (i) 0) < (b.getD (i) 0))) (by kernel_rfl) (by kernel_rfl) (fun hb => ?ht12) (fun hb => ?hf12)
      case ht12 =>
        replace H := cond_t hb H
        refine AR.seg hG hm 2 [4] (k' := [.code [1, 0, 1, 0, 0, 1, 0, 0, 0, 1, 0, 1], .code [1, 0, 1, 0, 0, 1, 0, 0, 1], .blk 1, .code [1, 0, 1, 0, 0, 1, 1], .loop [1, 0, 1, 0], .blk 0, .code [1, 1]]) (t' := [(4, .sc (.int .i64 (-1)))]) (h' := [.box 28 [.arr .u64 12 a], .box 28 [.arr .u64 12 b]]) (by kernel_rfl) ?_
        subst H
        obtain rfl := Jr _ rfl
        exact AR.ret0 (fn := Try.f72) hG Try.func72 (by kernel_rfl) hc0 (r0 := .sc (.int .i64 (-1))) (by kernel_rfl) (WkV.refl _)
      case hf12 =>
        replace H := cond_f hb H
        refine AR.seg hG hm 2 [2, 3, 5] (k' := [.code [1, 0, 1, 0, 0, 1, 0, 0, 1, 0], .code [1, 0, 1, 0, 0, 1, 0, 0, 1, 1], .blk 1, .code [1, 0, 1, 0, 0, 1, 1], .loop [1, 0, 1, 0], .blk 0, .code [1, 1]]) (t' := [(2, .ptr 0 0 none), (3, .ptr 1 0 none), (5, .sc (.int .i64 ((i : Nat) : Int)))]) (h' := [.box 28 [.arr .u64 12 a], .box 28 [.arr .u64 12 b]]) (by kernel_rfl) ?_
        refine AR.reg hm podestaref01_Order_k1 (by kernel_rfl) ?_
        refine DK.seg hG 1 [2, 3, 5, 17] (t' := [(2, .ptr 0 0 none), (3, .ptr 1 0 none), (5, .sc (.int .i64 ((i : Nat) : Int))), (17, .sc (.int .i64 ((i : Nat) : Int)))]) (h' := [.box 28 [.arr .u64 12 a], .box 28 [.arr .u64 12 b]]) (by kernel_rfl) rfl ?_
        have hreq := idx_in 12 hlt_i (by decide)
        refine DK.op' [2, 3, 5, 18] (t' := [(2, .ptr 0 0 none), (3, .ptr 1 0 none), (5, .sc (.int .i64 ((i : Nat) : Int))), (18, .ptr 0 0 (some (i, 12)))]) (h' := [.box 28 [.arr .u64 12 a], .box 28 [.arr .u64 12 b]]) (LSpec.idxPtr (o := 0) (off := 0) (m := 12) (j := ((i : Nat) : Int)) hG hreq (by kernel_rfl)) (by kernel_rfl) rfl (by kernel_rfl) rfl ?_
        refine DK.seg hG 2 [2, 3, 5, 19, 20] (t' := [(2, .ptr 0 0 none), (3, .ptr 1 0 none), (5, .sc (.int .i64 ((i : Nat) : Int))), (19, .sc (.int .u64 (a.getD (i) 0))), (20, .sc (.int .i64 ((i : Nat) : Int)))]) (h' := [.box 28 [.arr .u64 12 a], .box 28 [.arr .u64 12 b]]) (by kernel_rfl) rfl ?_
        have hreq := idx_in 12 hlt_i (by decide)
        refine DK.op' [2, 3, 5, 19, 21] (t' := [(2, .ptr 0 0 none), (3, .ptr 1 0 none), (5, .sc (.int .i64 ((i : Nat) : Int))), (19, .sc (.int .u64 (a.getD (i) 0))), (21, .ptr 1 0 (some (i, 12)))]) (h' := [.box 28 [.arr .u64 12 a], .box 28 [.arr .u64 12 b]]) (LSpec.idxPtr (o := 1) (off := 0) (m := 12) (j := ((i : Nat) : Int)) hG hreq (by kernel_rfl)) (by kernel_rfl) rfl (by kernel_rfl) rfl ?_
        refine DK.seg hG 2 [2, 3, 5, 23] (t' := [(2, .ptr 0 0 none), (3, .ptr 1 0 none), (5, .sc (.int .i64 ((i : Nat) : Int))), (23, .sc (.bool (decide ((a.getD (i) 0) > (b.getD (i) 0)))))]) (h' := [.box 28 [.arr .u64 12 a], .box 28 [.arr .u64 12 b]]) (by kernel_rfl) rfl ?_
        refine DK.done (by kernel_rfl) (by kernel_rfl) ?_
        refine AR.cond (.tmp 23) (decide ((a.getD (i) 0) > (b.getD (i) 0))) (by kernel_rfl) (by kernel_rfl) (fun hb => ?ht13) (fun hb => ?hf13)
        case ht13 =>
          replace H := cond_t hb H
          refine AR.seg hG hm 2 [4] (k' := [.code [1, 0, 1, 0, 0, 1, 0, 0, 1, 1, 0, 1], .blk 1, .code [1, 0, 1, 0, 0, 1, 1], .loop [1, 0, 1, 0], .blk 0, .code [1, 1]]) (t' := [(4, .sc (.int .i64 1))]) (h' := [.box 28 [.arr .u64 12 a], .box 28 [.arr .u64 12 b]]) (by kernel_rfl) ?_
          subst H
          obtain rfl := Jr _ rfl
          exact AR.ret0 (fn := Try.f72) hG Try.func72 (by kernel_rfl) hc0 (r0 := .sc (.int .i64 1)) (by kernel_rfl) (WkV.refl _)
        case hf13 =>
          replace H := cond_f hb H
          refine AR.seg hG hm 3 [2, 3, 5] (k' := [.loop [1, 0, 1, 0], .blk 0, .code [1, 1]]) (t' := [(2, .ptr 0 0 none), (3, .ptr 1 0 none), (5, .sc (.int .i64 (IntKind.i64.wrap (((i : Nat) : Int) + 1))))]) (h' := [.box 28 [.arr .u64 12 a], .box 28 [.arr .u64 12 b]]) (by kernel_rfl) ?_
          refine AR.keep [2, 3, 5] (t' := [(2, .ptr 0 0 none), (3, .ptr 1 0 none), (5, .sc (.int .i64 (IntKind.i64.wrap (((i : Nat) : Int) + 1))))]) (by kernel_rfl) ?_
          refine AR.loop_round ?_
          rw [hw]
          exact ih (i + 1) (by omega) H
    case hf11 => exact absurd (hc.symm.trans hb) (by decide)

def podestaref01_Order (a : List Int) (b : List Int) : Int :=
  sumG (fun q => q) (podestaref01_Order_l0s a b 12 0) fun v =>
  0
theorem podestaref01_Order_walk (a : List Int) (b : List Int) (r : Int) (H : podestaref01_Order a b = r) :
    ACalls Try.prog tab.S 72 [.arr .u64 12 a, .arr .u64 12 b] [] (.sc (.int .i64 r)) [] := by
  have hG := tab_ok
  have hm := mixed
  refine ACalls.of_AR (G := tab) podestaref01_Order_F (fn := Try.f72) Try.func72 (by kernel_rfl) (by kernel_rfl) (by kernel_rfl) (Nat.le_of_ble_eq_true (by kernel_rfl)) ?_
  intro c0 hc0
  replace hc0 : c0.m.length = 0 := hc0
  rw [podestaref01_Order] at H
  refine AR.seg hG hm 6 [2, 3, 5] (k' := [.code [1, 0, 1, 0], .blk 0, .code [1, 1]]) (t' := [(2, .ptr 0 0 none), (3, .ptr 1 0 none), (5, .sc (.int .i64 0))]) (h' := [.box 28 [.arr .u64 12 a], .box 28 [.arr .u64 12 b]]) (by kernel_rfl) ?_
  rcases sumG_eq H with ⟨v, hv, H⟩ | ⟨r1, hv, hr1⟩
  case inr =>
    refine AR.into (by kernel_rfl) ?_
    replace hr1 : r1 = r := hr1
    subst hr1
    exact podestaref01_Order_l0_walk a b _ c0 hc0 (.inr _) (fun _ e => by cases e) (fun _ e => (Sum.inr.inj e).symm) 12 0 rfl hv
  refine AR.into (by kernel_rfl) ?_
  refine podestaref01_Order_l0_walk a b r c0 hc0 (.inl v) (fun w e => ?_) (fun _ e => by cases e) 12 0 rfl hv
  have e := Sum.inl.inj e
  subst e
  refine AR.seg hG hm 2 [4] (k' := [.code [1, 1, 1]]) (t' := [(4, .sc (.int .i64 0))]) (h' := [.box 28 [.arr .u64 12 a], .box 28 [.arr .u64 12 b]]) (by kernel_rfl) ?_
  subst H
  exact AR.ret0 (fn := Try.f72) hG Try.func72 (by kernel_rfl) hc0 (r0 := .sc (.int .i64 0)) (by kernel_rfl) (WkV.refl _)
theorem podestaref01_Order_calls (a : List Int) (b : List Int) : ACalls Try.prog tab.S 72 [.arr .u64 12 a, .arr .u64 12 b] [] (.sc (.int .i64 (podestaref01_Order a b))) [] := podestaref01_Order_walk a b _ rfl

/-! ### podestaref01.Compare: function 50 -/
noncomputable def podestaref01_Compare_F : Go.Sh.Fn := ⟨50, bodyOf Try.f50, 19⟩
def podestaref01_Compare_k1 : List Kd := [.pure, .read, .pure, .read, .pure, .pure]
def podestaref01_Compare_k0 : List Kd := [.pure, .read, .pure, .read, .pure, .pure]
def podestaref01_Compare (a : Cube) (b : Cube) : Int :=
  (bif ((podestaref01_Order a.Care b.Care) != 0) then
    (podestaref01_Order a.Care b.Care)
  else
    (podestaref01_Order a.Value b.Value))
theorem podestaref01_Compare_walk (a : Cube) (b : Cube) (r : Int) (H : podestaref01_Compare a b = r) :
    ACalls Try.prog tab.S 50 [Cube.av a, Cube.av b] [] (.sc (.int .i64 r)) [] := by
  have hG := tab_ok
  have hm := mixed
  refine ACalls.of_AR (G := tab) podestaref01_Compare_F (fn := Try.f50) Try.func50 (by kernel_rfl) (by kernel_rfl) (by kernel_rfl) (Nat.le_of_ble_eq_true (by kernel_rfl)) ?_
  intro c0 hc0
  replace hc0 : c0.m.length = 0 := hc0
  rw [podestaref01_Compare] at H
  refine AR.seg hG hm 3 [2, 3] (k' := [.code [1, 0], .code [1, 1]]) (t' := [(2, .ptr 0 0 none), (3, .ptr 1 0 none)]) (h' := [.box 30 (Cube.ch a), .box 30 (Cube.ch b)]) (by kernel_rfl) ?_
  refine AR.reg hm podestaref01_Compare_k0 (by kernel_rfl) ?_
  refine DK.seg hG 4 [2, 3, 7, 9] (t' := [(2, .ptr 0 0 none), (3, .ptr 1 0 none), (7, .arr .u64 12 a.Care), (9, .arr .u64 12 b.Care)]) (h' := [.box 30 (Cube.ch a), .box 30 (Cube.ch b)]) (by kernel_rfl) rfl ?_
  refine DK.op' [2, 3, 10] (t' := [(2, .ptr 0 0 none), (3, .ptr 1 0 none), (10, .sc (.int .i64 (podestaref01_Order a.Care b.Care)))]) (h' := [.box 30 (Cube.ch a), .box 30 (Cube.ch b)]) (LSpec.callP' (podestaref01_Order_calls a.Care b.Care) (by kernel_rfl)) (by kernel_rfl) rfl (by kernel_rfl) rfl ?_
  refine DK.seg hG 1 [2, 3, 5] (t' := [(2, .ptr 0 0 none), (3, .ptr 1 0 none), (5, .sc (.int .i64 (podestaref01_Order a.Care b.Care)))]) (h' := [.box 30 (Cube.ch a), .box 30 (Cube.ch b)]) (by kernel_rfl) rfl ?_
  refine DK.done (by kernel_rfl) (by kernel_rfl) ?_
  refine AR.seg hG hm 3 [2, 3, 5, 12] (k' := [.code [1, 1, 0, 1], .code [1, 1, 1]]) (t' := [(2, .ptr 0 0 none), (3, .ptr 1 0 none), (5, .sc (.int .i64 (podestaref01_Order a.Care b.Care))), (12, .sc (.bool ((podestaref01_Order a.Care b.Care) != 0)))]) (h' := [.box 30 (Cube.ch a), .box 30 (Cube.ch b)]) (by kernel_rfl) ?_
  refine AR.cond (.tmp 12) ((podestaref01_Order a.Care b.Care) != 0) (by kernel_rfl) (by kernel_rfl) (fun hb => ?ht1) (fun hb => ?hf1)
  case ht1 =>
    replace H := cond_t hb H
    refine AR.seg hG hm 2 [4] (k' := [.code [1, 1, 0, 1, 0, 1], .code [1, 1, 1]]) (t' := [(4, .sc (.int .i64 (podestaref01_Order a.Care b.Care)))]) (h' := [.box 30 (Cube.ch a), .box 30 (Cube.ch b)]) (by kernel_rfl) ?_
    subst H
    exact AR.ret0 (fn := Try.f50) hG Try.func50 (by kernel_rfl) hc0 (r0 := .sc (.int .i64 (podestaref01_Order a.Care b.Care))) (by kernel_rfl) (WkV.refl _)
  case hf1 =>
    replace H := cond_f hb H
    refine AR.seg hG hm 2 [2, 3] (k' := [.code [1, 1, 1, 0], .code [1, 1, 1, 1]]) (t' := [(2, .ptr 0 0 none), (3, .ptr 1 0 none)]) (h' := [.box 30 (Cube.ch a), .box 30 (Cube.ch b)]) (by kernel_rfl) ?_
    refine AR.reg hm podestaref01_Compare_k1 (by kernel_rfl) ?_
    refine DK.seg hG 4 [15, 17] (t' := [(15, .arr .u64 12 a.Value), (17, .arr .u64 12 b.Value)]) (h' := [.box 30 (Cube.ch a), .box 30 (Cube.ch b)]) (by kernel_rfl) rfl ?_
    refine DK.op' [18] (t' := [(18, .sc (.int .i64 (podestaref01_Order a.Value b.Value)))]) (h' := [.box 30 (Cube.ch a), .box 30 (Cube.ch b)]) (LSpec.callP' (podestaref01_Order_calls a.Value b.Value) (by kernel_rfl)) (by kernel_rfl) rfl (by kernel_rfl) rfl ?_
    refine DK.seg hG 1 [4] (t' := [(4, .sc (.int .i64 (podestaref01_Order a.Value b.Value)))]) (h' := [.box 30 (Cube.ch a), .box 30 (Cube.ch b)]) (by kernel_rfl) rfl ?_
    refine DK.done (by kernel_rfl) (by kernel_rfl) ?_
    subst H
    exact AR.ret0 (fn := Try.f50) hG Try.func50 (by kernel_rfl) hc0 (r0 := .sc (.int .i64 (podestaref01_Order a.Value b.Value))) (by kernel_rfl) (WkV.refl _)
theorem podestaref01_Compare_calls (a : Cube) (b : Cube) : ACalls Try.prog tab.S 50 [Cube.av a, Cube.av b] [] (.sc (.int .i64 (podestaref01_Compare a b))) [] := podestaref01_Compare_walk a b _ rfl

/-! ### podestaref04.Before: function 29 -/
noncomputable def podestaref04_Before_F : Go.Sh.Fn := ⟨29, bodyOf Try.f29, 21⟩
def podestaref04_Before_k0 : List Kd := [.pure, .read, .pure, .read, .pure, .pure, .pure]
def podestaref04_Before (a : Rule) (b : Rule) : Bool :=
  (bif (a.Prio != b.Prio) then
    (decide (a.Prio > b.Prio))
  else
    (decide ((podestaref01_Compare a.Match b.Match) < 0)))
theorem podestaref04_Before_walk (a : Rule) (b : Rule) (r : Bool) (H : podestaref04_Before a b = r) :
    ACalls Try.prog tab.S 29 [Rule.av a, Rule.av b] [] (.sc (.bool r)) [] := by
  have hG := tab_ok
  have hm := mixed
  refine ACalls.of_AR (G := tab) podestaref04_Before_F (fn := Try.f29) Try.func29 (by kernel_rfl) (by kernel_rfl) (by kernel_rfl) (Nat.le_of_ble_eq_true (by kernel_rfl)) ?_
  intro c0 hc0
  replace hc0 : c0.m.length = 0 := hc0
  rw [podestaref04_Before] at H
  refine AR.seg hG hm 5 [2, 3, 9] (k' := [.code [1, 0, 1], .code [1, 1]]) (t' := [(2, .ptr 0 0 none), (3, .ptr 1 0 none), (9, .sc (.bool (a.Prio != b.Prio)))]) (h' := [.box 51 (Rule.ch a), .box 51 (Rule.ch b)]) (by kernel_rfl) ?_
  refine AR.cond (.tmp 9) (a.Prio != b.Prio) (by kernel_rfl) (by kernel_rfl) (fun hb => ?ht1) (fun hb => ?hf1)
  case ht1 =>
    replace H := cond_t hb H
    refine AR.seg hG hm 2 [4] (k' := [.code [1, 0, 1, 0, 1], .code [1, 1]]) (t' := [(4, .sc (.bool (decide (a.Prio > b.Prio))))]) (h' := [.box 51 (Rule.ch a), .box 51 (Rule.ch b)]) (by kernel_rfl) ?_
    subst H
    exact AR.ret0 (fn := Try.f29) hG Try.func29 (by kernel_rfl) hc0 (r0 := .sc (.bool (decide (a.Prio > b.Prio)))) (by kernel_rfl) (WkV.refl _)
  case hf1 =>
    replace H := cond_f hb H
    refine AR.seg hG hm 2 [2, 3] (k' := [.code [1, 1, 0], .code [1, 1, 1]]) (t' := [(2, .ptr 0 0 none), (3, .ptr 1 0 none)]) (h' := [.box 51 (Rule.ch a), .box 51 (Rule.ch b)]) (by kernel_rfl) ?_
    refine AR.reg hm podestaref04_Before_k0 (by kernel_rfl) ?_
    refine DK.seg hG 4 [16, 18] (t' := [(16, Cube.av a.Match), (18, Cube.av b.Match)]) (h' := [.box 51 (Rule.ch a), .box 51 (Rule.ch b)]) (by kernel_rfl) rfl ?_
    refine DK.op' [19] (t' := [(19, .sc (.int .i64 (podestaref01_Compare a.Match b.Match)))]) (h' := [.box 51 (Rule.ch a), .box 51 (Rule.ch b)]) (LSpec.callP' (podestaref01_Compare_calls a.Match b.Match) (by kernel_rfl)) (by kernel_rfl) rfl (by kernel_rfl) rfl ?_
    refine DK.seg hG 2 [4] (t' := [(4, .sc (.bool (decide ((podestaref01_Compare a.Match b.Match) < 0))))]) (h' := [.box 51 (Rule.ch a), .box 51 (Rule.ch b)]) (by kernel_rfl) rfl ?_
    refine DK.done (by kernel_rfl) (by kernel_rfl) ?_
    subst H
    exact AR.ret0 (fn := Try.f29) hG Try.func29 (by kernel_rfl) hc0 (r0 := .sc (.bool (decide ((podestaref01_Compare a.Match b.Match) < 0)))) (by kernel_rfl) (WkV.refl _)
theorem podestaref04_Before_calls (a : Rule) (b : Rule) : ACalls Try.prog tab.S 29 [Rule.av a, Rule.av b] [] (.sc (.bool (podestaref04_Before a b))) [] := podestaref04_Before_walk a b _ rfl

/-! ### podestaref04.Table: function 14 -/
noncomputable def podestaref04_Table_F : Go.Sh.Fn := ⟨14, bodyOf Try.f14, 33⟩
def podestaref04_Table_k0 : List Kd := [.pure, .pure, .pure, .pure, .pure, .pure, .pure, .pure, .pure, .pure, .pure, .pure, .pure, .pure, .pure, .pure, .pure, .pure, .pure, .pure, .pure, .pure, .pure]
def podestaref04_Table_l0s (l : List Rule) : List Rule → Nat → Option (Sum (Unit) (Bool))
  | [], i =>
    some (.inl ())
  | x :: rest, i =>
    (bif (!(podestaref04_Rule x)) then
      some (.inr false)
    else
      (bif (decide (((i : Nat) : Int) > 0)) then
        (ixO l (IntKind.i64.wrap (((i : Nat) : Int) - 1))).bind fun x1 =>
        (bif (!(podestaref04_Before x1 x)) then
          some (.inr false)
        else
          podestaref04_Table_l0s l rest (i + 1) )
      else
        podestaref04_Table_l0s l rest (i + 1) ))
theorem podestaref04_Table_l0_walk (l : List Rule) (f_l : Bool) (r : Bool) (c0 : Ctx) (hc0 : c0.m.length = 0) (res : Sum (Unit) (Bool)) (J : ∀ w : Unit, res = .inl w → AR Try.prog tab podestaref04_Table_F c0 (Rp tab.S c0 (.sc (.bool r)) []) [.code [1, 1]] [] []) (Jr : ∀ w, res = .inr w → w = r) :
    ∀ (rest : List Rule) (i : Nat) (hd : l.drop i = rest) (H : podestaref04_Table_l0s l rest i = some res), AR Try.prog tab podestaref04_Table_F c0 (Rp tab.S c0 (.sc (.bool r)) []) [.code [1, 0, 1, 0, 0], .loop [1, 0, 1, 0], .blk 0, .code [1, 1]] [(0, .sl 51 (List.map Rule.av l) f_l), (3, .sc (.int .i64 ((i : Nat) : Int)))] [] := by
  have hG := tab_ok
  have hm := mixed
  intro rest
  induction rest with
  | nil =>
    intro i hd  H
    rw [podestaref04_Table_l0s] at H
    refine AR.facts 0 rfl fun hf => ?_
    have hlen : l.length ≤ 9223372036854775807 := by have hq := len_ok hf.2.1; rw [List.length_map] at hq; exact hq
    have hge : l.length ≤ i := List.drop_eq_nil_iff.1 hd
    have hc : (decide (((i : Nat) : Int) < (((List.map Rule.av l).length : Nat) : Int))) = false := by rw [List.length_map]; exact decide_eq_false (by omega)
    refine AR.seg hG hm 3 [0, 3, 7] (k' := [.code [1, 0, 1, 0, 0, 0, 1], .code [1, 0, 1, 0, 0, 1], .loop [1, 0, 1, 0], .blk 0, .code [1, 1]]) (t' := [(0, .sl 51 (List.map Rule.av l) f_l), (3, .sc (.int .i64 ((i : Nat) : Int))), (7, .sc (.bool (decide (((i : Nat) : Int) < (((List.map Rule.av l).length : Nat) : Int)))))]) (h' := []) (by kernel_rfl) ?_
    refine AR.cond (.tmp 7) (decide (((i : Nat) : Int) < (((List.map Rule.av l).length : Nat) : Int))) (by kernel_rfl) (by kernel_rfl) (fun hb => ?ht13) (fun hb => ?hf13)
    case ht13 => exact absurd (hb.symm.trans hc) (by decide)
    case hf13 =>
      refine AR.seg hG hm 1 [] (k' := [.code [1, 1]]) (t' := []) (h' := []) (by kernel_rfl) ?_
      refine AR.keep [] (t' := []) (by kernel_rfl) ?_
      exact J () (Option.some.inj H).symm
  | cons x rest ih =>
    intro i hd  H
    rw [podestaref04_Table_l0s] at H
    refine AR.facts 0 rfl fun hf => ?_
    have hlen : l.length ≤ 9223372036854775807 := by have hq := len_ok hf.2.1; rw [List.length_map] at hq; exact hq
    obtain ⟨hlt, hv_i, hd2⟩ := drop_cons hd
    have hc : (decide (((i : Nat) : Int) < (((List.map Rule.av l).length : Nat) : Int))) = true := by rw [List.length_map]; exact decide_eq_true (by omega)
    have hw : IntKind.i64.wrap (((i : Nat) : Int) + 1) = ((i + 1 : Nat) : Int) := wrapI_succ (by omega)
    refine AR.seg hG hm 3 [0, 3, 7] (k' := [.code [1, 0, 1, 0, 0, 0, 1], .code [1, 0, 1, 0, 0, 1], .loop [1, 0, 1, 0], .blk 0, .code [1, 1]]) (t' := [(0, .sl 51 (List.map Rule.av l) f_l), (3, .sc (.int .i64 ((i : Nat) : Int))), (7, .sc (.bool (decide (((i : Nat) : Int) < (((List.map Rule.av l).length : Nat) : Int)))))]) (h' := []) (by kernel_rfl) ?_
    refine AR.cond (.tmp 7) (decide (((i : Nat) : Int) < (((List.map Rule.av l).length : Nat) : Int))) (by kernel_rfl) (by kernel_rfl) (fun hb => ?ht14) (fun hb => ?hf14)
    case ht14 =>
      refine AR.seg hG hm 4 [0, 3] (k' := [.code [1, 0, 1, 0, 0, 1, 0, 0, 0], .code [1, 0, 1, 0, 0, 1, 0, 0, 1], .blk 1, .code [1, 0, 1, 0, 0, 1, 1], .loop [1, 0, 1, 0], .blk 0, .code [1, 1]]) (t' := [(0, .sl 51 (List.map Rule.av l) f_l), (3, .sc (.int .i64 ((i : Nat) : Int)))]) (h' := []) (by kernel_rfl) ?_
      refine AR.reg hm podestaref04_Table_k0 (by kernel_rfl) ?_
      refine DK.seg hG 2 [0, 3, 10, 11] (t' := [(0, .sl 51 (List.map Rule.av l) f_l), (3, .sc (.int .i64 ((i : Nat) : Int))), (10, .sl 51 (List.map Rule.av l) f_l), (11, .sc (.int .i64 ((i : Nat) : Int)))]) (h' := []) (by kernel_rfl) rfl ?_
      refine DK.op' [0, 3, 12] (t' := [(0, .sl 51 (List.map Rule.av l) f_l), (3, .sc (.int .i64 ((i : Nat) : Int))), (12, .ep [.arr .u64 12 x.Match.Value, .arr .u64 12 x.Match.Care, .sc (.int .i64 x.Prio), .sl 60 (List.map Act.av x.Acts) false, .sc (.int .i64 x.Idle), .sc (.int .i64 x.Hard), .sc (.int .i64 x.Owner), .sc (.int .i64 x.Hits), .sc (.int .i64 x.Quiet), .sc (.int .i64 x.Age)] 0 none)]) (h' := []) (LSpec.index' (r := Rule.av x) (fs := [.arr .u64 12 x.Match.Value, .arr .u64 12 x.Match.Care, .sc (.int .i64 x.Prio), .sl 60 (List.map Act.av x.Acts) false, .sc (.int .i64 x.Idle), .sc (.int .i64 x.Hard), .sc (.int .i64 x.Owner), .sc (.int .i64 x.Hits), .sc (.int .i64 x.Quiet), .sc (.int .i64 x.Age)]) hG (rows := List.map Rule.av l) (j := ((i : Nat) : Int)) (by kernel_rfl) (ixO_map hv_i _) (by kernel_rfl)) (by kernel_rfl) rfl (by kernel_rfl) rfl ?_
      refine DK.seg hG 1 [0, 3, 13] (t' := [(0, .sl 51 (List.map Rule.av l) f_l), (3, .sc (.int .i64 ((i : Nat) : Int))), (13, Rule.av x)]) (h' := []) (by kernel_rfl) rfl ?_
      refine DK.op' [0, 3, 14] (t' := [(0, .sl 51 (List.map Rule.av l) f_l), (3, .sc (.int .i64 ((i : Nat) : Int))), (14, .sc (.bool (podestaref04_Rule x)))]) (h' := []) (LSpec.callP' (podestaref04_Rule_calls x) (by kernel_rfl)) (by kernel_rfl) rfl (by kernel_rfl) rfl ?_
      refine DK.seg hG 2 [0, 3, 16] (t' := [(0, .sl 51 (List.map Rule.av l) f_l), (3, .sc (.int .i64 ((i : Nat) : Int))), (16, .sc (.bool (!(podestaref04_Rule x))))]) (h' := []) (by kernel_rfl) rfl ?_
      refine DK.split 16 (!(podestaref04_Rule x)) (by kernel_rfl) (fun hb => ?ht15) (fun hb => ?hf15)
      case ht15 =>
        replace H := cond_t hb H
        refine DK.seg hG 16 [0, 3, 32] (t' := [(0, .sl 51 (List.map Rule.av l) f_l), (3, .sc (.int .i64 ((i : Nat) : Int))), (32, .sc (.bool true))]) (h' := []) (by kernel_rfl) rfl ?_
        refine DK.done (by kernel_rfl) (by kernel_rfl) ?_
        refine AR.seg hG hm 3 [2] (k' := [.code [1, 0, 1, 0, 0, 1, 0, 0, 1, 0, 1], .blk 1, .code [1, 0, 1, 0, 0, 1, 1], .loop [1, 0, 1, 0], .blk 0, .code [1, 1]]) (t' := [(2, .sc (.bool false))]) (h' := []) (by kernel_rfl) ?_
        obtain rfl := Option.some.inj H
        obtain rfl := Jr _ rfl
        exact AR.ret0 (fn := Try.f14) hG Try.func14 (by kernel_rfl) hc0 (r0 := .sc (.bool false)) (by kernel_rfl) (WkV.refl _)
      case hf15 =>
        replace H := cond_f hb H
        refine DK.seg hG 3 [0, 3, 16, 19] (t' := [(0, .sl 51 (List.map Rule.av l) f_l), (3, .sc (.int .i64 ((i : Nat) : Int))), (16, .sc (.bool false)), (19, .sc (.bool (decide (((i : Nat) : Int) > 0))))]) (h' := []) (by kernel_rfl) rfl ?_
        refine DK.split 19 (decide (((i : Nat) : Int) > 0)) (by kernel_rfl) (fun hb => ?ht16) (fun hb => ?hf16)
        case ht16 =>
          replace H := cond_t hb H
          refine DK.seg hG 3 [0, 3, 16, 19, 20, 22] (t' := [(0, .sl 51 (List.map Rule.av l) f_l), (3, .sc (.int .i64 ((i : Nat) : Int))), (16, .sc (.bool false)), (19, .sc (.bool true)), (20, .sl 51 (List.map Rule.av l) f_l), (22, .sc (.int .i64 (IntKind.i64.wrap (((i : Nat) : Int) - 1))))]) (h' := []) (by kernel_rfl) rfl ?_
          obtain ⟨x1, hv, H⟩ := Option.bind_eq_some_iff.1 H
          refine DK.op' [0, 3, 16, 19, 23] (t' := [(0, .sl 51 (List.map Rule.av l) f_l), (3, .sc (.int .i64 ((i : Nat) : Int))), (16, .sc (.bool false)), (19, .sc (.bool true)), (23, .ep [.arr .u64 12 x1.Match.Value, .arr .u64 12 x1.Match.Care, .sc (.int .i64 x1.Prio), .sl 60 (List.map Act.av x1.Acts) false, .sc (.int .i64 x1.Idle), .sc (.int .i64 x1.Hard), .sc (.int .i64 x1.Owner), .sc (.int .i64 x1.Hits), .sc (.int .i64 x1.Quiet), .sc (.int .i64 x1.Age)] 0 none)]) (h' := []) (LSpec.index' (r := Rule.av x1) (fs := [.arr .u64 12 x1.Match.Value, .arr .u64 12 x1.Match.Care, .sc (.int .i64 x1.Prio), .sl 60 (List.map Act.av x1.Acts) false, .sc (.int .i64 x1.Idle), .sc (.int .i64 x1.Hard), .sc (.int .i64 x1.Owner), .sc (.int .i64 x1.Hits), .sc (.int .i64 x1.Quiet), .sc (.int .i64 x1.Age)]) hG (rows := List.map Rule.av l) (j := (IntKind.i64.wrap (((i : Nat) : Int) - 1))) (by kernel_rfl) (ixO_map hv _) (by kernel_rfl)) (by kernel_rfl) rfl (by kernel_rfl) rfl ?_
          refine DK.seg hG 3 [0, 3, 16, 19, 24, 25, 26] (t' := [(0, .sl 51 (List.map Rule.av l) f_l), (3, .sc (.int .i64 ((i : Nat) : Int))), (16, .sc (.bool false)), (19, .sc (.bool true)), (24, Rule.av x1), (25, .sl 51 (List.map Rule.av l) f_l), (26, .sc (.int .i64 ((i : Nat) : Int)))]) (h' := []) (by kernel_rfl) rfl ?_
          refine DK.op' [0, 3, 16, 19, 24, 27] (t' := [(0, .sl 51 (List.map Rule.av l) f_l), (3, .sc (.int .i64 ((i : Nat) : Int))), (16, .sc (.bool false)), (19, .sc (.bool true)), (24, Rule.av x1), (27, .ep [.arr .u64 12 x.Match.Value, .arr .u64 12 x.Match.Care, .sc (.int .i64 x.Prio), .sl 60 (List.map Act.av x.Acts) false, .sc (.int .i64 x.Idle), .sc (.int .i64 x.Hard), .sc (.int .i64 x.Owner), .sc (.int .i64 x.Hits), .sc (.int .i64 x.Quiet), .sc (.int .i64 x.Age)] 0 none)]) (h' := []) (LSpec.index' (r := Rule.av x) (fs := [.arr .u64 12 x.Match.Value, .arr .u64 12 x.Match.Care, .sc (.int .i64 x.Prio), .sl 60 (List.map Act.av x.Acts) false, .sc (.int .i64 x.Idle), .sc (.int .i64 x.Hard), .sc (.int .i64 x.Owner), .sc (.int .i64 x.Hits), .sc (.int .i64 x.Quiet), .sc (.int .i64 x.Age)]) hG (rows := List.map Rule.av l) (j := ((i : Nat) : Int)) (by kernel_rfl) (ixO_map hv_i _) (by kernel_rfl)) (by kernel_rfl) rfl (by kernel_rfl) rfl ?_
          refine DK.seg hG 1 [0, 3, 16, 19, 24, 28] (t' := [(0, .sl 51 (List.map Rule.av l) f_l), (3, .sc (.int .i64 ((i : Nat) : Int))), (16, .sc (.bool false)), (19, .sc (.bool true)), (24, Rule.av x1), (28, Rule.av x)]) (h' := []) (by kernel_rfl) rfl ?_
          refine DK.op' [0, 3, 16, 19, 29] (t' := [(0, .sl 51 (List.map Rule.av l) f_l), (3, .sc (.int .i64 ((i : Nat) : Int))), (16, .sc (.bool false)), (19, .sc (.bool true)), (29, .sc (.bool (podestaref04_Before x1 x)))]) (h' := []) (LSpec.callP' (podestaref04_Before_calls x1 x) (by kernel_rfl)) (by kernel_rfl) rfl (by kernel_rfl) rfl ?_
          refine DK.seg hG 3 [0, 3, 32] (t' := [(0, .sl 51 (List.map Rule.av l) f_l), (3, .sc (.int .i64 ((i : Nat) : Int))), (32, .sc (.bool (!(podestaref04_Before x1 x))))]) (h' := []) (by kernel_rfl) rfl ?_
          refine DK.done (by kernel_rfl) (by kernel_rfl) ?_
          refine AR.cond (.tmp 32) (!(podestaref04_Before x1 x)) (by kernel_rfl) (by kernel_rfl) (fun hb => ?ht17) (fun hb => ?hf17)
          case ht17 =>
            replace H := cond_t hb H
            refine AR.seg hG hm 2 [2] (k' := [.code [1, 0, 1, 0, 0, 1, 0, 0, 1, 0, 1], .blk 1, .code [1, 0, 1, 0, 0, 1, 1], .loop [1, 0, 1, 0], .blk 0, .code [1, 1]]) (t' := [(2, .sc (.bool false))]) (h' := []) (by kernel_rfl) ?_
            obtain rfl := Option.some.inj H
            obtain rfl := Jr _ rfl
            exact AR.ret0 (fn := Try.f14) hG Try.func14 (by kernel_rfl) hc0 (r0 := .sc (.bool false)) (by kernel_rfl) (WkV.refl _)
          case hf17 =>
            replace H := cond_f hb H
            refine AR.seg hG hm 3 [0, 3] (k' := [.loop [1, 0, 1, 0], .blk 0, .code [1, 1]]) (t' := [(0, .sl 51 (List.map Rule.av l) f_l), (3, .sc (.int .i64 (IntKind.i64.wrap (((i : Nat) : Int) + 1))))]) (h' := []) (by kernel_rfl) ?_
            refine AR.keep [0, 3] (t' := [(0, .sl 51 (List.map Rule.av l) f_l), (3, .sc (.int .i64 (IntKind.i64.wrap (((i : Nat) : Int) + 1))))]) (by kernel_rfl) ?_
            refine AR.loop_round ?_
            rw [hw]
            exact ih (i + 1) hd2 H
        case hf16 =>
          replace H := cond_f hb H
          refine DK.seg hG 13 [0, 3, 32] (t' := [(0, .sl 51 (List.map Rule.av l) f_l), (3, .sc (.int .i64 ((i : Nat) : Int))), (32, .sc (.bool false))]) (h' := []) (by kernel_rfl) rfl ?_
          refine DK.done (by kernel_rfl) (by kernel_rfl) ?_
          refine AR.seg hG hm 4 [0, 3] (k' := [.loop [1, 0, 1, 0], .blk 0, .code [1, 1]]) (t' := [(0, .sl 51 (List.map Rule.av l) f_l), (3, .sc (.int .i64 (IntKind.i64.wrap (((i : Nat) : Int) + 1))))]) (h' := []) (by kernel_rfl) ?_
          refine AR.keep [0, 3] (t' := [(0, .sl 51 (List.map Rule.av l) f_l), (3, .sc (.int .i64 (IntKind.i64.wrap (((i : Nat) : Int) + 1))))]) (by kernel_rfl) ?_
          refine AR.loop_round ?_
          rw [hw]
          exact ih (i + 1) hd2 H
    case hf14 => exact absurd (hc.symm.trans hb) (by decide)

def podestaref04_Table_raw (l : List Rule) : Option (Bool) :=
  loopO (podestaref04_Table_l0s l l 0) fun v =>
  some true
theorem podestaref04_Table_walk (l : List Rule) (f_l : Bool) (r : Bool) (H : podestaref04_Table_raw l = some r) :
    ACalls Try.prog tab.S 14 [.sl 51 (List.map Rule.av l) f_l] [] (.sc (.bool r)) [] := by
  have hG := tab_ok
  have hm := mixed
  refine ACalls.of_AR (G := tab) podestaref04_Table_F (fn := Try.f14) Try.func14 (by kernel_rfl) (by kernel_rfl) (by kernel_rfl) (Nat.le_of_ble_eq_true (by kernel_rfl)) ?_
  intro c0 hc0
  replace hc0 : c0.m.length = 0 := hc0
  rw [podestaref04_Table_raw] at H
  refine AR.seg hG hm 6 [0, 3] (k' := [.code [1, 0, 1, 0], .blk 0, .code [1, 1]]) (t' := [(0, .sl 51 (List.map Rule.av l) f_l), (3, .sc (.int .i64 0))]) (h' := []) (by kernel_rfl) ?_
  rcases loopO_some H with ⟨v, hv, H⟩ | hv
  case inr =>
    refine AR.into (by kernel_rfl) ?_
    exact podestaref04_Table_l0_walk l f_l _ c0 hc0 (.inr _) (fun _ e => by cases e) (fun _ e => (Sum.inr.inj e).symm) l 0 rfl hv
  refine AR.into (by kernel_rfl) ?_
  refine podestaref04_Table_l0_walk l f_l r c0 hc0 (.inl v) (fun w e => ?_) (fun _ e => by cases e) l 0 rfl hv
  have e := Sum.inl.inj e
  subst e
  refine AR.seg hG hm 2 [2] (k' := [.code [1, 1, 1]]) (t' := [(2, .sc (.bool true))]) (h' := []) (by kernel_rfl) ?_
  obtain rfl := Option.some.inj H
  exact AR.ret0 (fn := Try.f14) hG Try.func14 (by kernel_rfl) hc0 (r0 := .sc (.bool true)) (by kernel_rfl) (WkV.refl _)

end Go.Proofs.Ytlfiemphadkimaa

set_option linter.unusedVariables false
set_option linter.unusedSimpArgs false
set_option maxRecDepth 100000
set_option maxHeartbeats 4000000
namespace Go.Proofs.Ytlfiemphadkimaa
open Go.Sh
theorem setT_ok {h : List Int} {n v : Int} : ((setT_ h n v).2 == 0) = (head_there n && fitsH n v) := by
  unfold setT_
  cases head_there n
  · rfl
  · cases fitsH n v <;> rfl
theorem act_sound_eq {x : Act} (hv : 0 ≤ x.Value) : act_sound x = actOk x := by
  unfold act_sound actOk
  rw [setT_ok]
  unfold fitsH head_there
  rw [decide_eq_true hv, Bool.true_and]
  rw [Bool.eq_iff_iff]
  cases (x.Kind == 1)
  · cases (x.Kind == 2)
    · simp only [cond_false, Bool.and_eq_true]
      constructor
      · rintro ⟨a, b, c, d⟩; exact ⟨a, ⟨b, c⟩, d⟩
      · rintro ⟨a, ⟨b, c⟩, d⟩; exact ⟨a, b, c, d⟩
    · simp only [cond_false, cond_true, Bool.and_eq_true]
      constructor
      · rintro ⟨⟨⟨a, b⟩, c⟩, d⟩; exact ⟨⟨⟨d, a⟩, b⟩, c⟩
      · rintro ⟨⟨⟨d, a⟩, b⟩, c⟩; exact ⟨⟨⟨a, b⟩, c⟩, d⟩
  · rfl
theorem act_Sound_eq {l : List Act} (hv : ∀ x ∈ l, 0 ≤ x.Value) : act_Sound l = ActsOk l := by
  unfold act_Sound ActsOk
  rw [slices_ContainsFunc__api_Act_any, List.length_map]
  have e : (l.any act_Sound_1) = !(l.all actOk) := by
    rw [← Bool.not_not (l.any act_Sound_1), List.not_any_eq_all_not]
    congr 1
    rw [Bool.eq_iff_iff, List.all_eq_true, List.all_eq_true]
    constructor
    · intro h x hx
      have := h x hx
      unfold act_Sound_1 at this
      rw [act_sound_eq (hv x hx), Bool.not_not] at this
      exact this
    · intro h x hx
      unfold act_Sound_1
      rw [act_sound_eq (hv x hx), Bool.not_not]
      exact h x hx
  rw [e, Bool.not_not, Bool.and_comm]
  congr 1
  rw [Bool.eq_iff_iff, decide_eq_true_eq, decide_eq_true_eq]
  omega

theorem u64_nonneg {v : Int} (h : intW .u64 v) : 0 ≤ v := by
  unfold intW Go.Lit.wf at h
  rw [Bool.and_eq_true, decide_eq_true_eq, decide_eq_true_eq] at h
  exact h.1
theorem Act.wf_val {l : List Act} (w : ∀ y ∈ l, Act.wf y) : ∀ x ∈ l, 0 ≤ x.Value := fun x hx => u64_nonneg (w x hx).2.2.2
theorem arr_nonneg {xs : List Int} {n : Nat} (h : arrW .u64 n xs) (i : Nat) : 0 ≤ xs.getD i 0 := by
  rw [List.getD_eq_getElem?_getD]
  by_cases hi : i < xs.length
  · rw [List.getElem?_eq_getElem hi]
    exact u64_nonneg (h.2 _ (List.getElem_mem hi))
  · rw [List.getElem?_eq_none (by omega)]; exact Int.le_refl 0
theorem head_Sound_l0s_eq {h : List Int} (w : arrW .u64 12 h) : ∀ (n i : Nat), head_Sound_l0s h n i = podestaref01_Head_l0s h n i
  | 0, i => rfl
  | n + 1, i => by
      rw [head_Sound_l0s, podestaref01_Head_l0s, head_Sound_l0s_eq w n (i + 1), refFits_eq]
      unfold fitsH
      rw [decide_eq_true (arr_nonneg w i), Bool.true_and]
theorem head_Sound_eq {h : List Int} (w : arrW .u64 12 h) : head_Sound h = podestaref01_Head h := by
  rw [head_Sound, podestaref01_Head, head_Sound_l0s_eq w]
theorem textOk_false (c : Cube) : ∀ (r i : Nat), textOk c r i false = false
  | 0, _ => rfl
  | r + 1, i => by
      rw [textOk]
      cases badAt c i <;> exact textOk_false c r (i + 1)
theorem cube_Sound_l0s_eq (c : Cube) : ∀ (r i : Nat), cube_Sound_l0s c r i = if textOk c r i true then .inl () else .inr false
  | 0, _ => rfl
  | r + 1, i => by
      rw [cube_Sound_l0s, cube_Sound_l0s_eq c r (i + 1), textOk]
      show (bif badAt c i then _ else _) = _
      cases badAt c i
      · rfl
      · rw [cond_true, cond_true, textOk_false]; rfl
theorem cube_Sound_eq {c : Cube} (w : Cube.wf c) : cube_Sound c = podestaref01_Cube c := by
  rw [cube_Sound, podestaref01_Cube, cube_Sound_l0s_eq]
  unfold textT
  rw [head_Sound_eq w.2]
  cases podestaref01_Head c.Care
  · rw [textOk_false]; rfl
  · cases textOk c 12 0 true <;> rfl
theorem min3_nonneg (a b c : Int) : decide ((if c < (if b < a then b else a) then c else (if b < a then b else a)) ≥ 0) = ((decide (a ≥ 0) && decide (b ≥ 0)) && decide (c ≥ 0)) := by
  rw [Bool.eq_iff_iff]
  simp only [Bool.and_eq_true, decide_eq_true_eq]
  (repeat' split) <;> omega
theorem rule_Sound_eq {x : Rule} (w : Rule.wf x) : rule_Sound x = podestaref04_Rule x := by
  rw [rule_Sound, podestaref04_Rule, cube_Sound_eq w.1, act_Sound_eq (Act.wf_val w.2.2.1), refActs_eq, min3_nonneg]
  have e : ∀ a b, rule_span a b = podestaref04_span a b := fun _ _ => rfl
  simp only [e, Bool.and_assoc]
theorem Order_l0s_eq : ∀ (n i : Nat) (a b : List Int), a.length = i + n → b.length = i + n → (match podestaref01_Order_l0s a b n i with | .inl _ => (0 : Int) | .inr v => v) = cmpL cmp_Compare_uint64 (a.drop i) (b.drop i)
  | 0, i, a, b, ha, hb => by
      rw [List.drop_eq_nil_of_le (by omega), List.drop_eq_nil_of_le (by omega)]; rfl
  | n + 1, i, a, b, ha, hb => by
      have h1 : i < a.length := by omega
      have h2 : i < b.length := by omega
      rw [List.drop_eq_getElem_cons h1, List.drop_eq_getElem_cons h2, cmpL_cons, ← Order_l0s_eq n (i + 1) a b (by omega) (by omega), podestaref01_Order_l0s]
      have ea : a.getD i 0 = a[i] := by rw [List.getD_eq_getElem?_getD, List.getElem?_eq_getElem h1]; rfl
      have eb : b.getD i 0 = b[i] := by rw [List.getD_eq_getElem?_getD, List.getElem?_eq_getElem h2]; rfl
      have hc : cmp_Compare_uint64 a[i] b[i] = if a[i] < b[i] then -1 else if a[i] > b[i] then 1 else 0 := by
        have h : ∀ z, cmp_isNaN_uint64 z = false := fun z => by simp [cmp_isNaN_uint64]
        rw [cmp_Compare_uint64, h, h]
        by_cases h1 : a[i] < b[i]
        · simp [h1]
        · by_cases h2 : a[i] > b[i]
          · simp [h1, h2]
          · simp [h1, h2]
      rw [ea, eb, hc]
      by_cases q1 : a[i] < b[i]
      · simp [q1]
      · by_cases q2 : a[i] > b[i]
        · simp [q1, q2]
        · simp [q1, q2]
theorem Order_eq {a b : List Int} (ha : a.length = 12) (hb : b.length = 12) : podestaref01_Order a b = cmpL cmp_Compare_uint64 a b := by
  rw [podestaref01_Order]
  have h := Order_l0s_eq 12 0 a b (by omega) (by omega)
  rw [List.drop_zero, List.drop_zero] at h
  rw [← h]
  cases podestaref01_Order_l0s a b 12 0 <;> rfl
theorem refBefore_eq {a b : Rule} (wa : Rule.wf a) (wb : Rule.wf b) : podestaref04_Before a b = rule_Before a b := by
  rw [rule_Before, rule_compare, podestaref04_Before, podestaref01_Compare, cube_Compare, cmp_Or_two, head_Compare_eq, head_Compare_eq, Order_eq wa.1.2.1 wb.1.2.1, Order_eq wa.1.1.1 wb.1.1.1]
  cases h : a.Prio != b.Prio
  · simp only [cond_false]
    by_cases q : cmpL cmp_Compare_uint64 a.Match.Care b.Match.Care = 0
    · simp [q]
    · have : (cmpL cmp_Compare_uint64 a.Match.Care b.Match.Care != 0) = true := by simp [q]
      rw [this, cond_true, if_neg q]
  · simp only [cond_true]
    cases decide (a.Prio > b.Prio) <;> rfl
theorem refTable_l0s_eq (all : List Rule) (w : ∀ y ∈ all, Rule.wf y) : ∀ (l : List Rule) (i : Nat), all.drop i = l → podestaref04_Table_l0s all l i = rule_Table_l0s all l i
  | [], i, _ => by rw [podestaref04_Table_l0s, rule_Table_l0s]
  | x :: l, i, h => by
      have hlt : i < all.length := by
        rcases Nat.lt_or_ge i all.length with q | q
        · exact q
        · rw [List.drop_eq_nil_of_le q] at h; cases h
      rw [List.drop_eq_getElem_cons hlt] at h
      injection h with h1 h2
      have hx : x ∈ all := by rw [← h1]; exact List.getElem_mem hlt
      rw [podestaref04_Table_l0s, rule_Table_l0s, refTable_l0s_eq all w l (i + 1) h2, rule_Sound_eq (w x hx)]
      cases podestaref04_Rule x
      · rfl
      · simp only [Bool.not_true, cond_false]
        cases decide (((i : Nat) : Int) > 0)
        · rfl
        · simp only [cond_true]
          cases hq : ixO all (IntKind.i64.wrap (((i : Nat) : Int) - 1)) with
          | none => rfl
          | some y =>
            have hy : y ∈ all := by
              unfold ixO at hq
              split at hq
              · exact List.mem_of_getElem? hq
              · cases hq
            simp only [Option.bind_some, refBefore_eq (w y hy) (w x hx)]
theorem refTable_raw_eq (l : List Rule) (w : ∀ y ∈ l, Rule.wf y) (h : l.length ≤ 1000000000000000) : podestaref04_Table_raw l = some (tableR l) := by
  rw [podestaref04_Table_raw, refTable_l0s_eq l w l 0 rfl, rule_Table_l0s_eq l h l 0 rfl, if_pos rfl]
  unfold tableR
  cases tableF none l <;> rfl

end Go.Proofs.Ytlfiemphadkimaa

set_option linter.unusedVariables false
set_option linter.unusedSimpArgs false
set_option maxRecDepth 100000
set_option maxHeartbeats 4000000
namespace Go.Proofs.Ytlfiemphadkimaa
open Go.Sh
theorem srt_key {l : List Rule} (h : Srt l) {x y : Rule} (hx : x ∈ l) (hy : y ∈ l) (hk : x.key = y.key) : x = y := by
  obtain ⟨i, hi, rfl⟩ := List.getElem_of_mem hx
  obtain ⟨j, hj, rfl⟩ := List.getElem_of_mem hy
  rcases Nat.lt_trichotomy i j with q | q | q
  · exact absurd (srt_get h q hj) (RLt.irr _ _ hk)
  · subst q; rfl
  · exact absurd (srt_get h q hi) (RLt.irr _ _ hk.symm)
theorem last_some : ∀ {L : List Rule} {k : Key3} {r : Rule}, last L k = some r → r ∈ L ∧ r.key = k
  | [], k, r, h => by cases h
  | x :: L, k, r, h => by
      rw [last_cons] at h
      cases hl : last L k with
      | some r' =>
        rw [hl] at h
        injection h with h
        subst h
        obtain ⟨h1, h2⟩ := last_some hl
        exact ⟨by simp [h1], h2⟩
      | none =>
        rw [hl] at h
        by_cases q : rule_Sound x = true ∧ x.key = k
        · rw [if_pos q] at h
          injection h with h
          subst h
          exact ⟨by simp, q.2⟩
        · rw [if_neg q] at h; cases h
theorem last_none : ∀ {L : List Rule} {k : Key3}, last L k = none → ∀ x ∈ L, rule_Sound x = true → x.key ≠ k
  | [], k, _, x, hx, _ => by cases hx
  | y :: L, k, h, x, hx, hs => by
      rw [last_cons] at h
      cases hl : last L k with
      | some r' => rw [hl] at h; cases h
      | none =>
        rw [hl] at h
        rcases List.mem_cons.1 hx with rfl | hx
        · intro e
          rw [if_pos ⟨hs, e⟩] at h
          cases h
        · exact last_none hl x hx hs
theorem look_of_mem {l : List Rule} (h : Srt l) {r : Rule} (hr : r ∈ l) : look l r.key = some r := by
  cases hl : look l r.key with
  | some x =>
    have h1 := look_mem hl
    have h2 : x.key = r.key := by
      unfold look at hl
      have := List.find?_some hl
      simpa using this
    rw [srt_key h h1 hr h2]
  | none =>
    unfold look at hl
    have := List.find?_eq_none.1 hl r hr
    simp at this
theorem sortR_set {L b : List Rule} (hb : tableR b = true) (h : ∀ x, x ∈ L ↔ x ∈ b) : sortR L = b := by
  obtain ⟨h1, h2⟩ := (tableR_iff b).1 hb
  refine srt_uniq _ _ (sortR_srt L) h2 (fun k => ?_)
  rw [sortR_look]
  cases hl : last L k with
  | some r =>
    obtain ⟨h3, h4⟩ := last_some hl
    rw [← h4, look_of_mem h2 ((h r).1 h3)]
  | none =>
    rw [look_none]
    intro y hy
    exact last_none hl y ((h y).2 hy) (h1 y hy)
theorem mem_alone {a b : List Rule} {x : Rule} : x ∈ aloneR a b ↔ x ∈ a ∧ x ∉ b := by
  unfold aloneR
  rw [List.mem_filter, Bool.not_eq_true', List.any_eq_false]
  constructor
  · rintro ⟨h1, h2⟩
    exact ⟨h1, fun hb => h2 x hb (by simp)⟩
  · rintro ⟨h1, h2⟩
    exact ⟨h1, fun y hy e => h2 (by rw [beq_iff_eq] at e; rw [e]; exact hy)⟩
theorem alone_table {a b : List Rule} (h : tableR a = true) : tableR (aloneR a b) = true := by
  obtain ⟨h1, h2⟩ := (tableR_iff a).1 h
  exact (tableR_iff _).2 ⟨fun y hy => h1 y (mem_alone.1 hy).1, List.Pairwise.filter _ h2⟩
theorem swap_diff {a b : List Rule} (ha : tableR a = true) (hb : tableR b = true) : swapM a (aloneR a b) (aloneR b a) = (b, 0) := by
  obtain ⟨b1, b2⟩ := (tableR_iff b).1 hb
  unfold swapM
  rw [ha, alone_table ha, alone_table hb]
  have e1 : aloneR (aloneR a b) a = [] := by
    apply List.eq_nil_iff_forall_not_mem.2
    intro x hx
    obtain ⟨h1, h2⟩ := mem_alone.1 hx
    exact h2 (mem_alone.1 h1).1
  have e2 : (aloneR b a).any (fun x => (aloneR a (aloneR a b)).any (fun y => rule_Key y x)) = false := by
    rw [List.any_eq_false]
    intro x hx hq
    obtain ⟨y, hy, hk⟩ := List.any_eq_true.1 hq
    obtain ⟨x1, x2⟩ := mem_alone.1 hx
    obtain ⟨y1, y2⟩ := mem_alone.1 hy
    have y3 : y ∈ b := by
      by_cases q : y ∈ b
      · exact q
      · exact absurd (mem_alone.2 ⟨y1, q⟩) y2
    rw [Key_key, decide_eq_true_eq] at hk
    have := srt_key b2 y3 x1 hk
    subst this
    exact x2 y1
  rw [e1, e2]
  have e3 : sortR (aloneR a (aloneR a b) ++ aloneR b a) = b := by
    refine sortR_set hb (fun x => ?_)
    rw [List.mem_append, mem_alone, mem_alone, mem_alone]
    constructor
    · rintro (⟨h1, h2⟩ | ⟨h1, _⟩)
      · by_cases q : x ∈ b
        · exact q
        · exact absurd ⟨h1, q⟩ h2
      · exact h1
    · intro h1
      by_cases q : x ∈ a
      · exact .inl ⟨q, fun h => h.2 h1⟩
      · exact .inr ⟨h1, q⟩
  rw [e3]
  rfl
theorem swapO_eq {a g c : List Rule} (h : a.length + c.length ≤ 1000000) : swapO a g c = some (swapM a g c) := by
  unfold swapO; rw [if_pos h]
theorem Diff_tables {a b : List Rule} (ha : tableR a = true) (hb : tableR b = true) : undo_Diff a b = (⟨aloneR a b, aloneR b a⟩ : Patch) := by
  rw [undo_Diff, ha, hb]; rfl
theorem Forth_diff {a b : List Rule} (ha : tableR a = true) (hb : tableR b = true) (la : a.length ≤ 1000) (lb : b.length ≤ 1000) : undo_Forth_raw a (⟨aloneR a b, aloneR b a⟩ : Patch) = some (b, 0) := by
  have := aloneR_len b a
  rw [undo_Forth_raw, swapO_eq (by show a.length + (aloneR b a).length ≤ 1000000; omega), swap_diff ha hb]; rfl
theorem Back_diff {a b : List Rule} (ha : tableR a = true) (hb : tableR b = true) (la : a.length ≤ 1000) (lb : b.length ≤ 1000) : undo_Back_raw b (⟨aloneR a b, aloneR b a⟩ : Patch) = some (a, 0) := by
  have := aloneR_len a b
  rw [undo_Back_raw, swapO_eq (by show b.length + (aloneR a b).length ≤ 1000000; omega), swap_diff hb ha]; rfl

end Go.Proofs.Ytlfiemphadkimaa

set_option linter.unusedVariables false
set_option linter.unusedSimpArgs false
set_option maxRecDepth 100000
set_option maxHeartbeats 4000000
namespace Go.Proofs.Ytlfiemphadkimaa
open Go.Sh
/-! ### podestaref04.Alone: function 16 -/
noncomputable def podestaref04_Alone_F : Go.Sh.Fn := ⟨16, bodyOf Try.f16, 43⟩
def podestaref04_Alone_k0 : List Kd := [.pure, .pure, .pure, .pure, .pure, .pure, .pure, .pure, .pure, .pure, .pure, .pure, .pure]
def podestaref04_Alone_k1 : List Kd := [.pure, .pure, .pure, .pure, .pure, .pure, .loud, .pure]
def podestaref04_Alone_l1s (x : Rule) : List Rule → Bool → Bool
  | [], in_ =>
    in_
  | x1 :: rest1, in_ =>
    podestaref04_Alone_l1s x rest1 (in_ || (podestaref04_Equal x x1))
theorem podestaref04_Alone_l1_walk (a : List Rule) (b : List Rule) (i : Nat) (out : List Rule) (x : Rule) (hv_i : ixO a ((i : Nat) : Int) = some x) (f_a : Bool) (f_b : Bool) (r : (List Rule)) (c0 : Ctx) (hc0 : c0.m.length = 0) (res : Bool) (J : AR Try.prog tab podestaref04_Alone_F c0 (Rp tab.S c0 (.sl 51 (List.map Rule.av r) false) []) [.code [1, 1, 0, 1, 0, 0, 1, 0, 0, 1, 1], .blk 1, .code [1, 1, 0, 1, 0, 0, 1, 1], .loop [1, 1, 0, 1, 0], .blk 0, .code [1, 1, 1]] [(0, .sl 51 (List.map Rule.av a) f_a), (1, .sl 51 (List.map Rule.av b) f_b), (5, .own 0 1000000), (6, .sc (.int .i64 ((i : Nat) : Int))), (7, .sc (.bool res))] [.row 51 (List.map Rule.av out) 1000000 true]) :
    ∀ (rest1 : List Rule) (k1 : Nat) (hd : b.drop k1 = rest1) (in_ : Bool) (H : podestaref04_Alone_l1s x rest1 in_ = res), AR Try.prog tab podestaref04_Alone_F c0 (Rp tab.S c0 (.sl 51 (List.map Rule.av r) false) []) [.code [1, 1, 0, 1, 0, 0, 1, 0, 0, 1, 0, 1, 0, 0], .loop [1, 1, 0, 1, 0, 0, 1, 0, 0, 1, 0, 1, 0], .blk 2, .code [1, 1, 0, 1, 0, 0, 1, 0, 0, 1, 1], .blk 1, .code [1, 1, 0, 1, 0, 0, 1, 1], .loop [1, 1, 0, 1, 0], .blk 0, .code [1, 1, 1]] [(0, .sl 51 (List.map Rule.av a) f_a), (1, .sl 51 (List.map Rule.av b) f_b), (5, .own 0 1000000), (6, .sc (.int .i64 ((i : Nat) : Int))), (7, .sc (.bool in_)), (8, .sc (.int .i64 ((k1 : Nat) : Int)))] [.row 51 (List.map Rule.av out) 1000000 true] := by
  have hG := tab_ok
  have hm := mixed
  intro rest1
  induction rest1 with
  | nil =>
    intro k1 hd in_ H
    rw [podestaref04_Alone_l1s] at H
    refine AR.facts 1 rfl fun hf => ?_
    have hlen : b.length ≤ 9223372036854775807 := by have hq := len_ok hf.2.1; rw [List.length_map] at hq; exact hq
    have hge : b.length ≤ k1 := List.drop_eq_nil_iff.1 hd
    have hc : (decide (((k1 : Nat) : Int) < (((List.map Rule.av b).length : Nat) : Int))) = false := by rw [List.length_map]; exact decide_eq_false (by omega)
    refine AR.seg hG hm 3 [0, 1, 5, 6, 7, 8, 18] (k' := [.code [1, 1, 0, 1, 0, 0, 1, 0, 0, 1, 0, 1, 0, 0, 0, 1], .code [1, 1, 0, 1, 0, 0, 1, 0, 0, 1, 0, 1, 0, 0, 1], .loop [1, 1, 0, 1, 0, 0, 1, 0, 0, 1, 0, 1, 0], .blk 2, .code [1, 1, 0, 1, 0, 0, 1, 0, 0, 1, 1], .blk 1, .code [1, 1, 0, 1, 0, 0, 1, 1], .loop [1, 1, 0, 1, 0], .blk 0, .code [1, 1, 1]]) (t' := [(0, .sl 51 (List.map Rule.av a) f_a), (1, .sl 51 (List.map Rule.av b) f_b), (5, .own 0 1000000), (6, .sc (.int .i64 ((i : Nat) : Int))), (7, .sc (.bool in_)), (8, .sc (.int .i64 ((k1 : Nat) : Int))), (18, .sc (.bool (decide (((k1 : Nat) : Int) < (((List.map Rule.av b).length : Nat) : Int)))))]) (h' := [.row 51 (List.map Rule.av out) 1000000 true]) (by kernel_rfl) ?_
    refine AR.cond (.tmp 18) (decide (((k1 : Nat) : Int) < (((List.map Rule.av b).length : Nat) : Int))) (by kernel_rfl) (by kernel_rfl) (fun hb => ?ht53) (fun hb => ?hf53)
    case ht53 => exact absurd (hb.symm.trans hc) (by decide)
    case hf53 =>
      refine AR.seg hG hm 1 [0, 1, 5, 6, 7] (k' := [.code [1, 1, 0, 1, 0, 0, 1, 0, 0, 1, 1], .blk 1, .code [1, 1, 0, 1, 0, 0, 1, 1], .loop [1, 1, 0, 1, 0], .blk 0, .code [1, 1, 1]]) (t' := [(0, .sl 51 (List.map Rule.av a) f_a), (1, .sl 51 (List.map Rule.av b) f_b), (5, .own 0 1000000), (6, .sc (.int .i64 ((i : Nat) : Int))), (7, .sc (.bool in_))]) (h' := [.row 51 (List.map Rule.av out) 1000000 true]) (by kernel_rfl) ?_
      refine AR.keep [0, 1, 5, 6, 7] (t' := [(0, .sl 51 (List.map Rule.av a) f_a), (1, .sl 51 (List.map Rule.av b) f_b), (5, .own 0 1000000), (6, .sc (.int .i64 ((i : Nat) : Int))), (7, .sc (.bool in_))]) (by kernel_rfl) ?_
      subst H
      exact J
  | cons x1 rest1 ih =>
    intro k1 hd in_ H
    rw [podestaref04_Alone_l1s] at H
    refine AR.facts 1 rfl fun hf => ?_
    have hlen : b.length ≤ 9223372036854775807 := by have hq := len_ok hf.2.1; rw [List.length_map] at hq; exact hq
    obtain ⟨hlt, hv_k1, hd2⟩ := drop_cons hd
    have hc : (decide (((k1 : Nat) : Int) < (((List.map Rule.av b).length : Nat) : Int))) = true := by rw [List.length_map]; exact decide_eq_true (by omega)
    have hw : IntKind.i64.wrap (((k1 : Nat) : Int) + 1) = ((k1 + 1 : Nat) : Int) := wrapI_succ (by omega)
    refine AR.seg hG hm 3 [0, 1, 5, 6, 7, 8, 18] (k' := [.code [1, 1, 0, 1, 0, 0, 1, 0, 0, 1, 0, 1, 0, 0, 0, 1], .code [1, 1, 0, 1, 0, 0, 1, 0, 0, 1, 0, 1, 0, 0, 1], .loop [1, 1, 0, 1, 0, 0, 1, 0, 0, 1, 0, 1, 0], .blk 2, .code [1, 1, 0, 1, 0, 0, 1, 0, 0, 1, 1], .blk 1, .code [1, 1, 0, 1, 0, 0, 1, 1], .loop [1, 1, 0, 1, 0], .blk 0, .code [1, 1, 1]]) (t' := [(0, .sl 51 (List.map Rule.av a) f_a), (1, .sl 51 (List.map Rule.av b) f_b), (5, .own 0 1000000), (6, .sc (.int .i64 ((i : Nat) : Int))), (7, .sc (.bool in_)), (8, .sc (.int .i64 ((k1 : Nat) : Int))), (18, .sc (.bool (decide (((k1 : Nat) : Int) < (((List.map Rule.av b).length : Nat) : Int)))))]) (h' := [.row 51 (List.map Rule.av out) 1000000 true]) (by kernel_rfl) ?_
    refine AR.cond (.tmp 18) (decide (((k1 : Nat) : Int) < (((List.map Rule.av b).length : Nat) : Int))) (by kernel_rfl) (by kernel_rfl) (fun hb => ?ht54) (fun hb => ?hf54)
    case ht54 =>
      refine AR.seg hG hm 3 [0, 1, 5, 6, 7, 8] (k' := [.code [1, 1, 0, 1, 0, 0, 1, 0, 0, 1, 0, 1, 0, 0, 1, 0, 0], .blk 3, .code [1, 1, 0, 1, 0, 0, 1, 0, 0, 1, 0, 1, 0, 0, 1, 1], .loop [1, 1, 0, 1, 0, 0, 1, 0, 0, 1, 0, 1, 0], .blk 2, .code [1, 1, 0, 1, 0, 0, 1, 0, 0, 1, 1], .blk 1, .code [1, 1, 0, 1, 0, 0, 1, 1], .loop [1, 1, 0, 1, 0], .blk 0, .code [1, 1, 1]]) (t' := [(0, .sl 51 (List.map Rule.av a) f_a), (1, .sl 51 (List.map Rule.av b) f_b), (5, .own 0 1000000), (6, .sc (.int .i64 ((i : Nat) : Int))), (7, .sc (.bool in_)), (8, .sc (.int .i64 ((k1 : Nat) : Int)))]) (h' := [.row 51 (List.map Rule.av out) 1000000 true]) (by kernel_rfl) ?_
      refine AR.reg hm podestaref04_Alone_k0 (by kernel_rfl) ?_
      refine DK.seg hG 2 [0, 1, 5, 6, 8, 22] (t' := [(0, .sl 51 (List.map Rule.av a) f_a), (1, .sl 51 (List.map Rule.av b) f_b), (5, .own 0 1000000), (6, .sc (.int .i64 ((i : Nat) : Int))), (8, .sc (.int .i64 ((k1 : Nat) : Int))), (22, .sc (.bool in_))]) (h' := [.row 51 (List.map Rule.av out) 1000000 true]) (by kernel_rfl) rfl ?_
      refine DK.mux 22 in_ (j := 12) (h' := [.row 51 (List.map Rule.av out) 1000000 true]) (by kernel_rfl) (fun z => [(0, .sl 51 (List.map Rule.av a) f_a), (1, .sl 51 (List.map Rule.av b) f_b), (5, .own 0 1000000), (6, .sc (.int .i64 ((i : Nat) : Int))), (8, .sc (.int .i64 ((k1 : Nat) : Int))), (32, .sc (.bool (z || (podestaref04_Equal x x1))))]) ?J55 (fun hb J => ?ht55) (fun hb J => ?hf55)
      case ht55 =>
        exact DK.seg hG 10 [0, 1, 5, 6, 8, 32] (by kernel_rfl) rfl J
      case hf55 =>
        refine DK.seg hG 2 [0, 1, 5, 6, 8, 22, 23, 24] (t' := [(0, .sl 51 (List.map Rule.av a) f_a), (1, .sl 51 (List.map Rule.av b) f_b), (5, .own 0 1000000), (6, .sc (.int .i64 ((i : Nat) : Int))), (8, .sc (.int .i64 ((k1 : Nat) : Int))), (22, .sc (.bool false)), (23, .sl 51 (List.map Rule.av a) f_a), (24, .sc (.int .i64 ((i : Nat) : Int)))]) (h' := [.row 51 (List.map Rule.av out) 1000000 true]) (by kernel_rfl) rfl ?_
        refine DK.op' [0, 1, 5, 6, 8, 22, 25] (t' := [(0, .sl 51 (List.map Rule.av a) f_a), (1, .sl 51 (List.map Rule.av b) f_b), (5, .own 0 1000000), (6, .sc (.int .i64 ((i : Nat) : Int))), (8, .sc (.int .i64 ((k1 : Nat) : Int))), (22, .sc (.bool false)), (25, .ep [.arr .u64 12 x.Match.Value, .arr .u64 12 x.Match.Care, .sc (.int .i64 x.Prio), .sl 60 (List.map Act.av x.Acts) false, .sc (.int .i64 x.Idle), .sc (.int .i64 x.Hard), .sc (.int .i64 x.Owner), .sc (.int .i64 x.Hits), .sc (.int .i64 x.Quiet), .sc (.int .i64 x.Age)] 0 none)]) (h' := [.row 51 (List.map Rule.av out) 1000000 true]) (LSpec.index' (r := Rule.av x) (fs := [.arr .u64 12 x.Match.Value, .arr .u64 12 x.Match.Care, .sc (.int .i64 x.Prio), .sl 60 (List.map Act.av x.Acts) false, .sc (.int .i64 x.Idle), .sc (.int .i64 x.Hard), .sc (.int .i64 x.Owner), .sc (.int .i64 x.Hits), .sc (.int .i64 x.Quiet), .sc (.int .i64 x.Age)]) hG (rows := List.map Rule.av a) (j := ((i : Nat) : Int)) (by kernel_rfl) (ixO_map hv_i _) (by kernel_rfl)) (by kernel_rfl) rfl (by kernel_rfl) rfl ?_
        refine DK.seg hG 3 [0, 1, 5, 6, 8, 22, 26, 27, 28] (t' := [(0, .sl 51 (List.map Rule.av a) f_a), (1, .sl 51 (List.map Rule.av b) f_b), (5, .own 0 1000000), (6, .sc (.int .i64 ((i : Nat) : Int))), (8, .sc (.int .i64 ((k1 : Nat) : Int))), (22, .sc (.bool false)), (26, Rule.av x), (27, .sl 51 (List.map Rule.av b) f_b), (28, .sc (.int .i64 ((k1 : Nat) : Int)))]) (h' := [.row 51 (List.map Rule.av out) 1000000 true]) (by kernel_rfl) rfl ?_
        refine DK.op' [0, 1, 5, 6, 8, 22, 26, 29] (t' := [(0, .sl 51 (List.map Rule.av a) f_a), (1, .sl 51 (List.map Rule.av b) f_b), (5, .own 0 1000000), (6, .sc (.int .i64 ((i : Nat) : Int))), (8, .sc (.int .i64 ((k1 : Nat) : Int))), (22, .sc (.bool false)), (26, Rule.av x), (29, .ep [.arr .u64 12 x1.Match.Value, .arr .u64 12 x1.Match.Care, .sc (.int .i64 x1.Prio), .sl 60 (List.map Act.av x1.Acts) false, .sc (.int .i64 x1.Idle), .sc (.int .i64 x1.Hard), .sc (.int .i64 x1.Owner), .sc (.int .i64 x1.Hits), .sc (.int .i64 x1.Quiet), .sc (.int .i64 x1.Age)] 0 none)]) (h' := [.row 51 (List.map Rule.av out) 1000000 true]) (LSpec.index' (r := Rule.av x1) (fs := [.arr .u64 12 x1.Match.Value, .arr .u64 12 x1.Match.Care, .sc (.int .i64 x1.Prio), .sl 60 (List.map Act.av x1.Acts) false, .sc (.int .i64 x1.Idle), .sc (.int .i64 x1.Hard), .sc (.int .i64 x1.Owner), .sc (.int .i64 x1.Hits), .sc (.int .i64 x1.Quiet), .sc (.int .i64 x1.Age)]) hG (rows := List.map Rule.av b) (j := ((k1 : Nat) : Int)) (by kernel_rfl) (ixO_map hv_k1 _) (by kernel_rfl)) (by kernel_rfl) rfl (by kernel_rfl) rfl ?_
        refine DK.seg hG 1 [0, 1, 5, 6, 8, 22, 26, 30] (t' := [(0, .sl 51 (List.map Rule.av a) f_a), (1, .sl 51 (List.map Rule.av b) f_b), (5, .own 0 1000000), (6, .sc (.int .i64 ((i : Nat) : Int))), (8, .sc (.int .i64 ((k1 : Nat) : Int))), (22, .sc (.bool false)), (26, Rule.av x), (30, Rule.av x1)]) (h' := [.row 51 (List.map Rule.av out) 1000000 true]) (by kernel_rfl) rfl ?_
        refine DK.op' [0, 1, 5, 6, 8, 22, 31] (t' := [(0, .sl 51 (List.map Rule.av a) f_a), (1, .sl 51 (List.map Rule.av b) f_b), (5, .own 0 1000000), (6, .sc (.int .i64 ((i : Nat) : Int))), (8, .sc (.int .i64 ((k1 : Nat) : Int))), (22, .sc (.bool false)), (31, .sc (.bool (podestaref04_Equal x x1)))]) (h' := [.row 51 (List.map Rule.av out) 1000000 true]) (LSpec.callP' (podestaref04_Equal_calls x x1) (by kernel_rfl)) (by kernel_rfl) rfl (by kernel_rfl) rfl ?_
        exact DK.seg hG 1 [0, 1, 5, 6, 8, 32] (by kernel_rfl) rfl J
      refine DK.seg hG 1 [0, 1, 5, 6, 7, 8] (t' := [(0, .sl 51 (List.map Rule.av a) f_a), (1, .sl 51 (List.map Rule.av b) f_b), (5, .own 0 1000000), (6, .sc (.int .i64 ((i : Nat) : Int))), (7, .sc (.bool (in_ || (podestaref04_Equal x x1)))), (8, .sc (.int .i64 ((k1 : Nat) : Int)))]) (h' := [.row 51 (List.map Rule.av out) 1000000 true]) (by kernel_rfl) rfl ?_
      refine DK.done (by kernel_rfl) (by kernel_rfl) ?_
      refine AR.seg hG hm 2 [0, 1, 5, 6, 7, 8] (k' := [.loop [1, 1, 0, 1, 0, 0, 1, 0, 0, 1, 0, 1, 0], .blk 2, .code [1, 1, 0, 1, 0, 0, 1, 0, 0, 1, 1], .blk 1, .code [1, 1, 0, 1, 0, 0, 1, 1], .loop [1, 1, 0, 1, 0], .blk 0, .code [1, 1, 1]]) (t' := [(0, .sl 51 (List.map Rule.av a) f_a), (1, .sl 51 (List.map Rule.av b) f_b), (5, .own 0 1000000), (6, .sc (.int .i64 ((i : Nat) : Int))), (7, .sc (.bool (in_ || (podestaref04_Equal x x1)))), (8, .sc (.int .i64 (IntKind.i64.wrap (((k1 : Nat) : Int) + 1))))]) (h' := [.row 51 (List.map Rule.av out) 1000000 true]) (by kernel_rfl) ?_
      refine AR.keep [0, 1, 5, 6, 7, 8] (t' := [(0, .sl 51 (List.map Rule.av a) f_a), (1, .sl 51 (List.map Rule.av b) f_b), (5, .own 0 1000000), (6, .sc (.int .i64 ((i : Nat) : Int))), (7, .sc (.bool (in_ || (podestaref04_Equal x x1)))), (8, .sc (.int .i64 (IntKind.i64.wrap (((k1 : Nat) : Int) + 1))))]) (by kernel_rfl) ?_
      refine AR.loop_round ?_
      rw [hw]
      exact ih (k1 + 1) hd2 (in_ || (podestaref04_Equal x x1)) H
    case hf54 => exact absurd (hc.symm.trans hb) (by decide)

def podestaref04_Alone_l0s (b : List Rule) : List Rule → List Rule → Option ((List Rule))
  | [], out =>
    some out
  | x :: rest, out =>
    letT (podestaref04_Alone_l1s x b false) fun v =>
    (bif (!v) then
      fitO (out.length + [x].length) 272 (
      podestaref04_Alone_l0s b rest (out ++ [x]))
    else
      podestaref04_Alone_l0s b rest out)
theorem podestaref04_Alone_l0_walk (a : List Rule) (b : List Rule) (f_a : Bool) (f_b : Bool) (r : (List Rule)) (c0 : Ctx) (hc0 : c0.m.length = 0) (res : (List Rule)) (J : AR Try.prog tab podestaref04_Alone_F c0 (Rp tab.S c0 (.sl 51 (List.map Rule.av r) false) []) [.code [1, 1, 1]] [(5, .own 0 1000000)] [.row 51 (List.map Rule.av res) 1000000 true]) :
    ∀ (rest : List Rule) (i : Nat) (hd : a.drop i = rest) (out : List Rule) (H : podestaref04_Alone_l0s b rest out = some res), AR Try.prog tab podestaref04_Alone_F c0 (Rp tab.S c0 (.sl 51 (List.map Rule.av r) false) []) [.code [1, 1, 0, 1, 0, 0], .loop [1, 1, 0, 1, 0], .blk 0, .code [1, 1, 1]] [(0, .sl 51 (List.map Rule.av a) f_a), (1, .sl 51 (List.map Rule.av b) f_b), (5, .own 0 1000000), (6, .sc (.int .i64 ((i : Nat) : Int)))] [.row 51 (List.map Rule.av out) 1000000 true] := by
  have hG := tab_ok
  have hm := mixed
  intro rest
  induction rest with
  | nil =>
    intro i hd out H
    rw [podestaref04_Alone_l0s] at H
    refine AR.facts 0 rfl fun hf => ?_
    have hlen : a.length ≤ 9223372036854775807 := by have hq := len_ok hf.2.1; rw [List.length_map] at hq; exact hq
    have hge : a.length ≤ i := List.drop_eq_nil_iff.1 hd
    have hc : (decide (((i : Nat) : Int) < (((List.map Rule.av a).length : Nat) : Int))) = false := by rw [List.length_map]; exact decide_eq_false (by omega)
    refine AR.seg hG hm 3 [0, 1, 5, 6, 12] (k' := [.code [1, 1, 0, 1, 0, 0, 0, 1], .code [1, 1, 0, 1, 0, 0, 1], .loop [1, 1, 0, 1, 0], .blk 0, .code [1, 1, 1]]) (t' := [(0, .sl 51 (List.map Rule.av a) f_a), (1, .sl 51 (List.map Rule.av b) f_b), (5, .own 0 1000000), (6, .sc (.int .i64 ((i : Nat) : Int))), (12, .sc (.bool (decide (((i : Nat) : Int) < (((List.map Rule.av a).length : Nat) : Int)))))]) (h' := [.row 51 (List.map Rule.av out) 1000000 true]) (by kernel_rfl) ?_
    refine AR.cond (.tmp 12) (decide (((i : Nat) : Int) < (((List.map Rule.av a).length : Nat) : Int))) (by kernel_rfl) (by kernel_rfl) (fun hb => ?ht45) (fun hb => ?hf45)
    case ht45 => exact absurd (hb.symm.trans hc) (by decide)
    case hf45 =>
      refine AR.seg hG hm 1 [5] (k' := [.code [1, 1, 1]]) (t' := [(5, .own 0 1000000)]) (h' := [.row 51 (List.map Rule.av out) 1000000 true]) (by kernel_rfl) ?_
      refine AR.keep [5] (t' := [(5, .own 0 1000000)]) (by kernel_rfl) ?_
      obtain rfl := Option.some.inj H
      exact J
  | cons x rest ih =>
    intro i hd out H
    rw [podestaref04_Alone_l0s] at H
    refine AR.facts 0 rfl fun hf => ?_
    have hlen : a.length ≤ 9223372036854775807 := by have hq := len_ok hf.2.1; rw [List.length_map] at hq; exact hq
    obtain ⟨hlt, hv_i, hd2⟩ := drop_cons hd
    have hc : (decide (((i : Nat) : Int) < (((List.map Rule.av a).length : Nat) : Int))) = true := by rw [List.length_map]; exact decide_eq_true (by omega)
    have hw : IntKind.i64.wrap (((i : Nat) : Int) + 1) = ((i + 1 : Nat) : Int) := wrapI_succ (by omega)
    refine AR.seg hG hm 3 [0, 1, 5, 6, 12] (k' := [.code [1, 1, 0, 1, 0, 0, 0, 1], .code [1, 1, 0, 1, 0, 0, 1], .loop [1, 1, 0, 1, 0], .blk 0, .code [1, 1, 1]]) (t' := [(0, .sl 51 (List.map Rule.av a) f_a), (1, .sl 51 (List.map Rule.av b) f_b), (5, .own 0 1000000), (6, .sc (.int .i64 ((i : Nat) : Int))), (12, .sc (.bool (decide (((i : Nat) : Int) < (((List.map Rule.av a).length : Nat) : Int)))))]) (h' := [.row 51 (List.map Rule.av out) 1000000 true]) (by kernel_rfl) ?_
    refine AR.cond (.tmp 12) (decide (((i : Nat) : Int) < (((List.map Rule.av a).length : Nat) : Int))) (by kernel_rfl) (by kernel_rfl) (fun hb => ?ht46) (fun hb => ?hf46)
    case ht46 =>
      refine AR.seg hG hm 9 [0, 1, 5, 6, 7, 8] (k' := [.code [1, 1, 0, 1, 0, 0, 1, 0, 0, 1, 0, 1, 0], .blk 2, .code [1, 1, 0, 1, 0, 0, 1, 0, 0, 1, 1], .blk 1, .code [1, 1, 0, 1, 0, 0, 1, 1], .loop [1, 1, 0, 1, 0], .blk 0, .code [1, 1, 1]]) (t' := [(0, .sl 51 (List.map Rule.av a) f_a), (1, .sl 51 (List.map Rule.av b) f_b), (5, .own 0 1000000), (6, .sc (.int .i64 ((i : Nat) : Int))), (7, .sc (.bool false)), (8, .sc (.int .i64 0))]) (h' := [.row 51 (List.map Rule.av out) 1000000 true]) (by kernel_rfl) ?_
      obtain ⟨v, hv, H⟩ := letT_eq H
      refine AR.into (by kernel_rfl) ?_
      refine podestaref04_Alone_l1_walk a b i out x hv_i f_a f_b r c0 hc0 v ?_ b 0 rfl false hv
      refine AR.seg hG hm 2 [0, 1, 5, 6, 34] (k' := [.code [1, 1, 0, 1, 0, 0, 1, 0, 0, 1, 1, 1], .blk 1, .code [1, 1, 0, 1, 0, 0, 1, 1], .loop [1, 1, 0, 1, 0], .blk 0, .code [1, 1, 1]]) (t' := [(0, .sl 51 (List.map Rule.av a) f_a), (1, .sl 51 (List.map Rule.av b) f_b), (5, .own 0 1000000), (6, .sc (.int .i64 ((i : Nat) : Int))), (34, .sc (.bool (!v)))]) (h' := [.row 51 (List.map Rule.av out) 1000000 true]) (by kernel_rfl) ?_
      refine AR.cond (.tmp 34) (!v) (by kernel_rfl) (by kernel_rfl) (fun hb => ?ht56) (fun hb => ?hf56)
      case ht56 =>
        replace H := cond_t hb H
        refine AR.reg hm podestaref04_Alone_k1 (by kernel_rfl) ?_
        refine DK.seg hG 3 [0, 1, 6, 35, 36, 37] (t' := [(0, .sl 51 (List.map Rule.av a) f_a), (1, .sl 51 (List.map Rule.av b) f_b), (6, .sc (.int .i64 ((i : Nat) : Int))), (35, .own 0 1000000), (36, .sl 51 (List.map Rule.av a) f_a), (37, .sc (.int .i64 ((i : Nat) : Int)))]) (h' := [.row 51 (List.map Rule.av out) 1000000 true]) (by kernel_rfl) rfl ?_
        refine DK.op' [0, 1, 6, 35, 38] (t' := [(0, .sl 51 (List.map Rule.av a) f_a), (1, .sl 51 (List.map Rule.av b) f_b), (6, .sc (.int .i64 ((i : Nat) : Int))), (35, .own 0 1000000), (38, .ep [.arr .u64 12 x.Match.Value, .arr .u64 12 x.Match.Care, .sc (.int .i64 x.Prio), .sl 60 (List.map Act.av x.Acts) false, .sc (.int .i64 x.Idle), .sc (.int .i64 x.Hard), .sc (.int .i64 x.Owner), .sc (.int .i64 x.Hits), .sc (.int .i64 x.Quiet), .sc (.int .i64 x.Age)] 0 none)]) (h' := [.row 51 (List.map Rule.av out) 1000000 true]) (LSpec.index' (r := Rule.av x) (fs := [.arr .u64 12 x.Match.Value, .arr .u64 12 x.Match.Care, .sc (.int .i64 x.Prio), .sl 60 (List.map Act.av x.Acts) false, .sc (.int .i64 x.Idle), .sc (.int .i64 x.Hard), .sc (.int .i64 x.Owner), .sc (.int .i64 x.Hits), .sc (.int .i64 x.Quiet), .sc (.int .i64 x.Age)]) hG (rows := List.map Rule.av a) (j := ((i : Nat) : Int)) (by kernel_rfl) (ixO_map hv_i _) (by kernel_rfl)) (by kernel_rfl) rfl (by kernel_rfl) rfl ?_
        refine DK.seg hG 2 [0, 1, 6, 35, 40] (t' := [(0, .sl 51 (List.map Rule.av a) f_a), (1, .sl 51 (List.map Rule.av b) f_b), (6, .sc (.int .i64 ((i : Nat) : Int))), (35, .own 0 1000000), (40, .sl 51 (List.map Rule.av [x]) true)]) (h' := [.row 51 (List.map Rule.av out) 1000000 true]) (by kernel_rfl) rfl ?_
        obtain ⟨hfit, H⟩ := fitO_some H
        refine DK.op' [0, 1, 6, 41] (t' := [(0, .sl 51 (List.map Rule.av a) f_a), (1, .sl 51 (List.map Rule.av b) f_b), (6, .sc (.int .i64 ((i : Nat) : Int))), (41, .own 0 1000001)]) (h' := [.row 51 (List.map Rule.av (out ++ [x])) 1000001 true]) (LSpec.append' hG Rule.av out [x] 0 1000000 51 272 hfit (by kernel_rfl)) (by kernel_rfl) (by kernel_rfl) (by kernel_rfl) rfl ?_
        refine DK.seg hG 1 [0, 1, 5, 6] (t' := [(0, .sl 51 (List.map Rule.av a) f_a), (1, .sl 51 (List.map Rule.av b) f_b), (5, .own 0 1000001), (6, .sc (.int .i64 ((i : Nat) : Int)))]) (h' := [.row 51 (List.map Rule.av (out ++ [x])) 1000001 true]) (by kernel_rfl) rfl ?_
        refine DK.done (by kernel_rfl) (by kernel_rfl) ?_
        refine AR.seg hG hm 2 [0, 1, 5, 6] (k' := [.loop [1, 1, 0, 1, 0], .blk 0, .code [1, 1, 1]]) (t' := [(0, .sl 51 (List.map Rule.av a) f_a), (1, .sl 51 (List.map Rule.av b) f_b), (5, .own 0 1000001), (6, .sc (.int .i64 (IntKind.i64.wrap (((i : Nat) : Int) + 1))))]) (h' := [.row 51 (List.map Rule.av (out ++ [x])) 1000001 true]) (by kernel_rfl) ?_
        refine AR.keep [0, 1, 5, 6] (t' := [(0, .sl 51 (List.map Rule.av a) f_a), (1, .sl 51 (List.map Rule.av b) f_b), (5, .own 0 1000001), (6, .sc (.int .i64 (IntKind.i64.wrap (((i : Nat) : Int) + 1))))]) (by kernel_rfl) ?_
        refine AR.norm' 0 1000000 hc0 (t' := [(0, .sl 51 (List.map Rule.av a) f_a), (1, .sl 51 (List.map Rule.av b) f_b), (5, .own 0 1000000), (6, .sc (.int .i64 (IntKind.i64.wrap (((i : Nat) : Int) + 1))))]) (h' := [.row 51 (List.map Rule.av (out ++ [x])) 1000000 true]) (by kernel_rfl) ?_
        refine AR.loop_round ?_
        rw [hw]
        exact ih (i + 1) hd2 (out ++ [x]) H
      case hf56 =>
        replace H := cond_f hb H
        refine AR.seg hG hm 3 [0, 1, 5, 6] (k' := [.loop [1, 1, 0, 1, 0], .blk 0, .code [1, 1, 1]]) (t' := [(0, .sl 51 (List.map Rule.av a) f_a), (1, .sl 51 (List.map Rule.av b) f_b), (5, .own 0 1000000), (6, .sc (.int .i64 (IntKind.i64.wrap (((i : Nat) : Int) + 1))))]) (h' := [.row 51 (List.map Rule.av out) 1000000 true]) (by kernel_rfl) ?_
        refine AR.keep [0, 1, 5, 6] (t' := [(0, .sl 51 (List.map Rule.av a) f_a), (1, .sl 51 (List.map Rule.av b) f_b), (5, .own 0 1000000), (6, .sc (.int .i64 (IntKind.i64.wrap (((i : Nat) : Int) + 1))))]) (by kernel_rfl) ?_
        refine AR.loop_round ?_
        rw [hw]
        exact ih (i + 1) hd2 out H
    case hf46 => exact absurd (hc.symm.trans hb) (by decide)

def podestaref04_Alone_raw (a : List Rule) (b : List Rule) : Option ((List Rule)) :=
  (podestaref04_Alone_l0s b a ([] : List Rule)).bind fun v =>
  some v
theorem podestaref04_Alone_walk (a : List Rule) (b : List Rule) (f_a : Bool) (f_b : Bool) (r : (List Rule)) (H : podestaref04_Alone_raw a b = some r) :
    ACalls Try.prog tab.S 16 [.sl 51 (List.map Rule.av a) f_a, .sl 51 (List.map Rule.av b) f_b] [] (.sl 51 (List.map Rule.av r) false) [] := by
  have hG := tab_ok
  have hm := mixed
  refine ACalls.of_AR (G := tab) podestaref04_Alone_F (fn := Try.f16) Try.func16 (by kernel_rfl) (by kernel_rfl) (by kernel_rfl) (Nat.le_of_ble_eq_true (by kernel_rfl)) ?_
  intro c0 hc0
  replace hc0 : c0.m.length = 0 := hc0
  rw [podestaref04_Alone_raw] at H
  refine AR.seg hG hm 8 [0, 1, 5, 6] (k' := [.code [1, 1, 0, 1, 0], .blk 0, .code [1, 1, 1]]) (t' := [(0, .sl 51 (List.map Rule.av a) f_a), (1, .sl 51 (List.map Rule.av b) f_b), (5, .sl 0 [] true), (6, .sc (.int .i64 0))]) (h' := []) (by kernel_rfl) ?_
  refine AR.adoptB' 5 51 (t' := [(5, .own 0 1000000), (0, .sl 51 (List.map Rule.av a) f_a), (1, .sl 51 (List.map Rule.av b) f_b), (6, .sc (.int .i64 0))]) (h' := [.row 51 (List.map Rule.av ([] : List Rule)) 1000000 true]) (by kernel_rfl) ?_
  refine AR.keep [0, 1, 5, 6] (t' := [(0, .sl 51 (List.map Rule.av a) f_a), (1, .sl 51 (List.map Rule.av b) f_b), (5, .own 0 1000000), (6, .sc (.int .i64 0))]) (by kernel_rfl) ?_
  obtain ⟨v, hv, H⟩ := Option.bind_eq_some_iff.1 H
  refine AR.into (by kernel_rfl) ?_
  refine podestaref04_Alone_l0_walk a b f_a f_b r c0 hc0 v ?_ a 0 rfl ([] : List Rule) hv
  refine AR.seg hG hm 2 [4] (k' := [.code [1, 1, 1, 1]]) (t' := [(4, .own 0 1000000)]) (h' := [.row 51 (List.map Rule.av v) 1000000 true]) (by kernel_rfl) ?_
  obtain rfl := Option.some.inj H
  exact AR.ret0 (fn := Try.f16) hG Try.func16 (by kernel_rfl) hc0 (r0 := .sl 51 (List.map Rule.av v) false) (by kernel_rfl) (WkV.refl _)

theorem refAlone_l1s_eq (x : Rule) : ∀ (l : List Rule) (q : Bool), podestaref04_Alone_l1s x l q = (q || l.any (fun y => x == y))
  | [], q => by rw [podestaref04_Alone_l1s]; simp
  | y :: l, q => by rw [podestaref04_Alone_l1s, refAlone_l1s_eq x l, List.any_cons, ref_Equal_eq, Bool.or_assoc]
theorem refAlone_l0s_eq (b : List Rule) : ∀ (l out : List Rule), (out.length + l.length) * 272 ≤ 140737488355328 → podestaref04_Alone_l0s b l out = some (out ++ aloneR l b)
  | [], out, _ => by rw [podestaref04_Alone_l0s]; simp [aloneR]
  | x :: l, out, h => by
      rw [List.length_cons] at h
      rw [podestaref04_Alone_l0s, refAlone_l1s_eq, fitO_eq (by rw [List.length_cons, List.length_nil]; omega), refAlone_l0s_eq b l (out ++ [x]) (by rw [List.length_append, List.length_cons, List.length_nil]; omega), refAlone_l0s_eq b l out (by omega), List.append_assoc]
      unfold aloneR letT
      rw [List.filter_cons, Bool.false_or]
      cases b.any (fun y => x == y) <;> rfl
theorem podestaref04_Alone_ok (a b : List Rule) (f g : Bool) : ACalls Try.prog tab.S 16 [.sl 51 (List.map Rule.av a) f, .sl 51 (List.map Rule.av b) g] [] (.sl 51 (List.map Rule.av (aloneR a b)) false) [] := by
  refine ACalls.facts (ent_of Try.func16 (by kernel_rfl) (by kernel_rfl)) fun hf => ?_
  have l0 : a.length * 272 ≤ 140737488355328 := by have h := hf.1.1; rw [List.length_map] at h; exact h
  refine podestaref04_Alone_walk a b f g _ ?_
  rw [podestaref04_Alone_raw, refAlone_l0s_eq b a [] (by rw [List.length_nil, Nat.zero_add]; exact l0)]
  rfl

end Go.Proofs.Ytlfiemphadkimaa

set_option linter.unusedVariables false
set_option linter.unusedSimpArgs false
set_option maxRecDepth 100000
set_option maxHeartbeats 4000000
namespace Go.Proofs.Ytlfiemphadkimaa
open Go.Sh
/-! ### podestaref04.Sort: function 22 -/
noncomputable def podestaref04_Sort_F : Go.Sh.Fn := ⟨22, bodyOf Try.f22, 70⟩
def podestaref04_Sort_k1 : List Kd := [.pure, .pure, .pure, .pure, .pure, .pure, .pure, .pure, .pure, .pure, .pure, .pure, .pure, .pure, .pure]
def podestaref04_Sort_k5 : List Kd := [.pure, .pure, .pure, .pure, .loud, .pure, .pure, .pure, .pure, .pure, .loud, .pure, .loud, .pure]
def podestaref04_Sort_k4 : List Kd := [.pure, .loud, .pure]
def podestaref04_Sort_k6 : List Kd := [.pure, .pure, .pure, .pure, .loud, .pure, .pure, .pure, .pure, .pure, .loud, .pure, .loud, .pure]
def podestaref04_Sort_k7 : List Kd := [.pure, .pure, .pure, .pure, .loud, .pure, .pure, .pure, .pure, .pure, .loud, .pure, .loud, .pure]
def podestaref04_Sort_k3 : List Kd := [.pure, .read, .pure, .pure, .pure, .read, .read, .pure, .pure, .pure, .pure, .pure, .pure]
def podestaref04_Sort_k2 : List Kd := [.pure, .pure, .pure, .pure, .loud, .pure]
def podestaref04_Sort_k0 : List Kd := [.pure, .pure, .pure, .pure, .pure, .pure]
def podestaref04_Sort_l1 (out : List Rule) (x : Rule) : Nat → Int → Option (Int)
  | 0, _ => none
  | m + 1, k1 =>
    (bif (decide (k1 < (((List.map Rule.av out).length : Nat) : Int))) then
    (ixO out k1).bind fun x1 =>
    (bif (podestaref04_Before x1 x) then
      podestaref04_Sort_l1 out x m (IntKind.i64.wrap (k1 + 1))
    else
      some k1)
  else
    some k1)
theorem podestaref04_Sort_l1_walk (q1 : Nat) (l : List Rule) (i : Nat) (out : List Rule) (x : Rule) (hv_i : ixO l ((i : Nat) : Int) = some x) (f_l : Bool) (r : (List Rule)) (c0 : Ctx) (hc0 : c0.m.length = 0) (res : Int) (J : AR Try.prog tab podestaref04_Sort_F c0 (Rp tab.S c0 (.sl 51 (List.map Rule.av r) false) []) [.code [1, 1, 0, 1, 0, 0, 1, 0, 0, 1, 1, 1], .blk 1, .code [1, 1, 0, 1, 0, 0, 1, 1], .loop [1, 1, 0, 1, 0], .blk 0, .code [1, 1, 1]] [(0, .sl 51 (List.map Rule.av l) f_l), (3, .sl 51 (List.map Rule.av out) false), (4, .sc (.int .i64 ((i : Nat) : Int))), (5, .sc (.int .i64 res))] []) :
    ∀ (m : Nat) (k1 : Int) (H : podestaref04_Sort_l1 out x m k1 = some res), AR Try.prog tab podestaref04_Sort_F c0 (Rp tab.S c0 (.sl 51 (List.map Rule.av r) false) []) [.code [1, 1, 0, 1, 0, 0, 1, 0, 0, 1, 1, 0, 0, 0], .loop [1, 1, 0, 1, 0, 0, 1, 0, 0, 1, 1, 0, 0], .blk 2, .code [1, 1, 0, 1, 0, 0, 1, 0, 0, 1, 1, 1], .blk 1, .code [1, 1, 0, 1, 0, 0, 1, 1], .loop [1, 1, 0, 1, 0], .blk 0, .code [1, 1, 1]] [(0, .sl 51 (List.map Rule.av l) f_l), (3, .sl 51 (List.map Rule.av out) false), (4, .sc (.int .i64 ((i : Nat) : Int))), (5, .sc (.int .i64 k1))] [] := by
  have hG := tab_ok
  have hm := mixed
  intro m
  induction m with
  | zero => intro k1 H; cases H
  | succ m ih =>
    intro k1 H
    rw [podestaref04_Sort_l1] at H
    refine AR.seg hG hm 2 [0, 3, 4, 5] (k' := [.code [1, 1, 0, 1, 0, 0, 1, 0, 0, 1, 1, 0, 0, 0, 0, 0], .code [1, 1, 0, 1, 0, 0, 1, 0, 0, 1, 1, 0, 0, 0, 0, 1], .code [1, 1, 0, 1, 0, 0, 1, 0, 0, 1, 1, 0, 0, 0, 1], .loop [1, 1, 0, 1, 0, 0, 1, 0, 0, 1, 1, 0, 0], .blk 2, .code [1, 1, 0, 1, 0, 0, 1, 0, 0, 1, 1, 1], .blk 1, .code [1, 1, 0, 1, 0, 0, 1, 1], .loop [1, 1, 0, 1, 0], .blk 0, .code [1, 1, 1]]) (t' := [(0, .sl 51 (List.map Rule.av l) f_l), (3, .sl 51 (List.map Rule.av out) false), (4, .sc (.int .i64 ((i : Nat) : Int))), (5, .sc (.int .i64 k1))]) (h' := []) (by kernel_rfl) ?_
    refine AR.reg hm podestaref04_Sort_k1 (by kernel_rfl) ?_
    refine DK.seg hG 5 [0, 3, 4, 5, 23] (t' := [(0, .sl 51 (List.map Rule.av l) f_l), (3, .sl 51 (List.map Rule.av out) false), (4, .sc (.int .i64 ((i : Nat) : Int))), (5, .sc (.int .i64 k1)), (23, .sc (.bool (decide (k1 < (((List.map Rule.av out).length : Nat) : Int)))))]) (h' := []) (by kernel_rfl) rfl ?_
    refine DK.split 23 (decide (k1 < (((List.map Rule.av out).length : Nat) : Int))) (by kernel_rfl) (fun hb => ?ht40) (fun hb => ?hf40)
    case ht40 =>
      replace H := cond_t hb H
      refine DK.seg hG 2 [0, 3, 4, 5, 23, 24, 25] (t' := [(0, .sl 51 (List.map Rule.av l) f_l), (3, .sl 51 (List.map Rule.av out) false), (4, .sc (.int .i64 ((i : Nat) : Int))), (5, .sc (.int .i64 k1)), (23, .sc (.bool true)), (24, .sl 51 (List.map Rule.av out) false), (25, .sc (.int .i64 k1))]) (h' := []) (by kernel_rfl) rfl ?_
      obtain ⟨x1, hv, H⟩ := Option.bind_eq_some_iff.1 H
      refine DK.op' [0, 3, 4, 5, 23, 26] (t' := [(0, .sl 51 (List.map Rule.av l) f_l), (3, .sl 51 (List.map Rule.av out) false), (4, .sc (.int .i64 ((i : Nat) : Int))), (5, .sc (.int .i64 k1)), (23, .sc (.bool true)), (26, .ep [.arr .u64 12 x1.Match.Value, .arr .u64 12 x1.Match.Care, .sc (.int .i64 x1.Prio), .sl 60 (List.map Act.av x1.Acts) false, .sc (.int .i64 x1.Idle), .sc (.int .i64 x1.Hard), .sc (.int .i64 x1.Owner), .sc (.int .i64 x1.Hits), .sc (.int .i64 x1.Quiet), .sc (.int .i64 x1.Age)] 0 none)]) (h' := []) (LSpec.index' (r := Rule.av x1) (fs := [.arr .u64 12 x1.Match.Value, .arr .u64 12 x1.Match.Care, .sc (.int .i64 x1.Prio), .sl 60 (List.map Act.av x1.Acts) false, .sc (.int .i64 x1.Idle), .sc (.int .i64 x1.Hard), .sc (.int .i64 x1.Owner), .sc (.int .i64 x1.Hits), .sc (.int .i64 x1.Quiet), .sc (.int .i64 x1.Age)]) hG (rows := List.map Rule.av out) (j := k1) (by kernel_rfl) (ixO_map hv _) (by kernel_rfl)) (by kernel_rfl) rfl (by kernel_rfl) rfl ?_
      refine DK.seg hG 3 [0, 3, 4, 5, 23, 27, 28, 29] (t' := [(0, .sl 51 (List.map Rule.av l) f_l), (3, .sl 51 (List.map Rule.av out) false), (4, .sc (.int .i64 ((i : Nat) : Int))), (5, .sc (.int .i64 k1)), (23, .sc (.bool true)), (27, Rule.av x1), (28, .sl 51 (List.map Rule.av l) f_l), (29, .sc (.int .i64 ((i : Nat) : Int)))]) (h' := []) (by kernel_rfl) rfl ?_
      refine DK.op' [0, 3, 4, 5, 23, 27, 30] (t' := [(0, .sl 51 (List.map Rule.av l) f_l), (3, .sl 51 (List.map Rule.av out) false), (4, .sc (.int .i64 ((i : Nat) : Int))), (5, .sc (.int .i64 k1)), (23, .sc (.bool true)), (27, Rule.av x1), (30, .ep [.arr .u64 12 x.Match.Value, .arr .u64 12 x.Match.Care, .sc (.int .i64 x.Prio), .sl 60 (List.map Act.av x.Acts) false, .sc (.int .i64 x.Idle), .sc (.int .i64 x.Hard), .sc (.int .i64 x.Owner), .sc (.int .i64 x.Hits), .sc (.int .i64 x.Quiet), .sc (.int .i64 x.Age)] 0 none)]) (h' := []) (LSpec.index' (r := Rule.av x) (fs := [.arr .u64 12 x.Match.Value, .arr .u64 12 x.Match.Care, .sc (.int .i64 x.Prio), .sl 60 (List.map Act.av x.Acts) false, .sc (.int .i64 x.Idle), .sc (.int .i64 x.Hard), .sc (.int .i64 x.Owner), .sc (.int .i64 x.Hits), .sc (.int .i64 x.Quiet), .sc (.int .i64 x.Age)]) hG (rows := List.map Rule.av l) (j := ((i : Nat) : Int)) (by kernel_rfl) (ixO_map hv_i _) (by kernel_rfl)) (by kernel_rfl) rfl (by kernel_rfl) rfl ?_
      refine DK.seg hG 1 [0, 3, 4, 5, 23, 27, 31] (t' := [(0, .sl 51 (List.map Rule.av l) f_l), (3, .sl 51 (List.map Rule.av out) false), (4, .sc (.int .i64 ((i : Nat) : Int))), (5, .sc (.int .i64 k1)), (23, .sc (.bool true)), (27, Rule.av x1), (31, Rule.av x)]) (h' := []) (by kernel_rfl) rfl ?_
      refine DK.op' [0, 3, 4, 5, 23, 32] (t' := [(0, .sl 51 (List.map Rule.av l) f_l), (3, .sl 51 (List.map Rule.av out) false), (4, .sc (.int .i64 ((i : Nat) : Int))), (5, .sc (.int .i64 k1)), (23, .sc (.bool true)), (32, .sc (.bool (podestaref04_Before x1 x)))]) (h' := []) (LSpec.callP' (podestaref04_Before_calls x1 x) (by kernel_rfl)) (by kernel_rfl) rfl (by kernel_rfl) rfl ?_
      refine DK.seg hG 1 [0, 3, 4, 5, 33] (t' := [(0, .sl 51 (List.map Rule.av l) f_l), (3, .sl 51 (List.map Rule.av out) false), (4, .sc (.int .i64 ((i : Nat) : Int))), (5, .sc (.int .i64 k1)), (33, .sc (.bool (podestaref04_Before x1 x)))]) (h' := []) (by kernel_rfl) rfl ?_
      refine DK.done (by kernel_rfl) (by kernel_rfl) ?_
      refine AR.cond (.tmp 33) (podestaref04_Before x1 x) (by kernel_rfl) (by kernel_rfl) (fun hb => ?ht41) (fun hb => ?hf41)
      case ht41 =>
        replace H := cond_t hb H
        refine AR.seg hG hm 4 [0, 3, 4, 5] (k' := [.loop [1, 1, 0, 1, 0, 0, 1, 0, 0, 1, 1, 0, 0], .blk 2, .code [1, 1, 0, 1, 0, 0, 1, 0, 0, 1, 1, 1], .blk 1, .code [1, 1, 0, 1, 0, 0, 1, 1], .loop [1, 1, 0, 1, 0], .blk 0, .code [1, 1, 1]]) (t' := [(0, .sl 51 (List.map Rule.av l) f_l), (3, .sl 51 (List.map Rule.av out) false), (4, .sc (.int .i64 ((i : Nat) : Int))), (5, .sc (.int .i64 (IntKind.i64.wrap (k1 + 1))))]) (h' := []) (by kernel_rfl) ?_
        refine AR.keep [0, 3, 4, 5] (t' := [(0, .sl 51 (List.map Rule.av l) f_l), (3, .sl 51 (List.map Rule.av out) false), (4, .sc (.int .i64 ((i : Nat) : Int))), (5, .sc (.int .i64 (IntKind.i64.wrap (k1 + 1))))]) (by kernel_rfl) ?_
        refine AR.loop_round ?_
        exact ih (IntKind.i64.wrap (k1 + 1)) H
      case hf41 =>
        replace H := cond_f hb H
        refine AR.seg hG hm 1 [0, 3, 4, 5] (k' := [.code [1, 1, 0, 1, 0, 0, 1, 0, 0, 1, 1, 1], .blk 1, .code [1, 1, 0, 1, 0, 0, 1, 1], .loop [1, 1, 0, 1, 0], .blk 0, .code [1, 1, 1]]) (t' := [(0, .sl 51 (List.map Rule.av l) f_l), (3, .sl 51 (List.map Rule.av out) false), (4, .sc (.int .i64 ((i : Nat) : Int))), (5, .sc (.int .i64 k1))]) (h' := []) (by kernel_rfl) ?_
        refine AR.keep [0, 3, 4, 5] (t' := [(0, .sl 51 (List.map Rule.av l) f_l), (3, .sl 51 (List.map Rule.av out) false), (4, .sc (.int .i64 ((i : Nat) : Int))), (5, .sc (.int .i64 k1))]) (by kernel_rfl) ?_
        obtain rfl := Option.some.inj H
        exact J
    case hf40 =>
      replace H := cond_f hb H
      refine DK.seg hG 10 [0, 3, 4, 5, 33] (t' := [(0, .sl 51 (List.map Rule.av l) f_l), (3, .sl 51 (List.map Rule.av out) false), (4, .sc (.int .i64 ((i : Nat) : Int))), (5, .sc (.int .i64 k1)), (33, .sc (.bool false))]) (h' := []) (by kernel_rfl) rfl ?_
      refine DK.done (by kernel_rfl) (by kernel_rfl) ?_
      refine AR.seg hG hm 2 [0, 3, 4, 5] (k' := [.code [1, 1, 0, 1, 0, 0, 1, 0, 0, 1, 1, 1], .blk 1, .code [1, 1, 0, 1, 0, 0, 1, 1], .loop [1, 1, 0, 1, 0], .blk 0, .code [1, 1, 1]]) (t' := [(0, .sl 51 (List.map Rule.av l) f_l), (3, .sl 51 (List.map Rule.av out) false), (4, .sc (.int .i64 ((i : Nat) : Int))), (5, .sc (.int .i64 k1))]) (h' := []) (by kernel_rfl) ?_
      refine AR.keep [0, 3, 4, 5] (t' := [(0, .sl 51 (List.map Rule.av l) f_l), (3, .sl 51 (List.map Rule.av out) false), (4, .sc (.int .i64 ((i : Nat) : Int))), (5, .sc (.int .i64 k1))]) (by kernel_rfl) ?_
      obtain rfl := Option.some.inj H
      exact J
def podestaref04_Sort_l0s (q1 : Nat) : List Rule → List Rule → Option ((List Rule))
  | [], out =>
    some out
  | x :: rest, out =>
    (bif (!(podestaref04_Rule x)) then
      podestaref04_Sort_l0s q1 rest out
    else
      (podestaref04_Sort_l1 out x q1 0).bind fun v =>
      (sliceO out (some v) none none).bind fun x1 =>
      fitO (([] : List Rule).length + x1.length) 272 (
      (bif (decide ((((List.map Rule.av (([] : List Rule) ++ x1)).length : Nat) : Int) > 0)) then
        (ixO (([] : List Rule) ++ x1) 0).bind fun x2 =>
        (bif (podestaref04_Key x2 x) then
          (sliceO (([] : List Rule) ++ x1) (some 1) none none).bind fun x3 =>
          (sliceO out none (some v) none).bind fun x4 =>
          fitO (([] : List Rule).length + x4.length) 272 (
          fitO ((([] : List Rule) ++ x4).length + [x].length) 272 (
          fitO (((([] : List Rule) ++ x4) ++ [x]).length + x3.length) 272 (
          podestaref04_Sort_l0s q1 rest (((([] : List Rule) ++ x4) ++ [x]) ++ x3))))
        else
          (sliceO out none (some v) none).bind fun x5 =>
          fitO (([] : List Rule).length + x5.length) 272 (
          fitO ((([] : List Rule) ++ x5).length + [x].length) 272 (
          fitO (((([] : List Rule) ++ x5) ++ [x]).length + (([] : List Rule) ++ x1).length) 272 (
          podestaref04_Sort_l0s q1 rest (((([] : List Rule) ++ x5) ++ [x]) ++ (([] : List Rule) ++ x1))))))
      else
        (sliceO out none (some v) none).bind fun x6 =>
        fitO (([] : List Rule).length + x6.length) 272 (
        fitO ((([] : List Rule) ++ x6).length + [x].length) 272 (
        fitO (((([] : List Rule) ++ x6) ++ [x]).length + (([] : List Rule) ++ x1).length) 272 (
        podestaref04_Sort_l0s q1 rest (((([] : List Rule) ++ x6) ++ [x]) ++ (([] : List Rule) ++ x1))))))))
theorem podestaref04_Sort_l0_walk (q1 : Nat) (l : List Rule) (f_l : Bool) (r : (List Rule)) (c0 : Ctx) (hc0 : c0.m.length = 0) (res : (List Rule)) (J : AR Try.prog tab podestaref04_Sort_F c0 (Rp tab.S c0 (.sl 51 (List.map Rule.av r) false) []) [.code [1, 1, 1]] [(3, .sl 51 (List.map Rule.av res) false)] []) :
    ∀ (rest : List Rule) (i : Nat) (hd : l.drop i = rest) (out : List Rule) (H : podestaref04_Sort_l0s q1 rest out = some res), AR Try.prog tab podestaref04_Sort_F c0 (Rp tab.S c0 (.sl 51 (List.map Rule.av r) false) []) [.code [1, 1, 0, 1, 0, 0], .loop [1, 1, 0, 1, 0], .blk 0, .code [1, 1, 1]] [(0, .sl 51 (List.map Rule.av l) f_l), (3, .sl 51 (List.map Rule.av out) false), (4, .sc (.int .i64 ((i : Nat) : Int)))] [] := by
  have hG := tab_ok
  have hm := mixed
  intro rest
  induction rest with
  | nil =>
    intro i hd out H
    rw [podestaref04_Sort_l0s] at H
    refine AR.facts 0 rfl fun hf => ?_
    have hlen : l.length ≤ 9223372036854775807 := by have hq := len_ok hf.2.1; rw [List.length_map] at hq; exact hq
    have hge : l.length ≤ i := List.drop_eq_nil_iff.1 hd
    have hc : (decide (((i : Nat) : Int) < (((List.map Rule.av l).length : Nat) : Int))) = false := by rw [List.length_map]; exact decide_eq_false (by omega)
    refine AR.seg hG hm 3 [0, 3, 4, 10] (k' := [.code [1, 1, 0, 1, 0, 0, 0, 1], .code [1, 1, 0, 1, 0, 0, 1], .loop [1, 1, 0, 1, 0], .blk 0, .code [1, 1, 1]]) (t' := [(0, .sl 51 (List.map Rule.av l) f_l), (3, .sl 51 (List.map Rule.av out) false), (4, .sc (.int .i64 ((i : Nat) : Int))), (10, .sc (.bool (decide (((i : Nat) : Int) < (((List.map Rule.av l).length : Nat) : Int)))))]) (h' := []) (by kernel_rfl) ?_
    refine AR.cond (.tmp 10) (decide (((i : Nat) : Int) < (((List.map Rule.av l).length : Nat) : Int))) (by kernel_rfl) (by kernel_rfl) (fun hb => ?ht33) (fun hb => ?hf33)
    case ht33 => exact absurd (hb.symm.trans hc) (by decide)
    case hf33 =>
      refine AR.seg hG hm 1 [3] (k' := [.code [1, 1, 1]]) (t' := [(3, .sl 51 (List.map Rule.av out) false)]) (h' := []) (by kernel_rfl) ?_
      refine AR.keep [3] (t' := [(3, .sl 51 (List.map Rule.av out) false)]) (by kernel_rfl) ?_
      obtain rfl := Option.some.inj H
      exact J
  | cons x rest ih =>
    intro i hd out H
    rw [podestaref04_Sort_l0s] at H
    refine AR.facts 0 rfl fun hf => ?_
    have hlen : l.length ≤ 9223372036854775807 := by have hq := len_ok hf.2.1; rw [List.length_map] at hq; exact hq
    obtain ⟨hlt, hv_i, hd2⟩ := drop_cons hd
    have hc : (decide (((i : Nat) : Int) < (((List.map Rule.av l).length : Nat) : Int))) = true := by rw [List.length_map]; exact decide_eq_true (by omega)
    have hw : IntKind.i64.wrap (((i : Nat) : Int) + 1) = ((i + 1 : Nat) : Int) := wrapI_succ (by omega)
    refine AR.seg hG hm 3 [0, 3, 4, 10] (k' := [.code [1, 1, 0, 1, 0, 0, 0, 1], .code [1, 1, 0, 1, 0, 0, 1], .loop [1, 1, 0, 1, 0], .blk 0, .code [1, 1, 1]]) (t' := [(0, .sl 51 (List.map Rule.av l) f_l), (3, .sl 51 (List.map Rule.av out) false), (4, .sc (.int .i64 ((i : Nat) : Int))), (10, .sc (.bool (decide (((i : Nat) : Int) < (((List.map Rule.av l).length : Nat) : Int)))))]) (h' := []) (by kernel_rfl) ?_
    refine AR.cond (.tmp 10) (decide (((i : Nat) : Int) < (((List.map Rule.av l).length : Nat) : Int))) (by kernel_rfl) (by kernel_rfl) (fun hb => ?ht34) (fun hb => ?hf34)
    case ht34 =>
      refine AR.seg hG hm 5 [0, 3, 4] (k' := [.code [1, 1, 0, 1, 0, 0, 1, 0, 0, 0, 0], .code [1, 1, 0, 1, 0, 0, 1, 0, 0, 0, 1], .code [1, 1, 0, 1, 0, 0, 1, 0, 0, 1], .blk 1, .code [1, 1, 0, 1, 0, 0, 1, 1], .loop [1, 1, 0, 1, 0], .blk 0, .code [1, 1, 1]]) (t' := [(0, .sl 51 (List.map Rule.av l) f_l), (3, .sl 51 (List.map Rule.av out) false), (4, .sc (.int .i64 ((i : Nat) : Int)))]) (h' := []) (by kernel_rfl) ?_
      refine AR.reg hm podestaref04_Sort_k0 (by kernel_rfl) ?_
      refine DK.seg hG 2 [0, 3, 4, 13, 14] (t' := [(0, .sl 51 (List.map Rule.av l) f_l), (3, .sl 51 (List.map Rule.av out) false), (4, .sc (.int .i64 ((i : Nat) : Int))), (13, .sl 51 (List.map Rule.av l) f_l), (14, .sc (.int .i64 ((i : Nat) : Int)))]) (h' := []) (by kernel_rfl) rfl ?_
      refine DK.op' [0, 3, 4, 15] (t' := [(0, .sl 51 (List.map Rule.av l) f_l), (3, .sl 51 (List.map Rule.av out) false), (4, .sc (.int .i64 ((i : Nat) : Int))), (15, .ep [.arr .u64 12 x.Match.Value, .arr .u64 12 x.Match.Care, .sc (.int .i64 x.Prio), .sl 60 (List.map Act.av x.Acts) false, .sc (.int .i64 x.Idle), .sc (.int .i64 x.Hard), .sc (.int .i64 x.Owner), .sc (.int .i64 x.Hits), .sc (.int .i64 x.Quiet), .sc (.int .i64 x.Age)] 0 none)]) (h' := []) (LSpec.index' (r := Rule.av x) (fs := [.arr .u64 12 x.Match.Value, .arr .u64 12 x.Match.Care, .sc (.int .i64 x.Prio), .sl 60 (List.map Act.av x.Acts) false, .sc (.int .i64 x.Idle), .sc (.int .i64 x.Hard), .sc (.int .i64 x.Owner), .sc (.int .i64 x.Hits), .sc (.int .i64 x.Quiet), .sc (.int .i64 x.Age)]) hG (rows := List.map Rule.av l) (j := ((i : Nat) : Int)) (by kernel_rfl) (ixO_map hv_i _) (by kernel_rfl)) (by kernel_rfl) rfl (by kernel_rfl) rfl ?_
      refine DK.seg hG 1 [0, 3, 4, 16] (t' := [(0, .sl 51 (List.map Rule.av l) f_l), (3, .sl 51 (List.map Rule.av out) false), (4, .sc (.int .i64 ((i : Nat) : Int))), (16, Rule.av x)]) (h' := []) (by kernel_rfl) rfl ?_
      refine DK.op' [0, 3, 4, 17] (t' := [(0, .sl 51 (List.map Rule.av l) f_l), (3, .sl 51 (List.map Rule.av out) false), (4, .sc (.int .i64 ((i : Nat) : Int))), (17, .sc (.bool (podestaref04_Rule x)))]) (h' := []) (LSpec.callP' (podestaref04_Rule_calls x) (by kernel_rfl)) (by kernel_rfl) rfl (by kernel_rfl) rfl ?_
      refine DK.seg hG 1 [0, 3, 4, 18] (t' := [(0, .sl 51 (List.map Rule.av l) f_l), (3, .sl 51 (List.map Rule.av out) false), (4, .sc (.int .i64 ((i : Nat) : Int))), (18, .sc (.bool (!(podestaref04_Rule x))))]) (h' := []) (by kernel_rfl) rfl ?_
      refine DK.done (by kernel_rfl) (by kernel_rfl) ?_
      refine AR.cond (.tmp 18) (!(podestaref04_Rule x)) (by kernel_rfl) (by kernel_rfl) (fun hb => ?ht35) (fun hb => ?hf35)
      case ht35 =>
        replace H := cond_t hb H
        refine AR.seg hG hm 2 [0, 3, 4] (k' := [.loop [1, 1, 0, 1, 0], .blk 0, .code [1, 1, 1]]) (t' := [(0, .sl 51 (List.map Rule.av l) f_l), (3, .sl 51 (List.map Rule.av out) false), (4, .sc (.int .i64 (IntKind.i64.wrap (((i : Nat) : Int) + 1))))]) (h' := []) (by kernel_rfl) ?_
        refine AR.keep [0, 3, 4] (t' := [(0, .sl 51 (List.map Rule.av l) f_l), (3, .sl 51 (List.map Rule.av out) false), (4, .sc (.int .i64 (IntKind.i64.wrap (((i : Nat) : Int) + 1))))]) (by kernel_rfl) ?_
        refine AR.loop_round ?_
        rw [hw]
        exact ih (i + 1) hd2 out H
      case hf35 =>
        replace H := cond_f hb H
        refine AR.seg hG hm 5 [0, 3, 4, 5] (k' := [.code [1, 1, 0, 1, 0, 0, 1, 0, 0, 1, 1, 0, 0], .blk 2, .code [1, 1, 0, 1, 0, 0, 1, 0, 0, 1, 1, 1], .blk 1, .code [1, 1, 0, 1, 0, 0, 1, 1], .loop [1, 1, 0, 1, 0], .blk 0, .code [1, 1, 1]]) (t' := [(0, .sl 51 (List.map Rule.av l) f_l), (3, .sl 51 (List.map Rule.av out) false), (4, .sc (.int .i64 ((i : Nat) : Int))), (5, .sc (.int .i64 0))]) (h' := []) (by kernel_rfl) ?_
        obtain ⟨v, hv, H⟩ := Option.bind_eq_some_iff.1 H
        refine AR.into (by kernel_rfl) ?_
        refine podestaref04_Sort_l1_walk q1 l i out x hv_i f_l r c0 hc0 v ?_ q1 0 hv
        refine AR.seg hG hm 1 [0, 3, 4, 5] (k' := [.code [1, 1, 0, 1, 0, 0, 1, 0, 0, 1, 1, 1, 0], .code [1, 1, 0, 1, 0, 0, 1, 0, 0, 1, 1, 1, 1], .blk 1, .code [1, 1, 0, 1, 0, 0, 1, 1], .loop [1, 1, 0, 1, 0], .blk 0, .code [1, 1, 1]]) (t' := [(0, .sl 51 (List.map Rule.av l) f_l), (3, .sl 51 (List.map Rule.av out) false), (4, .sc (.int .i64 ((i : Nat) : Int))), (5, .sc (.int .i64 v))]) (h' := []) (by kernel_rfl) ?_
        refine AR.reg hm podestaref04_Sort_k2 (by kernel_rfl) ?_
        refine DK.seg hG 3 [0, 3, 4, 5, 36, 37, 38] (t' := [(0, .sl 51 (List.map Rule.av l) f_l), (3, .sl 51 (List.map Rule.av out) false), (4, .sc (.int .i64 ((i : Nat) : Int))), (5, .sc (.int .i64 v)), (36, .sl 51 (List.map Rule.av []) true), (37, .sl 51 (List.map Rule.av out) false), (38, .sc (.int .i64 v))]) (h' := []) (by kernel_rfl) rfl ?_
        obtain ⟨x1, hv, H⟩ := Option.bind_eq_some_iff.1 H
        refine DK.op' [0, 3, 4, 5, 36, 39] (t' := [(0, .sl 51 (List.map Rule.av l) f_l), (3, .sl 51 (List.map Rule.av out) false), (4, .sc (.int .i64 ((i : Nat) : Int))), (5, .sc (.int .i64 v)), (36, .sl 51 (List.map Rule.av []) true), (39, .sl 51 (List.map Rule.av x1) false)]) (h' := []) (LSpec.sliceO hG Rule.av out 51 false false (some v) none none hv rfl (by kernel_rfl)) (by kernel_rfl) rfl (by kernel_rfl) rfl ?_
        obtain ⟨hfit, H⟩ := fitO_some H
        refine DK.op' [0, 3, 4, 5, 40] (t' := [(0, .sl 51 (List.map Rule.av l) f_l), (3, .sl 51 (List.map Rule.av out) false), (4, .sc (.int .i64 ((i : Nat) : Int))), (5, .sc (.int .i64 v)), (40, .own 0 1000000)]) (h' := [.row 51 (List.map Rule.av (([] : List Rule) ++ x1)) 1000000 true]) (LSpec.appendB hG Rule.av ([] : List Rule) x1 51 272 rfl hfit (by kernel_rfl)) (by kernel_rfl) (by kernel_rfl) (by kernel_rfl) rfl ?_
        refine DK.seg hG 1 [0, 3, 4, 5, 6] (t' := [(0, .sl 51 (List.map Rule.av l) f_l), (3, .sl 51 (List.map Rule.av out) false), (4, .sc (.int .i64 ((i : Nat) : Int))), (5, .sc (.int .i64 v)), (6, .own 0 1000000)]) (h' := [.row 51 (List.map Rule.av (([] : List Rule) ++ x1)) 1000000 true]) (by kernel_rfl) rfl ?_
        refine DK.done (by kernel_rfl) (by kernel_rfl) ?_
        refine AR.seg hG hm 2 [0, 3, 4, 5, 6] (k' := [.code [1, 1, 0, 1, 0, 0, 1, 0, 0, 1, 1, 1, 1, 0, 0], .code [1, 1, 0, 1, 0, 0, 1, 0, 0, 1, 1, 1, 1, 0, 1], .code [1, 1, 0, 1, 0, 0, 1, 0, 0, 1, 1, 1, 1, 1], .blk 1, .code [1, 1, 0, 1, 0, 0, 1, 1], .loop [1, 1, 0, 1, 0], .blk 0, .code [1, 1, 1]]) (t' := [(0, .sl 51 (List.map Rule.av l) f_l), (3, .sl 51 (List.map Rule.av out) false), (4, .sc (.int .i64 ((i : Nat) : Int))), (5, .sc (.int .i64 v)), (6, .own 0 1000000)]) (h' := [.row 51 (List.map Rule.av (([] : List Rule) ++ x1)) 1000000 true]) (by kernel_rfl) ?_
        refine AR.reg hm podestaref04_Sort_k3 (by kernel_rfl) ?_
        refine DK.seg hG 4 [0, 3, 4, 5, 6, 44] (t' := [(0, .sl 51 (List.map Rule.av l) f_l), (3, .sl 51 (List.map Rule.av out) false), (4, .sc (.int .i64 ((i : Nat) : Int))), (5, .sc (.int .i64 v)), (6, .own 0 1000000), (44, .sc (.bool (decide ((((List.map Rule.av (([] : List Rule) ++ x1)).length : Nat) : Int) > 0))))]) (h' := [.row 51 (List.map Rule.av (([] : List Rule) ++ x1)) 1000000 true]) (by kernel_rfl) rfl ?_
        refine DK.split 44 (decide ((((List.map Rule.av (([] : List Rule) ++ x1)).length : Nat) : Int) > 0)) (by kernel_rfl) (fun hb => ?ht42) (fun hb => ?hf42)
        case ht42 =>
          replace H := cond_t hb H
          refine DK.seg hG 1 [0, 3, 4, 5, 6, 44, 45] (t' := [(0, .sl 51 (List.map Rule.av l) f_l), (3, .sl 51 (List.map Rule.av out) false), (4, .sc (.int .i64 ((i : Nat) : Int))), (5, .sc (.int .i64 v)), (6, .own 0 1000000), (44, .sc (.bool true)), (45, .own 0 1000000)]) (h' := [.row 51 (List.map Rule.av (([] : List Rule) ++ x1)) 1000000 true]) (by kernel_rfl) rfl ?_
          obtain ⟨x2, hv_x2, H⟩ := Option.bind_eq_some_iff.1 H
          refine DK.op' [0, 3, 4, 5, 6, 44, 46] (t' := [(0, .sl 51 (List.map Rule.av l) f_l), (3, .sl 51 (List.map Rule.av out) false), (4, .sc (.int .i64 ((i : Nat) : Int))), (5, .sc (.int .i64 v)), (6, .own 0 1000000), (44, .sc (.bool true)), (46, .el 51 0 1000000 0 0)]) (h' := [.row 51 (List.map Rule.av (([] : List Rule) ++ x1)) 1000000 true]) (LSpec.indexOwn hG (e := 51) (o := 0) (k := 1000000) (rows := List.map Rule.av (([] : List Rule) ++ x1)) (j := 0) (ixO_req hv_x2 Rule.av) (by kernel_rfl)) (by kernel_rfl) rfl (by kernel_rfl) rfl ?_
          refine DK.op' [0, 3, 4, 5, 6, 44, 47] (t' := [(0, .sl 51 (List.map Rule.av l) f_l), (3, .sl 51 (List.map Rule.av out) false), (4, .sc (.int .i64 ((i : Nat) : Int))), (5, .sc (.int .i64 v)), (6, .own 0 1000000), (44, .sc (.bool true)), (47, Rule.av x2)]) (h' := [.row 51 (List.map Rule.av (([] : List Rule) ++ x1)) 1000000 true]) (LSpec.loadEl hG (ty := 51) (rows := List.map Rule.av (([] : List Rule) ++ x1)) (j := 0) (off := 0) (r := Rule.av x2) (fs := (Rule.ch x2)) (rv := Rule.av x2) (by kernel_rfl) (ixO_map hv_x2 Rule.av).2 (by kernel_rfl) (by kernel_rfl)) (by kernel_rfl) rfl (by kernel_rfl) rfl ?_
          refine DK.seg hG 2 [0, 3, 4, 5, 6, 44, 47, 48, 49] (t' := [(0, .sl 51 (List.map Rule.av l) f_l), (3, .sl 51 (List.map Rule.av out) false), (4, .sc (.int .i64 ((i : Nat) : Int))), (5, .sc (.int .i64 v)), (6, .own 0 1000000), (44, .sc (.bool true)), (47, Rule.av x2), (48, .sl 51 (List.map Rule.av l) f_l), (49, .sc (.int .i64 ((i : Nat) : Int)))]) (h' := [.row 51 (List.map Rule.av (([] : List Rule) ++ x1)) 1000000 true]) (by kernel_rfl) rfl ?_
          refine DK.op' [0, 3, 4, 5, 6, 44, 47, 50] (t' := [(0, .sl 51 (List.map Rule.av l) f_l), (3, .sl 51 (List.map Rule.av out) false), (4, .sc (.int .i64 ((i : Nat) : Int))), (5, .sc (.int .i64 v)), (6, .own 0 1000000), (44, .sc (.bool true)), (47, Rule.av x2), (50, .ep [.arr .u64 12 x.Match.Value, .arr .u64 12 x.Match.Care, .sc (.int .i64 x.Prio), .sl 60 (List.map Act.av x.Acts) false, .sc (.int .i64 x.Idle), .sc (.int .i64 x.Hard), .sc (.int .i64 x.Owner), .sc (.int .i64 x.Hits), .sc (.int .i64 x.Quiet), .sc (.int .i64 x.Age)] 0 none)]) (h' := [.row 51 (List.map Rule.av (([] : List Rule) ++ x1)) 1000000 true]) (LSpec.index' (r := Rule.av x) (fs := [.arr .u64 12 x.Match.Value, .arr .u64 12 x.Match.Care, .sc (.int .i64 x.Prio), .sl 60 (List.map Act.av x.Acts) false, .sc (.int .i64 x.Idle), .sc (.int .i64 x.Hard), .sc (.int .i64 x.Owner), .sc (.int .i64 x.Hits), .sc (.int .i64 x.Quiet), .sc (.int .i64 x.Age)]) hG (rows := List.map Rule.av l) (j := ((i : Nat) : Int)) (by kernel_rfl) (ixO_map hv_i _) (by kernel_rfl)) (by kernel_rfl) rfl (by kernel_rfl) rfl ?_
          refine DK.seg hG 1 [0, 3, 4, 5, 6, 44, 47, 51] (t' := [(0, .sl 51 (List.map Rule.av l) f_l), (3, .sl 51 (List.map Rule.av out) false), (4, .sc (.int .i64 ((i : Nat) : Int))), (5, .sc (.int .i64 v)), (6, .own 0 1000000), (44, .sc (.bool true)), (47, Rule.av x2), (51, Rule.av x)]) (h' := [.row 51 (List.map Rule.av (([] : List Rule) ++ x1)) 1000000 true]) (by kernel_rfl) rfl ?_
          refine DK.op' [0, 3, 4, 5, 6, 44, 52] (t' := [(0, .sl 51 (List.map Rule.av l) f_l), (3, .sl 51 (List.map Rule.av out) false), (4, .sc (.int .i64 ((i : Nat) : Int))), (5, .sc (.int .i64 v)), (6, .own 0 1000000), (44, .sc (.bool true)), (52, .sc (.bool (podestaref04_Key x2 x)))]) (h' := [.row 51 (List.map Rule.av (([] : List Rule) ++ x1)) 1000000 true]) (LSpec.callP' (podestaref04_Key_calls x2 x) (by kernel_rfl)) (by kernel_rfl) rfl (by kernel_rfl) rfl ?_
          refine DK.seg hG 1 [0, 3, 4, 5, 6, 53] (t' := [(0, .sl 51 (List.map Rule.av l) f_l), (3, .sl 51 (List.map Rule.av out) false), (4, .sc (.int .i64 ((i : Nat) : Int))), (5, .sc (.int .i64 v)), (6, .own 0 1000000), (53, .sc (.bool (podestaref04_Key x2 x)))]) (h' := [.row 51 (List.map Rule.av (([] : List Rule) ++ x1)) 1000000 true]) (by kernel_rfl) rfl ?_
          refine DK.done (by kernel_rfl) (by kernel_rfl) ?_
          refine AR.cond (.tmp 53) (podestaref04_Key x2 x) (by kernel_rfl) (by kernel_rfl) (fun hb => ?ht43) (fun hb => ?hf43)
          case ht43 =>
            replace H := cond_t hb H
            refine AR.reg hm podestaref04_Sort_k4 (by kernel_rfl) ?_
            refine DK.seg hG 1 [0, 3, 4, 5, 54] (t' := [(0, .sl 51 (List.map Rule.av l) f_l), (3, .sl 51 (List.map Rule.av out) false), (4, .sc (.int .i64 ((i : Nat) : Int))), (5, .sc (.int .i64 v)), (54, .own 0 1000000)]) (h' := [.row 51 (List.map Rule.av (([] : List Rule) ++ x1)) 1000000 true]) (by kernel_rfl) rfl ?_
            obtain ⟨x3, hv, H⟩ := Option.bind_eq_some_iff.1 H
            refine DK.op' [0, 3, 4, 5, 55] (t' := [(0, .sl 51 (List.map Rule.av l) f_l), (3, .sl 51 (List.map Rule.av out) false), (4, .sc (.int .i64 ((i : Nat) : Int))), (5, .sc (.int .i64 v)), (55, .sl 51 (List.map Rule.av x3) false)]) (h' := [.row 51 (List.map Rule.av (([] : List Rule) ++ x1)) 1000000 false]) (LSpec.give [0] (by kernel_rfl) (LSpec.sliceO hG Rule.av (([] : List Rule) ++ x1) 51 false false (some 1) none none hv rfl (by kernel_rfl))) (by kernel_rfl) (by kernel_rfl) (by kernel_rfl) rfl ?_
            refine DK.seg hG 1 [0, 3, 4, 5, 6] (t' := [(0, .sl 51 (List.map Rule.av l) f_l), (3, .sl 51 (List.map Rule.av out) false), (4, .sc (.int .i64 ((i : Nat) : Int))), (5, .sc (.int .i64 v)), (6, .sl 51 (List.map Rule.av x3) false)]) (h' := [.row 51 (List.map Rule.av (([] : List Rule) ++ x1)) 1000000 false]) (by kernel_rfl) rfl ?_
            refine DK.done (by kernel_rfl) (by kernel_rfl) ?_
            refine AR.reg hm podestaref04_Sort_k5 (by kernel_rfl) ?_
            refine DK.seg hG 3 [0, 4, 6, 56, 57, 58] (t' := [(0, .sl 51 (List.map Rule.av l) f_l), (4, .sc (.int .i64 ((i : Nat) : Int))), (6, .sl 51 (List.map Rule.av x3) false), (56, .sl 51 (List.map Rule.av []) true), (57, .sl 51 (List.map Rule.av out) false), (58, .sc (.int .i64 v))]) (h' := [.row 51 (List.map Rule.av (([] : List Rule) ++ x1)) 1000000 false]) (by kernel_rfl) rfl ?_
            obtain ⟨x4, hv, H⟩ := Option.bind_eq_some_iff.1 H
            refine DK.op' [0, 4, 6, 56, 59] (t' := [(0, .sl 51 (List.map Rule.av l) f_l), (4, .sc (.int .i64 ((i : Nat) : Int))), (6, .sl 51 (List.map Rule.av x3) false), (56, .sl 51 (List.map Rule.av []) true), (59, .sl 51 (List.map Rule.av x4) false)]) (h' := [.row 51 (List.map Rule.av (([] : List Rule) ++ x1)) 1000000 false]) (LSpec.sliceO hG Rule.av out 51 false false none (some v) none hv rfl (by kernel_rfl)) (by kernel_rfl) rfl (by kernel_rfl) rfl ?_
            obtain ⟨hfit, H⟩ := fitO_some H
            refine DK.op' [0, 4, 6, 60] (t' := [(0, .sl 51 (List.map Rule.av l) f_l), (4, .sc (.int .i64 ((i : Nat) : Int))), (6, .sl 51 (List.map Rule.av x3) false), (60, .own 1 1000000)]) (h' := [.row 51 (List.map Rule.av (([] : List Rule) ++ x1)) 1000000 false, .row 51 (List.map Rule.av (([] : List Rule) ++ x4)) 1000000 true]) (LSpec.appendB hG Rule.av ([] : List Rule) x4 51 272 rfl hfit (by kernel_rfl)) (by kernel_rfl) (by kernel_rfl) (by kernel_rfl) rfl ?_
            refine DK.seg hG 2 [0, 4, 6, 60, 61, 62] (t' := [(0, .sl 51 (List.map Rule.av l) f_l), (4, .sc (.int .i64 ((i : Nat) : Int))), (6, .sl 51 (List.map Rule.av x3) false), (60, .own 1 1000000), (61, .sl 51 (List.map Rule.av l) f_l), (62, .sc (.int .i64 ((i : Nat) : Int)))]) (h' := [.row 51 (List.map Rule.av (([] : List Rule) ++ x1)) 1000000 false, .row 51 (List.map Rule.av (([] : List Rule) ++ x4)) 1000000 true]) (by kernel_rfl) rfl ?_
            refine DK.op' [0, 4, 6, 60, 63] (t' := [(0, .sl 51 (List.map Rule.av l) f_l), (4, .sc (.int .i64 ((i : Nat) : Int))), (6, .sl 51 (List.map Rule.av x3) false), (60, .own 1 1000000), (63, .ep [.arr .u64 12 x.Match.Value, .arr .u64 12 x.Match.Care, .sc (.int .i64 x.Prio), .sl 60 (List.map Act.av x.Acts) false, .sc (.int .i64 x.Idle), .sc (.int .i64 x.Hard), .sc (.int .i64 x.Owner), .sc (.int .i64 x.Hits), .sc (.int .i64 x.Quiet), .sc (.int .i64 x.Age)] 0 none)]) (h' := [.row 51 (List.map Rule.av (([] : List Rule) ++ x1)) 1000000 false, .row 51 (List.map Rule.av (([] : List Rule) ++ x4)) 1000000 true]) (LSpec.index' (r := Rule.av x) (fs := [.arr .u64 12 x.Match.Value, .arr .u64 12 x.Match.Care, .sc (.int .i64 x.Prio), .sl 60 (List.map Act.av x.Acts) false, .sc (.int .i64 x.Idle), .sc (.int .i64 x.Hard), .sc (.int .i64 x.Owner), .sc (.int .i64 x.Hits), .sc (.int .i64 x.Quiet), .sc (.int .i64 x.Age)]) hG (rows := List.map Rule.av l) (j := ((i : Nat) : Int)) (by kernel_rfl) (ixO_map hv_i _) (by kernel_rfl)) (by kernel_rfl) rfl (by kernel_rfl) rfl ?_
            refine DK.seg hG 2 [0, 4, 6, 60, 65] (t' := [(0, .sl 51 (List.map Rule.av l) f_l), (4, .sc (.int .i64 ((i : Nat) : Int))), (6, .sl 51 (List.map Rule.av x3) false), (60, .own 1 1000000), (65, .sl 51 (List.map Rule.av [x]) true)]) (h' := [.row 51 (List.map Rule.av (([] : List Rule) ++ x1)) 1000000 false, .row 51 (List.map Rule.av (([] : List Rule) ++ x4)) 1000000 true]) (by kernel_rfl) rfl ?_
            obtain ⟨hfit, H⟩ := fitO_some H
            refine DK.op' [0, 4, 6, 66] (t' := [(0, .sl 51 (List.map Rule.av l) f_l), (4, .sc (.int .i64 ((i : Nat) : Int))), (6, .sl 51 (List.map Rule.av x3) false), (66, .own 1 1000001)]) (h' := [.row 51 (List.map Rule.av (([] : List Rule) ++ x1)) 1000000 false, .row 51 (List.map Rule.av ((([] : List Rule) ++ x4) ++ [x])) 1000001 true]) (LSpec.append' hG Rule.av (([] : List Rule) ++ x4) [x] 1 1000000 51 272 hfit (by kernel_rfl)) (by kernel_rfl) (by kernel_rfl) (by kernel_rfl) rfl ?_
            refine DK.seg hG 1 [0, 4, 66, 67] (t' := [(0, .sl 51 (List.map Rule.av l) f_l), (4, .sc (.int .i64 ((i : Nat) : Int))), (66, .own 1 1000001), (67, .sl 51 (List.map Rule.av x3) false)]) (h' := [.row 51 (List.map Rule.av (([] : List Rule) ++ x1)) 1000000 false, .row 51 (List.map Rule.av ((([] : List Rule) ++ x4) ++ [x])) 1000001 true]) (by kernel_rfl) rfl ?_
            obtain ⟨hfit, H⟩ := fitO_some H
            refine DK.op' [0, 4, 68] (t' := [(0, .sl 51 (List.map Rule.av l) f_l), (4, .sc (.int .i64 ((i : Nat) : Int))), (68, .own 1 1000002)]) (h' := [.row 51 (List.map Rule.av (([] : List Rule) ++ x1)) 1000000 false, .row 51 (List.map Rule.av (((([] : List Rule) ++ x4) ++ [x]) ++ x3)) 1000002 true]) (LSpec.append' hG Rule.av ((([] : List Rule) ++ x4) ++ [x]) x3 1 1000001 51 272 hfit (by kernel_rfl)) (by kernel_rfl) (by kernel_rfl) (by kernel_rfl) rfl ?_
            refine DK.seg hG 1 [0, 3, 4] (t' := [(0, .sl 51 (List.map Rule.av l) f_l), (3, .own 1 1000002), (4, .sc (.int .i64 ((i : Nat) : Int)))]) (h' := [.row 51 (List.map Rule.av (([] : List Rule) ++ x1)) 1000000 false, .row 51 (List.map Rule.av (((([] : List Rule) ++ x4) ++ [x]) ++ x3)) 1000002 true]) (by kernel_rfl) rfl ?_
            refine DK.done (by kernel_rfl) (by kernel_rfl) ?_
            refine AR.seg hG hm 2 [0, 3, 4] (k' := [.loop [1, 1, 0, 1, 0], .blk 0, .code [1, 1, 1]]) (t' := [(0, .sl 51 (List.map Rule.av l) f_l), (3, .own 1 1000002), (4, .sc (.int .i64 (IntKind.i64.wrap (((i : Nat) : Int) + 1))))]) (h' := [.row 51 (List.map Rule.av (([] : List Rule) ++ x1)) 1000000 false, .row 51 (List.map Rule.av (((([] : List Rule) ++ x4) ++ [x]) ++ x3)) 1000002 true]) (by kernel_rfl) ?_
            refine AR.keep [0, 3, 4] (t' := [(0, .sl 51 (List.map Rule.av l) f_l), (3, .own 1 1000002), (4, .sc (.int .i64 (IntKind.i64.wrap (((i : Nat) : Int) + 1))))]) (by kernel_rfl) ?_
            refine AR.give' [1] (t' := [(0, .sl 51 (List.map Rule.av l) f_l), (3, .sl 51 (List.map Rule.av (((([] : List Rule) ++ x4) ++ [x]) ++ x3)) false), (4, .sc (.int .i64 (IntKind.i64.wrap (((i : Nat) : Int) + 1))))]) (h' := [.row 51 (List.map Rule.av (([] : List Rule) ++ x1)) 1000000 false, .row 51 (List.map Rule.av (((([] : List Rule) ++ x4) ++ [x]) ++ x3)) 1000002 false]) (by kernel_rfl) ?_
            refine AR.drop' 0 hc0 (t' := [(0, .sl 51 (List.map Rule.av l) f_l), (3, .sl 51 (List.map Rule.av (((([] : List Rule) ++ x4) ++ [x]) ++ x3)) false), (4, .sc (.int .i64 (IntKind.i64.wrap (((i : Nat) : Int) + 1))))]) (h' := []) (by kernel_rfl) ?_
            refine AR.loop_round ?_
            rw [hw]
            exact ih (i + 1) hd2 (((([] : List Rule) ++ x4) ++ [x]) ++ x3) H
          case hf43 =>
            replace H := cond_f hb H
            refine AR.seg hG hm 1 [0, 3, 4, 5, 6] (k' := [.code [1, 1, 0, 1, 0, 0, 1, 0, 0, 1, 1, 1, 1, 1], .blk 1, .code [1, 1, 0, 1, 0, 0, 1, 1], .loop [1, 1, 0, 1, 0], .blk 0, .code [1, 1, 1]]) (t' := [(0, .sl 51 (List.map Rule.av l) f_l), (3, .sl 51 (List.map Rule.av out) false), (4, .sc (.int .i64 ((i : Nat) : Int))), (5, .sc (.int .i64 v)), (6, .own 0 1000000)]) (h' := [.row 51 (List.map Rule.av (([] : List Rule) ++ x1)) 1000000 true]) (by kernel_rfl) ?_
            refine AR.reg hm podestaref04_Sort_k6 (by kernel_rfl) ?_
            refine DK.seg hG 3 [0, 4, 6, 56, 57, 58] (t' := [(0, .sl 51 (List.map Rule.av l) f_l), (4, .sc (.int .i64 ((i : Nat) : Int))), (6, .own 0 1000000), (56, .sl 51 (List.map Rule.av []) true), (57, .sl 51 (List.map Rule.av out) false), (58, .sc (.int .i64 v))]) (h' := [.row 51 (List.map Rule.av (([] : List Rule) ++ x1)) 1000000 true]) (by kernel_rfl) rfl ?_
            obtain ⟨x5, hv, H⟩ := Option.bind_eq_some_iff.1 H
            refine DK.op' [0, 4, 6, 56, 59] (t' := [(0, .sl 51 (List.map Rule.av l) f_l), (4, .sc (.int .i64 ((i : Nat) : Int))), (6, .own 0 1000000), (56, .sl 51 (List.map Rule.av []) true), (59, .sl 51 (List.map Rule.av x5) false)]) (h' := [.row 51 (List.map Rule.av (([] : List Rule) ++ x1)) 1000000 true]) (LSpec.sliceO hG Rule.av out 51 false false none (some v) none hv rfl (by kernel_rfl)) (by kernel_rfl) rfl (by kernel_rfl) rfl ?_
            obtain ⟨hfit, H⟩ := fitO_some H
            refine DK.op' [0, 4, 6, 60] (t' := [(0, .sl 51 (List.map Rule.av l) f_l), (4, .sc (.int .i64 ((i : Nat) : Int))), (6, .own 0 1000000), (60, .own 1 1000000)]) (h' := [.row 51 (List.map Rule.av (([] : List Rule) ++ x1)) 1000000 true, .row 51 (List.map Rule.av (([] : List Rule) ++ x5)) 1000000 true]) (LSpec.appendB hG Rule.av ([] : List Rule) x5 51 272 rfl hfit (by kernel_rfl)) (by kernel_rfl) (by kernel_rfl) (by kernel_rfl) rfl ?_
            refine DK.seg hG 2 [0, 4, 6, 60, 61, 62] (t' := [(0, .sl 51 (List.map Rule.av l) f_l), (4, .sc (.int .i64 ((i : Nat) : Int))), (6, .own 0 1000000), (60, .own 1 1000000), (61, .sl 51 (List.map Rule.av l) f_l), (62, .sc (.int .i64 ((i : Nat) : Int)))]) (h' := [.row 51 (List.map Rule.av (([] : List Rule) ++ x1)) 1000000 true, .row 51 (List.map Rule.av (([] : List Rule) ++ x5)) 1000000 true]) (by kernel_rfl) rfl ?_
            refine DK.op' [0, 4, 6, 60, 63] (t' := [(0, .sl 51 (List.map Rule.av l) f_l), (4, .sc (.int .i64 ((i : Nat) : Int))), (6, .own 0 1000000), (60, .own 1 1000000), (63, .ep [.arr .u64 12 x.Match.Value, .arr .u64 12 x.Match.Care, .sc (.int .i64 x.Prio), .sl 60 (List.map Act.av x.Acts) false, .sc (.int .i64 x.Idle), .sc (.int .i64 x.Hard), .sc (.int .i64 x.Owner), .sc (.int .i64 x.Hits), .sc (.int .i64 x.Quiet), .sc (.int .i64 x.Age)] 0 none)]) (h' := [.row 51 (List.map Rule.av (([] : List Rule) ++ x1)) 1000000 true, .row 51 (List.map Rule.av (([] : List Rule) ++ x5)) 1000000 true]) (LSpec.index' (r := Rule.av x) (fs := [.arr .u64 12 x.Match.Value, .arr .u64 12 x.Match.Care, .sc (.int .i64 x.Prio), .sl 60 (List.map Act.av x.Acts) false, .sc (.int .i64 x.Idle), .sc (.int .i64 x.Hard), .sc (.int .i64 x.Owner), .sc (.int .i64 x.Hits), .sc (.int .i64 x.Quiet), .sc (.int .i64 x.Age)]) hG (rows := List.map Rule.av l) (j := ((i : Nat) : Int)) (by kernel_rfl) (ixO_map hv_i _) (by kernel_rfl)) (by kernel_rfl) rfl (by kernel_rfl) rfl ?_
            refine DK.seg hG 2 [0, 4, 6, 60, 65] (t' := [(0, .sl 51 (List.map Rule.av l) f_l), (4, .sc (.int .i64 ((i : Nat) : Int))), (6, .own 0 1000000), (60, .own 1 1000000), (65, .sl 51 (List.map Rule.av [x]) true)]) (h' := [.row 51 (List.map Rule.av (([] : List Rule) ++ x1)) 1000000 true, .row 51 (List.map Rule.av (([] : List Rule) ++ x5)) 1000000 true]) (by kernel_rfl) rfl ?_
            obtain ⟨hfit, H⟩ := fitO_some H
            refine DK.op' [0, 4, 6, 66] (t' := [(0, .sl 51 (List.map Rule.av l) f_l), (4, .sc (.int .i64 ((i : Nat) : Int))), (6, .own 0 1000000), (66, .own 1 1000001)]) (h' := [.row 51 (List.map Rule.av (([] : List Rule) ++ x1)) 1000000 true, .row 51 (List.map Rule.av ((([] : List Rule) ++ x5) ++ [x])) 1000001 true]) (LSpec.append' hG Rule.av (([] : List Rule) ++ x5) [x] 1 1000000 51 272 hfit (by kernel_rfl)) (by kernel_rfl) (by kernel_rfl) (by kernel_rfl) rfl ?_
            refine DK.seg hG 1 [0, 4, 66, 67] (t' := [(0, .sl 51 (List.map Rule.av l) f_l), (4, .sc (.int .i64 ((i : Nat) : Int))), (66, .own 1 1000001), (67, .own 0 1000000)]) (h' := [.row 51 (List.map Rule.av (([] : List Rule) ++ x1)) 1000000 true, .row 51 (List.map Rule.av ((([] : List Rule) ++ x5) ++ [x])) 1000001 true]) (by kernel_rfl) rfl ?_
            obtain ⟨hfit, H⟩ := fitO_some H
            refine DK.op' [0, 4, 68] (t' := [(0, .sl 51 (List.map Rule.av l) f_l), (4, .sc (.int .i64 ((i : Nat) : Int))), (68, .own 1 1000002)]) (h' := [.row 51 (List.map Rule.av (([] : List Rule) ++ x1)) 1000000 true, .row 51 (List.map Rule.av (((([] : List Rule) ++ x5) ++ [x]) ++ (([] : List Rule) ++ x1))) 1000002 true]) (LSpec.append' hG Rule.av ((([] : List Rule) ++ x5) ++ [x]) (([] : List Rule) ++ x1) 1 1000001 51 272 hfit (by kernel_rfl)) (by kernel_rfl) (by kernel_rfl) (by kernel_rfl) rfl ?_
            refine DK.seg hG 1 [0, 3, 4] (t' := [(0, .sl 51 (List.map Rule.av l) f_l), (3, .own 1 1000002), (4, .sc (.int .i64 ((i : Nat) : Int)))]) (h' := [.row 51 (List.map Rule.av (([] : List Rule) ++ x1)) 1000000 true, .row 51 (List.map Rule.av (((([] : List Rule) ++ x5) ++ [x]) ++ (([] : List Rule) ++ x1))) 1000002 true]) (by kernel_rfl) rfl ?_
            refine DK.done (by kernel_rfl) (by kernel_rfl) ?_
            refine AR.seg hG hm 2 [0, 3, 4] (k' := [.loop [1, 1, 0, 1, 0], .blk 0, .code [1, 1, 1]]) (t' := [(0, .sl 51 (List.map Rule.av l) f_l), (3, .own 1 1000002), (4, .sc (.int .i64 (IntKind.i64.wrap (((i : Nat) : Int) + 1))))]) (h' := [.row 51 (List.map Rule.av (([] : List Rule) ++ x1)) 1000000 true, .row 51 (List.map Rule.av (((([] : List Rule) ++ x5) ++ [x]) ++ (([] : List Rule) ++ x1))) 1000002 true]) (by kernel_rfl) ?_
            refine AR.keep [0, 3, 4] (t' := [(0, .sl 51 (List.map Rule.av l) f_l), (3, .own 1 1000002), (4, .sc (.int .i64 (IntKind.i64.wrap (((i : Nat) : Int) + 1))))]) (by kernel_rfl) ?_
            refine AR.give' [1] (t' := [(0, .sl 51 (List.map Rule.av l) f_l), (3, .sl 51 (List.map Rule.av (((([] : List Rule) ++ x5) ++ [x]) ++ (([] : List Rule) ++ x1))) false), (4, .sc (.int .i64 (IntKind.i64.wrap (((i : Nat) : Int) + 1))))]) (h' := [.row 51 (List.map Rule.av (([] : List Rule) ++ x1)) 1000000 true, .row 51 (List.map Rule.av (((([] : List Rule) ++ x5) ++ [x]) ++ (([] : List Rule) ++ x1))) 1000002 false]) (by kernel_rfl) ?_
            refine AR.drop' 0 hc0 (t' := [(0, .sl 51 (List.map Rule.av l) f_l), (3, .sl 51 (List.map Rule.av (((([] : List Rule) ++ x5) ++ [x]) ++ (([] : List Rule) ++ x1))) false), (4, .sc (.int .i64 (IntKind.i64.wrap (((i : Nat) : Int) + 1))))]) (h' := []) (by kernel_rfl) ?_
            refine AR.loop_round ?_
            rw [hw]
            exact ih (i + 1) hd2 (((([] : List Rule) ++ x5) ++ [x]) ++ (([] : List Rule) ++ x1)) H
        case hf42 =>
          replace H := cond_f hb H
          refine DK.seg hG 9 [0, 3, 4, 5, 6, 53] (t' := [(0, .sl 51 (List.map Rule.av l) f_l), (3, .sl 51 (List.map Rule.av out) false), (4, .sc (.int .i64 ((i : Nat) : Int))), (5, .sc (.int .i64 v)), (6, .own 0 1000000), (53, .sc (.bool false))]) (h' := [.row 51 (List.map Rule.av (([] : List Rule) ++ x1)) 1000000 true]) (by kernel_rfl) rfl ?_
          refine DK.done (by kernel_rfl) (by kernel_rfl) ?_
          refine AR.seg hG hm 2 [0, 3, 4, 5, 6] (k' := [.code [1, 1, 0, 1, 0, 0, 1, 0, 0, 1, 1, 1, 1, 1], .blk 1, .code [1, 1, 0, 1, 0, 0, 1, 1], .loop [1, 1, 0, 1, 0], .blk 0, .code [1, 1, 1]]) (t' := [(0, .sl 51 (List.map Rule.av l) f_l), (3, .sl 51 (List.map Rule.av out) false), (4, .sc (.int .i64 ((i : Nat) : Int))), (5, .sc (.int .i64 v)), (6, .own 0 1000000)]) (h' := [.row 51 (List.map Rule.av (([] : List Rule) ++ x1)) 1000000 true]) (by kernel_rfl) ?_
          refine AR.reg hm podestaref04_Sort_k7 (by kernel_rfl) ?_
          refine DK.seg hG 3 [0, 4, 6, 56, 57, 58] (t' := [(0, .sl 51 (List.map Rule.av l) f_l), (4, .sc (.int .i64 ((i : Nat) : Int))), (6, .own 0 1000000), (56, .sl 51 (List.map Rule.av []) true), (57, .sl 51 (List.map Rule.av out) false), (58, .sc (.int .i64 v))]) (h' := [.row 51 (List.map Rule.av (([] : List Rule) ++ x1)) 1000000 true]) (by kernel_rfl) rfl ?_
          obtain ⟨x6, hv, H⟩ := Option.bind_eq_some_iff.1 H
          refine DK.op' [0, 4, 6, 56, 59] (t' := [(0, .sl 51 (List.map Rule.av l) f_l), (4, .sc (.int .i64 ((i : Nat) : Int))), (6, .own 0 1000000), (56, .sl 51 (List.map Rule.av []) true), (59, .sl 51 (List.map Rule.av x6) false)]) (h' := [.row 51 (List.map Rule.av (([] : List Rule) ++ x1)) 1000000 true]) (LSpec.sliceO hG Rule.av out 51 false false none (some v) none hv rfl (by kernel_rfl)) (by kernel_rfl) rfl (by kernel_rfl) rfl ?_
          obtain ⟨hfit, H⟩ := fitO_some H
          refine DK.op' [0, 4, 6, 60] (t' := [(0, .sl 51 (List.map Rule.av l) f_l), (4, .sc (.int .i64 ((i : Nat) : Int))), (6, .own 0 1000000), (60, .own 1 1000000)]) (h' := [.row 51 (List.map Rule.av (([] : List Rule) ++ x1)) 1000000 true, .row 51 (List.map Rule.av (([] : List Rule) ++ x6)) 1000000 true]) (LSpec.appendB hG Rule.av ([] : List Rule) x6 51 272 rfl hfit (by kernel_rfl)) (by kernel_rfl) (by kernel_rfl) (by kernel_rfl) rfl ?_
          refine DK.seg hG 2 [0, 4, 6, 60, 61, 62] (t' := [(0, .sl 51 (List.map Rule.av l) f_l), (4, .sc (.int .i64 ((i : Nat) : Int))), (6, .own 0 1000000), (60, .own 1 1000000), (61, .sl 51 (List.map Rule.av l) f_l), (62, .sc (.int .i64 ((i : Nat) : Int)))]) (h' := [.row 51 (List.map Rule.av (([] : List Rule) ++ x1)) 1000000 true, .row 51 (List.map Rule.av (([] : List Rule) ++ x6)) 1000000 true]) (by kernel_rfl) rfl ?_
          refine DK.op' [0, 4, 6, 60, 63] (t' := [(0, .sl 51 (List.map Rule.av l) f_l), (4, .sc (.int .i64 ((i : Nat) : Int))), (6, .own 0 1000000), (60, .own 1 1000000), (63, .ep [.arr .u64 12 x.Match.Value, .arr .u64 12 x.Match.Care, .sc (.int .i64 x.Prio), .sl 60 (List.map Act.av x.Acts) false, .sc (.int .i64 x.Idle), .sc (.int .i64 x.Hard), .sc (.int .i64 x.Owner), .sc (.int .i64 x.Hits), .sc (.int .i64 x.Quiet), .sc (.int .i64 x.Age)] 0 none)]) (h' := [.row 51 (List.map Rule.av (([] : List Rule) ++ x1)) 1000000 true, .row 51 (List.map Rule.av (([] : List Rule) ++ x6)) 1000000 true]) (LSpec.index' (r := Rule.av x) (fs := [.arr .u64 12 x.Match.Value, .arr .u64 12 x.Match.Care, .sc (.int .i64 x.Prio), .sl 60 (List.map Act.av x.Acts) false, .sc (.int .i64 x.Idle), .sc (.int .i64 x.Hard), .sc (.int .i64 x.Owner), .sc (.int .i64 x.Hits), .sc (.int .i64 x.Quiet), .sc (.int .i64 x.Age)]) hG (rows := List.map Rule.av l) (j := ((i : Nat) : Int)) (by kernel_rfl) (ixO_map hv_i _) (by kernel_rfl)) (by kernel_rfl) rfl (by kernel_rfl) rfl ?_
          refine DK.seg hG 2 [0, 4, 6, 60, 65] (t' := [(0, .sl 51 (List.map Rule.av l) f_l), (4, .sc (.int .i64 ((i : Nat) : Int))), (6, .own 0 1000000), (60, .own 1 1000000), (65, .sl 51 (List.map Rule.av [x]) true)]) (h' := [.row 51 (List.map Rule.av (([] : List Rule) ++ x1)) 1000000 true, .row 51 (List.map Rule.av (([] : List Rule) ++ x6)) 1000000 true]) (by kernel_rfl) rfl ?_
          obtain ⟨hfit, H⟩ := fitO_some H
          refine DK.op' [0, 4, 6, 66] (t' := [(0, .sl 51 (List.map Rule.av l) f_l), (4, .sc (.int .i64 ((i : Nat) : Int))), (6, .own 0 1000000), (66, .own 1 1000001)]) (h' := [.row 51 (List.map Rule.av (([] : List Rule) ++ x1)) 1000000 true, .row 51 (List.map Rule.av ((([] : List Rule) ++ x6) ++ [x])) 1000001 true]) (LSpec.append' hG Rule.av (([] : List Rule) ++ x6) [x] 1 1000000 51 272 hfit (by kernel_rfl)) (by kernel_rfl) (by kernel_rfl) (by kernel_rfl) rfl ?_
          refine DK.seg hG 1 [0, 4, 66, 67] (t' := [(0, .sl 51 (List.map Rule.av l) f_l), (4, .sc (.int .i64 ((i : Nat) : Int))), (66, .own 1 1000001), (67, .own 0 1000000)]) (h' := [.row 51 (List.map Rule.av (([] : List Rule) ++ x1)) 1000000 true, .row 51 (List.map Rule.av ((([] : List Rule) ++ x6) ++ [x])) 1000001 true]) (by kernel_rfl) rfl ?_
          obtain ⟨hfit, H⟩ := fitO_some H
          refine DK.op' [0, 4, 68] (t' := [(0, .sl 51 (List.map Rule.av l) f_l), (4, .sc (.int .i64 ((i : Nat) : Int))), (68, .own 1 1000002)]) (h' := [.row 51 (List.map Rule.av (([] : List Rule) ++ x1)) 1000000 true, .row 51 (List.map Rule.av (((([] : List Rule) ++ x6) ++ [x]) ++ (([] : List Rule) ++ x1))) 1000002 true]) (LSpec.append' hG Rule.av ((([] : List Rule) ++ x6) ++ [x]) (([] : List Rule) ++ x1) 1 1000001 51 272 hfit (by kernel_rfl)) (by kernel_rfl) (by kernel_rfl) (by kernel_rfl) rfl ?_
          refine DK.seg hG 1 [0, 3, 4] (t' := [(0, .sl 51 (List.map Rule.av l) f_l), (3, .own 1 1000002), (4, .sc (.int .i64 ((i : Nat) : Int)))]) (h' := [.row 51 (List.map Rule.av (([] : List Rule) ++ x1)) 1000000 true, .row 51 (List.map Rule.av (((([] : List Rule) ++ x6) ++ [x]) ++ (([] : List Rule) ++ x1))) 1000002 true]) (by kernel_rfl) rfl ?_
          refine DK.done (by kernel_rfl) (by kernel_rfl) ?_
          refine AR.seg hG hm 2 [0, 3, 4] (k' := [.loop [1, 1, 0, 1, 0], .blk 0, .code [1, 1, 1]]) (t' := [(0, .sl 51 (List.map Rule.av l) f_l), (3, .own 1 1000002), (4, .sc (.int .i64 (IntKind.i64.wrap (((i : Nat) : Int) + 1))))]) (h' := [.row 51 (List.map Rule.av (([] : List Rule) ++ x1)) 1000000 true, .row 51 (List.map Rule.av (((([] : List Rule) ++ x6) ++ [x]) ++ (([] : List Rule) ++ x1))) 1000002 true]) (by kernel_rfl) ?_
          refine AR.keep [0, 3, 4] (t' := [(0, .sl 51 (List.map Rule.av l) f_l), (3, .own 1 1000002), (4, .sc (.int .i64 (IntKind.i64.wrap (((i : Nat) : Int) + 1))))]) (by kernel_rfl) ?_
          refine AR.give' [1] (t' := [(0, .sl 51 (List.map Rule.av l) f_l), (3, .sl 51 (List.map Rule.av (((([] : List Rule) ++ x6) ++ [x]) ++ (([] : List Rule) ++ x1))) false), (4, .sc (.int .i64 (IntKind.i64.wrap (((i : Nat) : Int) + 1))))]) (h' := [.row 51 (List.map Rule.av (([] : List Rule) ++ x1)) 1000000 true, .row 51 (List.map Rule.av (((([] : List Rule) ++ x6) ++ [x]) ++ (([] : List Rule) ++ x1))) 1000002 false]) (by kernel_rfl) ?_
          refine AR.drop' 0 hc0 (t' := [(0, .sl 51 (List.map Rule.av l) f_l), (3, .sl 51 (List.map Rule.av (((([] : List Rule) ++ x6) ++ [x]) ++ (([] : List Rule) ++ x1))) false), (4, .sc (.int .i64 (IntKind.i64.wrap (((i : Nat) : Int) + 1))))]) (h' := []) (by kernel_rfl) ?_
          refine AR.loop_round ?_
          rw [hw]
          exact ih (i + 1) hd2 (((([] : List Rule) ++ x6) ++ [x]) ++ (([] : List Rule) ++ x1)) H
    case hf34 => exact absurd (hc.symm.trans hb) (by decide)

def podestaref04_Sort_raw (q1 : Nat) (l : List Rule) : Option ((List Rule)) :=
  (podestaref04_Sort_l0s q1 l ([] : List Rule)).bind fun v =>
  some v
theorem podestaref04_Sort_walk (q1 : Nat) (l : List Rule) (f_l : Bool) (r : (List Rule)) (H : podestaref04_Sort_raw q1 l = some r) :
    ACalls Try.prog tab.S 22 [.sl 51 (List.map Rule.av l) f_l] [] (.sl 51 (List.map Rule.av r) false) [] := by
  have hG := tab_ok
  have hm := mixed
  refine ACalls.of_AR (G := tab) podestaref04_Sort_F (fn := Try.f22) Try.func22 (by kernel_rfl) (by kernel_rfl) (by kernel_rfl) (Nat.le_of_ble_eq_true (by kernel_rfl)) ?_
  intro c0 hc0
  replace hc0 : c0.m.length = 0 := hc0
  rw [podestaref04_Sort_raw] at H
  refine AR.seg hG hm 8 [0, 3, 4] (k' := [.code [1, 1, 0, 1, 0], .blk 0, .code [1, 1, 1]]) (t' := [(0, .sl 51 (List.map Rule.av l) f_l), (3, .sl 0 [] true), (4, .sc (.int .i64 0))]) (h' := []) (by kernel_rfl) ?_
  refine AR.wk 3 (.sl 51 (List.map Rule.av ([] : List Rule)) false) rfl (WkV.sl (Wk1.nil 51 false)) (t' := [(3, .sl 51 (List.map Rule.av ([] : List Rule)) false), (0, .sl 51 (List.map Rule.av l) f_l), (4, .sc (.int .i64 0))]) (by kernel_rfl) ?_
  refine AR.keep [0, 3, 4] (t' := [(0, .sl 51 (List.map Rule.av l) f_l), (3, .sl 51 (List.map Rule.av ([] : List Rule)) false), (4, .sc (.int .i64 0))]) (by kernel_rfl) ?_
  obtain ⟨v, hv, H⟩ := Option.bind_eq_some_iff.1 H
  refine AR.into (by kernel_rfl) ?_
  refine podestaref04_Sort_l0_walk q1 l f_l r c0 hc0 v ?_ l 0 rfl ([] : List Rule) hv
  refine AR.seg hG hm 2 [2] (k' := [.code [1, 1, 1, 1]]) (t' := [(2, .sl 51 (List.map Rule.av v) false)]) (h' := []) (by kernel_rfl) ?_
  obtain rfl := Option.some.inj H
  exact AR.ret0 (fn := Try.f22) hG Try.func22 (by kernel_rfl) hc0 (r0 := .sl 51 (List.map Rule.av v) false) (by kernel_rfl) (WkV.refl _)

def refPut (out : List Rule) (x : Rule) : List Rule :=
  bif !(podestaref04_Rule x) then out else
  out.takeWhile (fun y => podestaref04_Before y x) ++ x :: (match out.dropWhile (fun y => podestaref04_Before y x) with | [] => [] | y :: r => bif podestaref04_Key y x then r else y :: r)
theorem tw_len {α : Type} (p : α → Bool) (l : List α) : l.take (l.takeWhile p).length = l.takeWhile p ∧ l.drop (l.takeWhile p).length = l.dropWhile p := by
  have h := List.takeWhile_append_dropWhile (p := p) (l := l)
  constructor
  · conv => lhs; rw [← h]
    rw [List.take_left' (by rw [h])]
  · conv => lhs; rw [← h]
    rw [List.drop_left' (by rw [h])]
theorem refSort_l1_eq (out : List Rule) (x : Rule) (ho : out.length ≤ 1000000) : ∀ (m k : Nat), k ≤ out.length → out.length - k < m → podestaref04_Sort_l1 out x m (k : Int) = some ((k + ((out.drop k).takeWhile (fun y => podestaref04_Before y x)).length : Nat) : Int)
  | 0, k, _, h => absurd h (by omega)
  | m + 1, k, h1, h2 => by
      rw [podestaref04_Sort_l1, List.length_map]
      by_cases hk : k < out.length
      · rw [decide_eq_true (by omega), cond_true, ixO_lt hk, Option.bind_some, List.drop_eq_getElem_cons hk, List.takeWhile_cons, wrap_succ (by omega), refSort_l1_eq out x ho m (k + 1) (by omega) (by omega)]
        cases podestaref04_Before out[k] x
        · rfl
        · simp only [cond_true, if_true, List.length_cons]
          congr 1; omega
      · rw [decide_eq_false (by omega), cond_false, List.drop_eq_nil_of_le (by omega)]; rfl
theorem sliceO_from {α : Type} (A : List α) {n : Nat} (h : n ≤ A.length) : sliceO A (some ((n : Nat) : Int)) none none = some (A.drop n) := by
  unfold sliceO
  simp only [Option.getD_some, Option.getD_none]
  split
  · simp only [Int.toNat_natCast]
    rw [List.take_of_length_le (by rw [List.length_drop]; omega)]
  · rename_i hc
    exact absurd ⟨by omega, by omega, by omega, Or.inl trivial⟩ hc
theorem sliceO_to {α : Type} (A : List α) {n : Nat} (h : n ≤ A.length) : sliceO A none (some ((n : Nat) : Int)) none = some (A.take n) := by
  unfold sliceO
  simp only [Option.getD_some, Option.getD_none]
  split
  · simp
  · rename_i hc
    exact absurd ⟨by omega, by omega, by omega, Or.inl trivial⟩ hc
theorem refPut_len (out : List Rule) (x : Rule) : (refPut out x).length ≤ out.length + 1 := by
  have h := congrArg List.length (List.takeWhile_append_dropWhile (p := fun y => podestaref04_Before y x) (l := out))
  rw [List.length_append] at h
  unfold refPut
  cases podestaref04_Rule x
  · simp only [Bool.not_false, cond_true]; omega
  · simp only [Bool.not_true, cond_false, List.length_append, List.length_cons]
    cases hd : out.dropWhile (fun y => podestaref04_Before y x) with
    | nil => rw [hd] at h; simp only [List.length_nil] at h ⊢; omega
    | cons y r =>
      rw [hd] at h
      rw [List.length_cons] at h
      cases hk : podestaref04_Key y x
      · simp only [hk, cond_false, List.length_cons]; omega
      · simp only [hk, cond_true]; omega
theorem refSort_l0s_eq (q : Nat) : ∀ (l out : List Rule), out.length + l.length < q → q ≤ 100000 → podestaref04_Sort_l0s q l out = some (l.foldl refPut out)
  | [], out, _, _ => by rw [podestaref04_Sort_l0s]; rfl
  | x :: l, out, h, hq => by
      rw [List.length_cons] at h
      have hp := refPut_len out x
      have ih := refSort_l0s_eq q l (refPut out x) (by omega) hq
      rw [podestaref04_Sort_l0s, List.foldl_cons, ← ih]
      obtain ⟨t1, t2⟩ := tw_len (fun y => podestaref04_Before y x) out
      have hl1 := refSort_l1_eq out x (by omega) q 0 (by omega) (by omega)
      rw [List.drop_zero, Nat.zero_add, show ((0 : Nat) : Int) = 0 from rfl] at hl1
      have hn : (out.takeWhile (fun y => podestaref04_Before y x)).length ≤ out.length := (List.takeWhile_sublist _).length_le
      have hdl : (out.dropWhile (fun y => podestaref04_Before y x)).length ≤ out.length := (List.dropWhile_sublist _).length_le
      cases hr : podestaref04_Rule x
      · simp only [Bool.not_false, cond_true]
        unfold refPut
        rw [hr]; rfl
      · simp only [Bool.not_true, cond_false]
        have hput : refPut out x = out.takeWhile (fun y => podestaref04_Before y x) ++ x :: (match out.dropWhile (fun y => podestaref04_Before y x) with | [] => [] | y :: r => bif podestaref04_Key y x then r else y :: r) := by
          unfold refPut; rw [hr]; rfl
        rw [hput, hl1, Option.bind_some, sliceO_from out hn, Option.bind_some, sliceO_to out hn, t1, t2]
        simp only [nil_app, List.length_map, Option.bind_some, List.length_nil, Nat.zero_add]
        rw [fitO_eq (by omega)]
        generalize out.takeWhile (fun y => podestaref04_Before y x) = A at *
        generalize out.dropWhile (fun y => podestaref04_Before y x) = B at *
        cases B with
        | nil =>
          simp only [List.length_nil]
          rw [show decide (((0 : Nat) : Int) > 0) = false from rfl, cond_false, fitO_eq (by omega), fitO_eq (by rw [List.length_cons, List.length_nil]; omega), fitO_eq (by rw [List.length_append, List.length_cons, List.length_nil]; omega), List.append_assoc]
          rfl
        | cons y r =>
          rw [List.length_cons] at hdl
          rw [decide_eq_true (show (((y :: r).length : Nat) : Int) > 0 by rw [List.length_cons]; omega), cond_true]
          rw [show ixO (y :: r) 0 = some y from rfl, Option.bind_some]
          rw [show sliceO (y :: r) (some 1) none none = some r by rw [show (1 : Int) = ((1 : Nat) : Int) from rfl, sliceO_from (y :: r) (by rw [List.length_cons]; omega)]; rfl, Option.bind_some]
          show _ = podestaref04_Sort_l0s q l (A ++ x :: (bif podestaref04_Key y x then r else y :: r))
          cases podestaref04_Key y x
          · rw [cond_false, cond_false, fitO_eq (by omega), fitO_eq (by rw [List.length_cons, List.length_nil]; omega), fitO_eq (by rw [List.length_append, List.length_cons, List.length_nil, List.length_cons]; omega), List.append_assoc]
            rfl
          · rw [cond_true, cond_true, fitO_eq (by omega), fitO_eq (by rw [List.length_cons, List.length_nil]; omega), fitO_eq (by rw [List.length_append, List.length_cons, List.length_nil]; omega), List.append_assoc]
            rfl
def refSortO (l : List Rule) : Option (List Rule) := if l.length ≤ 10000 then some (l.foldl refPut []) else none
theorem podestaref04_Sort_ok (l : List Rule) (f : Bool) (x : List Rule) (h : refSortO l = some x) : ACalls Try.prog tab.S 22 [.sl 51 (List.map Rule.av l) f] [] (.sl 51 (List.map Rule.av x) false) [] := by
  unfold refSortO at h
  split at h
  · rename_i hl
    refine podestaref04_Sort_walk (l.length + 1) l f x ?_
    rw [podestaref04_Sort_raw, refSort_l0s_eq (l.length + 1) l [] (by rw [List.length_nil]; omega) (by omega)]
    exact h
  · cases h
theorem refKey_eq (a b : Rule) : podestaref04_Key a b = decide (a.key = b.key) := by rw [← Key_key]; rfl
theorem refPut_eq {out : List Rule} {x : Rule} (hs : Srt out) (w : ∀ y ∈ out, Rule.wf y) (wx : Rule.wf x) : refPut out x = putR out x := by
  have hb : ∀ y ∈ out, (podestaref04_Before y x = true ↔ RLt y x) := fun y hy => by
    rw [refBefore_eq (w y hy) wx, Before_key, decide_eq_true_eq]; rfl
  unfold refPut
  rw [← rule_Sound_eq wx]
  cases hS : rule_Sound x
  · rw [putR_not hS]; rfl
  · simp only [Bool.not_true, cond_false]
    obtain ⟨A, mid, B, e1, e2, e3, e4, e5⟩ := putR_split hs hS
    rw [e2]
    subst e1
    have hA : ∀ a ∈ A, podestaref04_Before a x = true := fun a ha => (hb a (by simp [ha])).2 (e3 a ha)
    rw [List.takeWhile_append_of_pos hA, List.dropWhile_append_of_pos hA]
    obtain ⟨p1, p2, p3⟩ := List.pairwise_append.1 hs
    cases mid with
    | nil =>
      cases B with
      | nil => simp
      | cons b B =>
        have hf : podestaref04_Before b x = false := by
          rw [Bool.eq_false_iff]
          intro q
          exact RLt.asymm (e4 b (by simp)) ((hb b (by simp)).1 q)
        have hk : podestaref04_Key b x = false := by
          rw [refKey_eq, decide_eq_false_iff_not]
          intro q
          exact RLt.irr x b q.symm (e4 b (by simp))
        simp [List.takeWhile_cons, List.dropWhile_cons, hf, hk]
    | cons y mid =>
      have hy := e5 y (by simp)
      have hf : podestaref04_Before y x = false := by
        rw [Bool.eq_false_iff]
        intro q
        exact RLt.irr y x hy ((hb y (by simp)).1 q)
      have hk : podestaref04_Key y x = true := by rw [refKey_eq, decide_eq_true_eq]; exact hy
      have hm : mid = [] := by
        cases mid with
        | nil => rfl
        | cons z mid =>
          have h1 : RLt y z := (List.pairwise_cons.1 p2).1 z (by simp)
          exact absurd h1 (RLt.irr y z (hy.trans (e5 z (by simp)).symm))
      subst hm
      simp [List.takeWhile_cons, List.dropWhile_cons, hf, hk]
theorem refSort_fold : ∀ (l out : List Rule), Srt out → (∀ y ∈ out, Rule.wf y) → (∀ y ∈ l, Rule.wf y) → l.foldl refPut out = l.foldl putR out
  | [], _, _, _, _ => rfl
  | x :: l, out, hs, w, wl => by
      rw [List.foldl_cons, List.foldl_cons, refPut_eq hs w (wl x (by simp))]
      exact refSort_fold l (putR out x) (putR_srt hs x) (fun y hy => by
        rcases putR_mem hs hy with q | ⟨q, _⟩
        · exact w y q
        · rw [q]; exact wl x (by simp)) (fun y hy => wl y (by simp [hy]))
theorem refSortO_eq {l : List Rule} (w : ∀ y ∈ l, Rule.wf y) (h : l.length ≤ 10000) : refSortO l = some (sortR l) := by
  unfold refSortO sortR
  rw [if_pos h, refSort_fold l [] List.Pairwise.nil (by simp) w]

end Go.Proofs.Ytlfiemphadkimaa

set_option linter.unusedVariables false
set_option linter.unusedSimpArgs false
set_option maxRecDepth 100000
set_option maxHeartbeats 4000000
namespace Go.Proofs.Ytlfiemphadkimaa
open Go.Sh
/-! ### podestaref04.Swap: function 17 -/
noncomputable def podestaref04_Swap_F : Go.Sh.Fn := ⟨17, bodyOf Try.f17, 59⟩
def podestaref04_Swap_k3 : List Kd := [.pure, .pure, .pure, .pure, .pure, .pure, .pure, .pure, .pure]
def podestaref04_Swap_k4 : List Kd := [.pure, .pure, .loud, .pure, .loud, .loud, .pure, .pure]
def podestaref04_Swap_k2 : List Kd := [.pure, .pure, .pure, .pure]
def podestaref04_Swap_k1 : List Kd := [.pure, .pure, .pure, .pure, .pure]
def podestaref04_Swap_k0 : List Kd := [.pure, .pure, .pure, .pure, .pure, .pure, .pure, .pure, .pure, .pure, .pure, .pure, .pure]
def podestaref04_Swap_l1s (left : List Rule) (i : Int) : List Rule → Option (Sum (Unit) ((List Rule) × Int))
  | [] =>
    some (.inl ())
  | x3 :: rest =>
    (ixO left i).bind fun x4 =>
    (bif (podestaref04_Key x4 x3) then
      some (.inr ([], 5))
    else
      podestaref04_Swap_l1s left i rest )
theorem podestaref04_Swap_l1_walk (q0 : Nat) (l : List Rule) (gone : List Rule) (come : List Rule) (x : Bool) (x1 : Bool) (x2 : Bool) (left : List Rule) (i : Int) (f_l : Bool) (f_gone : Bool) (f_come : Bool) (r : (List Rule) × Int) (c0 : Ctx) (hc0 : c0.m.length = 0) (res : Sum (Unit) ((List Rule) × Int)) (J : ∀ w : Unit, res = .inl w → AR Try.prog tab podestaref04_Swap_F c0 (Rp tab.S c0 (.tup [.sl 51 (List.map Rule.av r.1) false, .sc (.int .i64 r.2)]) []) [.blk 1, .code [1, 1, 1, 1, 0, 1, 0, 0, 1, 1], .loop [1, 1, 1, 1, 0, 1, 0], .blk 0, .code [1, 1, 1, 1, 1]] [(2, .sl 51 (List.map Rule.av come) f_come), (8, .sl 51 (List.map Rule.av left) false), (9, .sc (.int .i64 i))] []) (Jr : ∀ w, res = .inr w → w = r) :
    ∀ (rest : List Rule) (k1 : Nat) (hd : come.drop k1 = rest) (H : podestaref04_Swap_l1s left i rest = some res), AR Try.prog tab podestaref04_Swap_F c0 (Rp tab.S c0 (.tup [.sl 51 (List.map Rule.av r.1) false, .sc (.int .i64 r.2)]) []) [.code [1, 1, 1, 1, 0, 1, 0, 0, 1, 0, 0, 1, 0, 0], .loop [1, 1, 1, 1, 0, 1, 0, 0, 1, 0, 0, 1, 0], .blk 2, .blk 1, .code [1, 1, 1, 1, 0, 1, 0, 0, 1, 1], .loop [1, 1, 1, 1, 0, 1, 0], .blk 0, .code [1, 1, 1, 1, 1]] [(2, .sl 51 (List.map Rule.av come) f_come), (8, .sl 51 (List.map Rule.av left) false), (9, .sc (.int .i64 i)), (10, .sc (.int .i64 ((k1 : Nat) : Int)))] [] := by
  have hG := tab_ok
  have hm := mixed
  intro rest
  induction rest with
  | nil =>
    intro k1 hd  H
    rw [podestaref04_Swap_l1s] at H
    refine AR.facts 2 rfl fun hf => ?_
    have hlen : come.length ≤ 9223372036854775807 := by have hq := len_ok hf.2.1; rw [List.length_map] at hq; exact hq
    have hge : come.length ≤ k1 := List.drop_eq_nil_iff.1 hd
    have hc : (decide (((k1 : Nat) : Int) < (((List.map Rule.av come).length : Nat) : Int))) = false := by rw [List.length_map]; exact decide_eq_false (by omega)
    refine AR.seg hG hm 3 [2, 8, 9, 10, 41] (k' := [.code [1, 1, 1, 1, 0, 1, 0, 0, 1, 0, 0, 1, 0, 0, 0, 1], .code [1, 1, 1, 1, 0, 1, 0, 0, 1, 0, 0, 1, 0, 0, 1], .loop [1, 1, 1, 1, 0, 1, 0, 0, 1, 0, 0, 1, 0], .blk 2, .blk 1, .code [1, 1, 1, 1, 0, 1, 0, 0, 1, 1], .loop [1, 1, 1, 1, 0, 1, 0], .blk 0, .code [1, 1, 1, 1, 1]]) (t' := [(2, .sl 51 (List.map Rule.av come) f_come), (8, .sl 51 (List.map Rule.av left) false), (9, .sc (.int .i64 i)), (10, .sc (.int .i64 ((k1 : Nat) : Int))), (41, .sc (.bool (decide (((k1 : Nat) : Int) < (((List.map Rule.av come).length : Nat) : Int)))))]) (h' := []) (by kernel_rfl) ?_
    refine AR.cond (.tmp 41) (decide (((k1 : Nat) : Int) < (((List.map Rule.av come).length : Nat) : Int))) (by kernel_rfl) (by kernel_rfl) (fun hb => ?ht42) (fun hb => ?hf42)
    case ht42 => exact absurd (hb.symm.trans hc) (by decide)
    case hf42 =>
      refine AR.seg hG hm 1 [2, 8, 9] (k' := [.blk 1, .code [1, 1, 1, 1, 0, 1, 0, 0, 1, 1], .loop [1, 1, 1, 1, 0, 1, 0], .blk 0, .code [1, 1, 1, 1, 1]]) (t' := [(2, .sl 51 (List.map Rule.av come) f_come), (8, .sl 51 (List.map Rule.av left) false), (9, .sc (.int .i64 i))]) (h' := []) (by kernel_rfl) ?_
      refine AR.keep [2, 8, 9] (t' := [(2, .sl 51 (List.map Rule.av come) f_come), (8, .sl 51 (List.map Rule.av left) false), (9, .sc (.int .i64 i))]) (by kernel_rfl) ?_
      exact J () (Option.some.inj H).symm
  | cons x3 rest ih =>
    intro k1 hd  H
    rw [podestaref04_Swap_l1s] at H
    refine AR.facts 2 rfl fun hf => ?_
    have hlen : come.length ≤ 9223372036854775807 := by have hq := len_ok hf.2.1; rw [List.length_map] at hq; exact hq
    obtain ⟨hlt, hv_k1, hd2⟩ := drop_cons hd
    have hc : (decide (((k1 : Nat) : Int) < (((List.map Rule.av come).length : Nat) : Int))) = true := by rw [List.length_map]; exact decide_eq_true (by omega)
    have hw : IntKind.i64.wrap (((k1 : Nat) : Int) + 1) = ((k1 + 1 : Nat) : Int) := wrapI_succ (by omega)
    refine AR.seg hG hm 3 [2, 8, 9, 10, 41] (k' := [.code [1, 1, 1, 1, 0, 1, 0, 0, 1, 0, 0, 1, 0, 0, 0, 1], .code [1, 1, 1, 1, 0, 1, 0, 0, 1, 0, 0, 1, 0, 0, 1], .loop [1, 1, 1, 1, 0, 1, 0, 0, 1, 0, 0, 1, 0], .blk 2, .blk 1, .code [1, 1, 1, 1, 0, 1, 0, 0, 1, 1], .loop [1, 1, 1, 1, 0, 1, 0], .blk 0, .code [1, 1, 1, 1, 1]]) (t' := [(2, .sl 51 (List.map Rule.av come) f_come), (8, .sl 51 (List.map Rule.av left) false), (9, .sc (.int .i64 i)), (10, .sc (.int .i64 ((k1 : Nat) : Int))), (41, .sc (.bool (decide (((k1 : Nat) : Int) < (((List.map Rule.av come).length : Nat) : Int)))))]) (h' := []) (by kernel_rfl) ?_
    refine AR.cond (.tmp 41) (decide (((k1 : Nat) : Int) < (((List.map Rule.av come).length : Nat) : Int))) (by kernel_rfl) (by kernel_rfl) (fun hb => ?ht43) (fun hb => ?hf43)
    case ht43 =>
      refine AR.seg hG hm 4 [2, 8, 9, 10] (k' := [.code [1, 1, 1, 1, 0, 1, 0, 0, 1, 0, 0, 1, 0, 0, 1, 0, 0, 0], .code [1, 1, 1, 1, 0, 1, 0, 0, 1, 0, 0, 1, 0, 0, 1, 0, 0, 1], .blk 3, .code [1, 1, 1, 1, 0, 1, 0, 0, 1, 0, 0, 1, 0, 0, 1, 1], .loop [1, 1, 1, 1, 0, 1, 0, 0, 1, 0, 0, 1, 0], .blk 2, .blk 1, .code [1, 1, 1, 1, 0, 1, 0, 0, 1, 1], .loop [1, 1, 1, 1, 0, 1, 0], .blk 0, .code [1, 1, 1, 1, 1]]) (t' := [(2, .sl 51 (List.map Rule.av come) f_come), (8, .sl 51 (List.map Rule.av left) false), (9, .sc (.int .i64 i)), (10, .sc (.int .i64 ((k1 : Nat) : Int)))]) (h' := []) (by kernel_rfl) ?_
      refine AR.reg hm podestaref04_Swap_k3 (by kernel_rfl) ?_
      refine DK.seg hG 2 [2, 8, 9, 10, 44, 45] (t' := [(2, .sl 51 (List.map Rule.av come) f_come), (8, .sl 51 (List.map Rule.av left) false), (9, .sc (.int .i64 i)), (10, .sc (.int .i64 ((k1 : Nat) : Int))), (44, .sl 51 (List.map Rule.av left) false), (45, .sc (.int .i64 i))]) (h' := []) (by kernel_rfl) rfl ?_
      obtain ⟨x4, hv, H⟩ := Option.bind_eq_some_iff.1 H
      refine DK.op' [2, 8, 9, 10, 46] (t' := [(2, .sl 51 (List.map Rule.av come) f_come), (8, .sl 51 (List.map Rule.av left) false), (9, .sc (.int .i64 i)), (10, .sc (.int .i64 ((k1 : Nat) : Int))), (46, .ep [.arr .u64 12 x4.Match.Value, .arr .u64 12 x4.Match.Care, .sc (.int .i64 x4.Prio), .sl 60 (List.map Act.av x4.Acts) false, .sc (.int .i64 x4.Idle), .sc (.int .i64 x4.Hard), .sc (.int .i64 x4.Owner), .sc (.int .i64 x4.Hits), .sc (.int .i64 x4.Quiet), .sc (.int .i64 x4.Age)] 0 none)]) (h' := []) (LSpec.index' (r := Rule.av x4) (fs := [.arr .u64 12 x4.Match.Value, .arr .u64 12 x4.Match.Care, .sc (.int .i64 x4.Prio), .sl 60 (List.map Act.av x4.Acts) false, .sc (.int .i64 x4.Idle), .sc (.int .i64 x4.Hard), .sc (.int .i64 x4.Owner), .sc (.int .i64 x4.Hits), .sc (.int .i64 x4.Quiet), .sc (.int .i64 x4.Age)]) hG (rows := List.map Rule.av left) (j := i) (by kernel_rfl) (ixO_map hv _) (by kernel_rfl)) (by kernel_rfl) rfl (by kernel_rfl) rfl ?_
      refine DK.seg hG 3 [2, 8, 9, 10, 47, 48, 49] (t' := [(2, .sl 51 (List.map Rule.av come) f_come), (8, .sl 51 (List.map Rule.av left) false), (9, .sc (.int .i64 i)), (10, .sc (.int .i64 ((k1 : Nat) : Int))), (47, Rule.av x4), (48, .sl 51 (List.map Rule.av come) f_come), (49, .sc (.int .i64 ((k1 : Nat) : Int)))]) (h' := []) (by kernel_rfl) rfl ?_
      refine DK.op' [2, 8, 9, 10, 47, 50] (t' := [(2, .sl 51 (List.map Rule.av come) f_come), (8, .sl 51 (List.map Rule.av left) false), (9, .sc (.int .i64 i)), (10, .sc (.int .i64 ((k1 : Nat) : Int))), (47, Rule.av x4), (50, .ep [.arr .u64 12 x3.Match.Value, .arr .u64 12 x3.Match.Care, .sc (.int .i64 x3.Prio), .sl 60 (List.map Act.av x3.Acts) false, .sc (.int .i64 x3.Idle), .sc (.int .i64 x3.Hard), .sc (.int .i64 x3.Owner), .sc (.int .i64 x3.Hits), .sc (.int .i64 x3.Quiet), .sc (.int .i64 x3.Age)] 0 none)]) (h' := []) (LSpec.index' (r := Rule.av x3) (fs := [.arr .u64 12 x3.Match.Value, .arr .u64 12 x3.Match.Care, .sc (.int .i64 x3.Prio), .sl 60 (List.map Act.av x3.Acts) false, .sc (.int .i64 x3.Idle), .sc (.int .i64 x3.Hard), .sc (.int .i64 x3.Owner), .sc (.int .i64 x3.Hits), .sc (.int .i64 x3.Quiet), .sc (.int .i64 x3.Age)]) hG (rows := List.map Rule.av come) (j := ((k1 : Nat) : Int)) (by kernel_rfl) (ixO_map hv_k1 _) (by kernel_rfl)) (by kernel_rfl) rfl (by kernel_rfl) rfl ?_
      refine DK.seg hG 1 [2, 8, 9, 10, 47, 51] (t' := [(2, .sl 51 (List.map Rule.av come) f_come), (8, .sl 51 (List.map Rule.av left) false), (9, .sc (.int .i64 i)), (10, .sc (.int .i64 ((k1 : Nat) : Int))), (47, Rule.av x4), (51, Rule.av x3)]) (h' := []) (by kernel_rfl) rfl ?_
      refine DK.op' [2, 8, 9, 10, 52] (t' := [(2, .sl 51 (List.map Rule.av come) f_come), (8, .sl 51 (List.map Rule.av left) false), (9, .sc (.int .i64 i)), (10, .sc (.int .i64 ((k1 : Nat) : Int))), (52, .sc (.bool (podestaref04_Key x4 x3)))]) (h' := []) (LSpec.callP' (podestaref04_Key_calls x4 x3) (by kernel_rfl)) (by kernel_rfl) rfl (by kernel_rfl) rfl ?_
      refine DK.done (by kernel_rfl) (by kernel_rfl) ?_
      refine AR.cond (.tmp 52) (podestaref04_Key x4 x3) (by kernel_rfl) (by kernel_rfl) (fun hb => ?ht44) (fun hb => ?hf44)
      case ht44 =>
        replace H := cond_t hb H
        refine AR.seg hG hm 2 [6, 7] (k' := [.code [1, 1, 1, 1, 0, 1, 0, 0, 1, 0, 0, 1, 0, 0, 1, 0, 0, 1, 0, 1], .blk 3, .code [1, 1, 1, 1, 0, 1, 0, 0, 1, 0, 0, 1, 0, 0, 1, 1], .loop [1, 1, 1, 1, 0, 1, 0, 0, 1, 0, 0, 1, 0], .blk 2, .blk 1, .code [1, 1, 1, 1, 0, 1, 0, 0, 1, 1], .loop [1, 1, 1, 1, 0, 1, 0], .blk 0, .code [1, 1, 1, 1, 1]]) (t' := [(6, .sl 0 [] true), (7, .sc (.int .i64 5))]) (h' := []) (by kernel_rfl) ?_
        obtain rfl := Option.some.inj H
        obtain rfl := Jr _ rfl
        exact AR.ret0 (fn := Try.f17) hG Try.func17 (by kernel_rfl) hc0 (r0 := .tup [.sl 0 [] true, .sc (.int .i64 5)]) (by kernel_rfl) (WkV.tup (Wks.cons (WkV.sl (Wk1.nil 51 false)) trivial trivial (Wks.cons (WkV.refl _) trivial trivial Wks.nil)))
      case hf44 =>
        replace H := cond_f hb H
        refine AR.seg hG hm 3 [2, 8, 9, 10] (k' := [.loop [1, 1, 1, 1, 0, 1, 0, 0, 1, 0, 0, 1, 0], .blk 2, .blk 1, .code [1, 1, 1, 1, 0, 1, 0, 0, 1, 1], .loop [1, 1, 1, 1, 0, 1, 0], .blk 0, .code [1, 1, 1, 1, 1]]) (t' := [(2, .sl 51 (List.map Rule.av come) f_come), (8, .sl 51 (List.map Rule.av left) false), (9, .sc (.int .i64 i)), (10, .sc (.int .i64 (IntKind.i64.wrap (((k1 : Nat) : Int) + 1))))]) (h' := []) (by kernel_rfl) ?_
        refine AR.keep [2, 8, 9, 10] (t' := [(2, .sl 51 (List.map Rule.av come) f_come), (8, .sl 51 (List.map Rule.av left) false), (9, .sc (.int .i64 i)), (10, .sc (.int .i64 (IntKind.i64.wrap (((k1 : Nat) : Int) + 1))))]) (by kernel_rfl) ?_
        refine AR.loop_round ?_
        rw [hw]
        exact ih (k1 + 1) hd2 H
    case hf43 => exact absurd (hc.symm.trans hb) (by decide)

def podestaref04_Swap_l0 (come : List Rule) : Nat → List Rule → Int → Option (Sum ((List Rule)) ((List Rule) × Int))
  | 0, _, _ => none
  | m + 1, left, i =>
    (bif (decide (i < (((List.map Rule.av left).length : Nat) : Int))) then
    loopP (podestaref04_Swap_l1s left i come) fun v =>
    podestaref04_Swap_l0 come m left (IntKind.i64.wrap (i + 1))
  else
    some (.inl left))
theorem podestaref04_Swap_l0_walk (q0 : Nat) (l : List Rule) (gone : List Rule) (come : List Rule) (x : Bool) (x1 : Bool) (x2 : Bool) (f_l : Bool) (f_gone : Bool) (f_come : Bool) (r : (List Rule) × Int) (c0 : Ctx) (hc0 : c0.m.length = 0) (res : Sum ((List Rule)) ((List Rule) × Int)) (J : ∀ w : (List Rule), res = .inl w → AR Try.prog tab podestaref04_Swap_F c0 (Rp tab.S c0 (.tup [.sl 51 (List.map Rule.av r.1) false, .sc (.int .i64 r.2)]) []) [.code [1, 1, 1, 1, 1]] [(2, .sl 51 (List.map Rule.av come) f_come), (8, .sl 51 (List.map Rule.av w) false)] []) (Jr : ∀ w, res = .inr w → w = r) :
    ∀ (m : Nat) (left : List Rule) (i : Int) (H : podestaref04_Swap_l0 come m left i = some res), AR Try.prog tab podestaref04_Swap_F c0 (Rp tab.S c0 (.tup [.sl 51 (List.map Rule.av r.1) false, .sc (.int .i64 r.2)]) []) [.code [1, 1, 1, 1, 0, 1, 0, 0], .loop [1, 1, 1, 1, 0, 1, 0], .blk 0, .code [1, 1, 1, 1, 1]] [(2, .sl 51 (List.map Rule.av come) f_come), (8, .sl 51 (List.map Rule.av left) false), (9, .sc (.int .i64 i))] [] := by
  have hG := tab_ok
  have hm := mixed
  intro m
  induction m with
  | zero => intro left i H; cases H
  | succ m ih =>
    intro left i H
    rw [podestaref04_Swap_l0] at H
    refine AR.seg hG hm 3 [2, 8, 9, 35] (k' := [.code [1, 1, 1, 1, 0, 1, 0, 0, 0, 1], .code [1, 1, 1, 1, 0, 1, 0, 0, 1], .loop [1, 1, 1, 1, 0, 1, 0], .blk 0, .code [1, 1, 1, 1, 1]]) (t' := [(2, .sl 51 (List.map Rule.av come) f_come), (8, .sl 51 (List.map Rule.av left) false), (9, .sc (.int .i64 i)), (35, .sc (.bool (decide (i < (((List.map Rule.av left).length : Nat) : Int)))))]) (h' := []) (by kernel_rfl) ?_
    refine AR.cond (.tmp 35) (decide (i < (((List.map Rule.av left).length : Nat) : Int))) (by kernel_rfl) (by kernel_rfl) (fun hb => ?ht35) (fun hb => ?hf35)
    case ht35 =>
      replace H := cond_t hb H
      refine AR.seg hG hm 6 [2, 8, 9, 10] (k' := [.code [1, 1, 1, 1, 0, 1, 0, 0, 1, 0, 0, 1, 0], .blk 2, .blk 1, .code [1, 1, 1, 1, 0, 1, 0, 0, 1, 1], .loop [1, 1, 1, 1, 0, 1, 0], .blk 0, .code [1, 1, 1, 1, 1]]) (t' := [(2, .sl 51 (List.map Rule.av come) f_come), (8, .sl 51 (List.map Rule.av left) false), (9, .sc (.int .i64 i)), (10, .sc (.int .i64 0))]) (h' := []) (by kernel_rfl) ?_
      rcases loopP_some H with ⟨v, hv, H⟩ | ⟨r1, hv, hr1⟩
      case inr =>
        refine AR.into (by kernel_rfl) ?_
        subst hr1
        obtain rfl := Jr _ rfl
        exact podestaref04_Swap_l1_walk q0 l gone come x x1 x2 left i f_l f_gone f_come _ c0 hc0 (.inr _) (fun _ e => by cases e) (fun _ e => (Sum.inr.inj e).symm) come 0 rfl hv
      refine AR.into (by kernel_rfl) ?_
      refine podestaref04_Swap_l1_walk q0 l gone come x x1 x2 left i f_l f_gone f_come r c0 hc0 (.inl v) (fun w e => ?_) (fun _ e => by cases e) come 0 rfl hv
      have e := Sum.inl.inj e
      subst e
      refine AR.seg hG hm 2 [2, 8, 9] (k' := [.loop [1, 1, 1, 1, 0, 1, 0], .blk 0, .code [1, 1, 1, 1, 1]]) (t' := [(2, .sl 51 (List.map Rule.av come) f_come), (8, .sl 51 (List.map Rule.av left) false), (9, .sc (.int .i64 (IntKind.i64.wrap (i + 1))))]) (h' := []) (by kernel_rfl) ?_
      refine AR.keep [2, 8, 9] (t' := [(2, .sl 51 (List.map Rule.av come) f_come), (8, .sl 51 (List.map Rule.av left) false), (9, .sc (.int .i64 (IntKind.i64.wrap (i + 1))))]) (by kernel_rfl) ?_
      refine AR.loop_round ?_
      exact ih left (IntKind.i64.wrap (i + 1)) H
    case hf35 =>
      replace H := cond_f hb H
      refine AR.seg hG hm 1 [2, 8] (k' := [.code [1, 1, 1, 1, 1]]) (t' := [(2, .sl 51 (List.map Rule.av come) f_come), (8, .sl 51 (List.map Rule.av left) false)]) (h' := []) (by kernel_rfl) ?_
      refine AR.keep [2, 8] (t' := [(2, .sl 51 (List.map Rule.av come) f_come), (8, .sl 51 (List.map Rule.av left) false)]) (by kernel_rfl) ?_
      exact J left (Option.some.inj H).symm
def podestaref04_Swap_raw (q0 : Nat) (l : List Rule) (gone : List Rule) (come : List Rule) : Option ((List Rule) × Int) :=
  (podestaref04_Table_raw l).bind fun x =>
  (bif (!x) then
    some ([], 2)
  else
    (podestaref04_Table_raw gone).bind fun x1 =>
    (bif (!x1) then
      some ([], 2)
    else
      (podestaref04_Table_raw come).bind fun x2 =>
      (bif (!x2) then
        some ([], 2)
      else
        (bif (decide ((((List.map Rule.av (aloneR gone l)).length : Nat) : Int) > 0)) then
          some ([], 4)
        else
          loopO (podestaref04_Swap_l0 come q0 (aloneR l gone) 0) fun v =>
          fitO (([] : List Rule).length + v.length) 272 (
          fitO ((([] : List Rule) ++ v).length + come.length) 272 (
          (refSortO ((([] : List Rule) ++ v) ++ come)).bind fun x3 =>
          some (x3, 0)))))))
theorem podestaref04_Swap_walk (q0 : Nat) (l : List Rule) (gone : List Rule) (come : List Rule) (f_l : Bool) (f_gone : Bool) (f_come : Bool) (r : (List Rule) × Int) (H : podestaref04_Swap_raw q0 l gone come = some r) :
    ACalls Try.prog tab.S 17 [.sl 51 (List.map Rule.av l) f_l, .sl 51 (List.map Rule.av gone) f_gone, .sl 51 (List.map Rule.av come) f_come] [] (.tup [.sl 51 (List.map Rule.av r.1) false, .sc (.int .i64 r.2)]) [] := by
  have hG := tab_ok
  have hm := mixed
  refine ACalls.of_AR (G := tab) podestaref04_Swap_F (fn := Try.f17) Try.func17 (by kernel_rfl) (by kernel_rfl) (by kernel_rfl) (Nat.le_of_ble_eq_true (by kernel_rfl)) ?_
  intro c0 hc0
  replace hc0 : c0.m.length = 0 := hc0
  rw [podestaref04_Swap_raw] at H
  refine AR.seg hG hm 4 [0, 1, 2] (k' := [.code [1, 0, 0], .code [1, 0, 1], .code [1, 1]]) (t' := [(0, .sl 51 (List.map Rule.av l) f_l), (1, .sl 51 (List.map Rule.av gone) f_gone), (2, .sl 51 (List.map Rule.av come) f_come)]) (h' := []) (by kernel_rfl) ?_
  refine AR.reg hm podestaref04_Swap_k0 (by kernel_rfl) ?_
  refine DK.seg hG 1 [0, 1, 2, 11] (t' := [(0, .sl 51 (List.map Rule.av l) f_l), (1, .sl 51 (List.map Rule.av gone) f_gone), (2, .sl 51 (List.map Rule.av come) f_come), (11, .sl 51 (List.map Rule.av l) f_l)]) (h' := []) (by kernel_rfl) rfl ?_
  obtain ⟨x, hv, H⟩ := Option.bind_eq_some_iff.1 H
  refine DK.op' [0, 1, 2, 12] (t' := [(0, .sl 51 (List.map Rule.av l) f_l), (1, .sl 51 (List.map Rule.av gone) f_gone), (2, .sl 51 (List.map Rule.av come) f_come), (12, .sc (.bool x))]) (h' := []) (LSpec.callP' (podestaref04_Table_walk l f_l x hv) (by kernel_rfl)) (by kernel_rfl) rfl (by kernel_rfl) rfl ?_
  refine DK.seg hG 2 [0, 1, 2, 14] (t' := [(0, .sl 51 (List.map Rule.av l) f_l), (1, .sl 51 (List.map Rule.av gone) f_gone), (2, .sl 51 (List.map Rule.av come) f_come), (14, .sc (.bool (!x)))]) (h' := []) (by kernel_rfl) rfl ?_
  refine DK.split 14 (!x) (by kernel_rfl) (fun hb => ?ht1) (fun hb => ?hf1)
  case ht1 =>
    replace H := cond_t hb H
    refine DK.seg hG 9 [0, 1, 2, 23] (t' := [(0, .sl 51 (List.map Rule.av l) f_l), (1, .sl 51 (List.map Rule.av gone) f_gone), (2, .sl 51 (List.map Rule.av come) f_come), (23, .sc (.bool true))]) (h' := []) (by kernel_rfl) rfl ?_
    refine DK.done (by kernel_rfl) (by kernel_rfl) ?_
    refine AR.seg hG hm 3 [6, 7] (k' := [.code [1, 0, 1, 0, 1], .code [1, 1]]) (t' := [(6, .sl 0 [] true), (7, .sc (.int .i64 2))]) (h' := []) (by kernel_rfl) ?_
    obtain rfl := Option.some.inj H
    exact AR.ret0 (fn := Try.f17) hG Try.func17 (by kernel_rfl) hc0 (r0 := .tup [.sl 0 [] true, .sc (.int .i64 2)]) (by kernel_rfl) (WkV.tup (Wks.cons (WkV.sl (Wk1.nil 51 false)) trivial trivial (Wks.cons (WkV.refl _) trivial trivial Wks.nil)))
  case hf1 =>
    replace H := cond_f hb H
    refine DK.seg hG 1 [0, 1, 2, 14, 15] (t' := [(0, .sl 51 (List.map Rule.av l) f_l), (1, .sl 51 (List.map Rule.av gone) f_gone), (2, .sl 51 (List.map Rule.av come) f_come), (14, .sc (.bool false)), (15, .sl 51 (List.map Rule.av gone) f_gone)]) (h' := []) (by kernel_rfl) rfl ?_
    obtain ⟨x1, hv, H⟩ := Option.bind_eq_some_iff.1 H
    refine DK.op' [0, 1, 2, 14, 16] (t' := [(0, .sl 51 (List.map Rule.av l) f_l), (1, .sl 51 (List.map Rule.av gone) f_gone), (2, .sl 51 (List.map Rule.av come) f_come), (14, .sc (.bool false)), (16, .sc (.bool x1))]) (h' := []) (LSpec.callP' (podestaref04_Table_walk gone f_gone x1 hv) (by kernel_rfl)) (by kernel_rfl) rfl (by kernel_rfl) rfl ?_
    refine DK.seg hG 3 [0, 1, 2, 19] (t' := [(0, .sl 51 (List.map Rule.av l) f_l), (1, .sl 51 (List.map Rule.av gone) f_gone), (2, .sl 51 (List.map Rule.av come) f_come), (19, .sc (.bool (!x1)))]) (h' := []) (by kernel_rfl) rfl ?_
    refine DK.split 19 (!x1) (by kernel_rfl) (fun hb => ?ht2) (fun hb => ?hf2)
    case ht2 =>
      replace H := cond_t hb H
      refine DK.seg hG 4 [0, 1, 2, 23] (t' := [(0, .sl 51 (List.map Rule.av l) f_l), (1, .sl 51 (List.map Rule.av gone) f_gone), (2, .sl 51 (List.map Rule.av come) f_come), (23, .sc (.bool true))]) (h' := []) (by kernel_rfl) rfl ?_
      refine DK.done (by kernel_rfl) (by kernel_rfl) ?_
      refine AR.seg hG hm 3 [6, 7] (k' := [.code [1, 0, 1, 0, 1], .code [1, 1]]) (t' := [(6, .sl 0 [] true), (7, .sc (.int .i64 2))]) (h' := []) (by kernel_rfl) ?_
      obtain rfl := Option.some.inj H
      exact AR.ret0 (fn := Try.f17) hG Try.func17 (by kernel_rfl) hc0 (r0 := .tup [.sl 0 [] true, .sc (.int .i64 2)]) (by kernel_rfl) (WkV.tup (Wks.cons (WkV.sl (Wk1.nil 51 false)) trivial trivial (Wks.cons (WkV.refl _) trivial trivial Wks.nil)))
    case hf2 =>
      replace H := cond_f hb H
      refine DK.seg hG 1 [0, 1, 2, 19, 20] (t' := [(0, .sl 51 (List.map Rule.av l) f_l), (1, .sl 51 (List.map Rule.av gone) f_gone), (2, .sl 51 (List.map Rule.av come) f_come), (19, .sc (.bool false)), (20, .sl 51 (List.map Rule.av come) f_come)]) (h' := []) (by kernel_rfl) rfl ?_
      obtain ⟨x2, hv, H⟩ := Option.bind_eq_some_iff.1 H
      refine DK.op' [0, 1, 2, 19, 21] (t' := [(0, .sl 51 (List.map Rule.av l) f_l), (1, .sl 51 (List.map Rule.av gone) f_gone), (2, .sl 51 (List.map Rule.av come) f_come), (19, .sc (.bool false)), (21, .sc (.bool x2))]) (h' := []) (LSpec.callP' (podestaref04_Table_walk come f_come x2 hv) (by kernel_rfl)) (by kernel_rfl) rfl (by kernel_rfl) rfl ?_
      refine DK.seg hG 2 [0, 1, 2, 23] (t' := [(0, .sl 51 (List.map Rule.av l) f_l), (1, .sl 51 (List.map Rule.av gone) f_gone), (2, .sl 51 (List.map Rule.av come) f_come), (23, .sc (.bool (!x2)))]) (h' := []) (by kernel_rfl) rfl ?_
      refine DK.done (by kernel_rfl) (by kernel_rfl) ?_
      refine AR.cond (.tmp 23) (!x2) (by kernel_rfl) (by kernel_rfl) (fun hb => ?ht3) (fun hb => ?hf3)
      case ht3 =>
        replace H := cond_t hb H
        refine AR.seg hG hm 2 [6, 7] (k' := [.code [1, 0, 1, 0, 1], .code [1, 1]]) (t' := [(6, .sl 0 [] true), (7, .sc (.int .i64 2))]) (h' := []) (by kernel_rfl) ?_
        obtain rfl := Option.some.inj H
        exact AR.ret0 (fn := Try.f17) hG Try.func17 (by kernel_rfl) hc0 (r0 := .tup [.sl 0 [] true, .sc (.int .i64 2)]) (by kernel_rfl) (WkV.tup (Wks.cons (WkV.sl (Wk1.nil 51 false)) trivial trivial (Wks.cons (WkV.refl _) trivial trivial Wks.nil)))
      case hf3 =>
        replace H := cond_f hb H
        refine AR.seg hG hm 3 [0, 1, 2] (k' := [.code [1, 1, 0, 0], .code [1, 1, 0, 1], .code [1, 1, 1]]) (t' := [(0, .sl 51 (List.map Rule.av l) f_l), (1, .sl 51 (List.map Rule.av gone) f_gone), (2, .sl 51 (List.map Rule.av come) f_come)]) (h' := []) (by kernel_rfl) ?_
        refine AR.reg hm podestaref04_Swap_k1 (by kernel_rfl) ?_
        refine DK.seg hG 2 [0, 1, 2, 24, 25] (t' := [(0, .sl 51 (List.map Rule.av l) f_l), (1, .sl 51 (List.map Rule.av gone) f_gone), (2, .sl 51 (List.map Rule.av come) f_come), (24, .sl 51 (List.map Rule.av gone) f_gone), (25, .sl 51 (List.map Rule.av l) f_l)]) (h' := []) (by kernel_rfl) rfl ?_
        refine DK.op' [0, 1, 2, 26] (t' := [(0, .sl 51 (List.map Rule.av l) f_l), (1, .sl 51 (List.map Rule.av gone) f_gone), (2, .sl 51 (List.map Rule.av come) f_come), (26, .sl 51 (List.map Rule.av (aloneR gone l)) false)]) (h' := []) (LSpec.callP' (podestaref04_Alone_ok gone l f_gone f_l) (by kernel_rfl)) (by kernel_rfl) rfl (by kernel_rfl) rfl ?_
        refine DK.seg hG 2 [0, 1, 2, 28] (t' := [(0, .sl 51 (List.map Rule.av l) f_l), (1, .sl 51 (List.map Rule.av gone) f_gone), (2, .sl 51 (List.map Rule.av come) f_come), (28, .sc (.bool (decide ((((List.map Rule.av (aloneR gone l)).length : Nat) : Int) > 0))))]) (h' := []) (by kernel_rfl) rfl ?_
        refine DK.done (by kernel_rfl) (by kernel_rfl) ?_
        refine AR.cond (.tmp 28) (decide ((((List.map Rule.av (aloneR gone l)).length : Nat) : Int) > 0)) (by kernel_rfl) (by kernel_rfl) (fun hb => ?ht4) (fun hb => ?hf4)
        case ht4 =>
          replace H := cond_t hb H
          refine AR.seg hG hm 2 [6, 7] (k' := [.code [1, 1, 0, 1, 0, 1], .code [1, 1, 1]]) (t' := [(6, .sl 0 [] true), (7, .sc (.int .i64 4))]) (h' := []) (by kernel_rfl) ?_
          obtain rfl := Option.some.inj H
          exact AR.ret0 (fn := Try.f17) hG Try.func17 (by kernel_rfl) hc0 (r0 := .tup [.sl 0 [] true, .sc (.int .i64 4)]) (by kernel_rfl) (WkV.tup (Wks.cons (WkV.sl (Wk1.nil 51 false)) trivial trivial (Wks.cons (WkV.refl _) trivial trivial Wks.nil)))
        case hf4 =>
          replace H := cond_f hb H
          refine AR.seg hG hm 2 [0, 1, 2] (k' := [.code [1, 1, 1, 0], .code [1, 1, 1, 1]]) (t' := [(0, .sl 51 (List.map Rule.av l) f_l), (1, .sl 51 (List.map Rule.av gone) f_gone), (2, .sl 51 (List.map Rule.av come) f_come)]) (h' := []) (by kernel_rfl) ?_
          refine AR.reg hm podestaref04_Swap_k2 (by kernel_rfl) ?_
          refine DK.seg hG 2 [2, 29, 30] (t' := [(2, .sl 51 (List.map Rule.av come) f_come), (29, .sl 51 (List.map Rule.av l) f_l), (30, .sl 51 (List.map Rule.av gone) f_gone)]) (h' := []) (by kernel_rfl) rfl ?_
          refine DK.op' [2, 31] (t' := [(2, .sl 51 (List.map Rule.av come) f_come), (31, .sl 51 (List.map Rule.av (aloneR l gone)) false)]) (h' := []) (LSpec.callP' (podestaref04_Alone_ok l gone f_l f_gone) (by kernel_rfl)) (by kernel_rfl) rfl (by kernel_rfl) rfl ?_
          refine DK.seg hG 1 [2, 8] (t' := [(2, .sl 51 (List.map Rule.av come) f_come), (8, .sl 51 (List.map Rule.av (aloneR l gone)) false)]) (h' := []) (by kernel_rfl) rfl ?_
          refine DK.done (by kernel_rfl) (by kernel_rfl) ?_
          refine AR.seg hG hm 4 [2, 8, 9] (k' := [.code [1, 1, 1, 1, 0, 1, 0], .blk 0, .code [1, 1, 1, 1, 1]]) (t' := [(2, .sl 51 (List.map Rule.av come) f_come), (8, .sl 51 (List.map Rule.av (aloneR l gone)) false), (9, .sc (.int .i64 0))]) (h' := []) (by kernel_rfl) ?_
          rcases loopO_some H with ⟨v, hv, H⟩ | hv
          case inr =>
            refine AR.into (by kernel_rfl) ?_
            exact podestaref04_Swap_l0_walk q0 l gone come x x1 x2 f_l f_gone f_come r c0 hc0 (.inr r) (fun _ e => by cases e) (fun _ e => (Sum.inr.inj e).symm) q0 (aloneR l gone) 0 hv
          refine AR.into (by kernel_rfl) ?_
          refine podestaref04_Swap_l0_walk q0 l gone come x x1 x2 f_l f_gone f_come r c0 hc0 (.inl v) (fun w e => ?_) (fun _ e => by cases e) q0 (aloneR l gone) 0 hv
          have e := Sum.inl.inj e
          subst e
          refine AR.seg hG hm 1 [2, 8] (k' := [.code [1, 1, 1, 1, 1, 0], .code [1, 1, 1, 1, 1, 1]]) (t' := [(2, .sl 51 (List.map Rule.av come) f_come), (8, .sl 51 (List.map Rule.av v) false)]) (h' := []) (by kernel_rfl) ?_
          refine AR.reg hm podestaref04_Swap_k4 (by kernel_rfl) ?_
          refine DK.seg hG 2 [2, 53, 54] (t' := [(2, .sl 51 (List.map Rule.av come) f_come), (53, .sl 51 (List.map Rule.av []) true), (54, .sl 51 (List.map Rule.av v) false)]) (h' := []) (by kernel_rfl) rfl ?_
          obtain ⟨hfit, H⟩ := fitO_some H
          refine DK.op' [2, 55] (t' := [(2, .sl 51 (List.map Rule.av come) f_come), (55, .own 0 1000000)]) (h' := [.row 51 (List.map Rule.av (([] : List Rule) ++ v)) 1000000 true]) (LSpec.appendB hG Rule.av ([] : List Rule) v 51 272 rfl hfit (by kernel_rfl)) (by kernel_rfl) (by kernel_rfl) (by kernel_rfl) rfl ?_
          refine DK.seg hG 1 [55, 56] (t' := [(55, .own 0 1000000), (56, .sl 51 (List.map Rule.av come) f_come)]) (h' := [.row 51 (List.map Rule.av (([] : List Rule) ++ v)) 1000000 true]) (by kernel_rfl) rfl ?_
          obtain ⟨hfit, H⟩ := fitO_some H
          refine DK.op' [57] (t' := [(57, .own 0 1000001)]) (h' := [.row 51 (List.map Rule.av ((([] : List Rule) ++ v) ++ come)) 1000001 true]) (LSpec.append' hG Rule.av (([] : List Rule) ++ v) come 0 1000000 51 272 hfit (by kernel_rfl)) (by kernel_rfl) (by kernel_rfl) (by kernel_rfl) rfl ?_
          obtain ⟨x3, hv, H⟩ := Option.bind_eq_some_iff.1 H
          refine DK.op' [58] (t' := [(58, .sl 51 (List.map Rule.av x3) false)]) (h' := [.row 51 (List.map Rule.av ((([] : List Rule) ++ v) ++ come)) 1000001 false]) (LSpec.callC' [0] (podestaref04_Sort_ok ((([] : List Rule) ++ v) ++ come) false x3 hv) (by kernel_rfl) (by kernel_rfl)) (by kernel_rfl) (by kernel_rfl) (by kernel_rfl) rfl ?_
          refine DK.seg hG 2 [6, 7] (t' := [(6, .sl 51 (List.map Rule.av x3) false), (7, .sc (.int .i64 0))]) (h' := [.row 51 (List.map Rule.av ((([] : List Rule) ++ v) ++ come)) 1000001 false]) (by kernel_rfl) rfl ?_
          refine DK.done (by kernel_rfl) (by kernel_rfl) ?_
          obtain rfl := Option.some.inj H
          exact AR.ret0 (fn := Try.f17) hG Try.func17 (by kernel_rfl) hc0 (r0 := .tup [.sl 51 (List.map Rule.av x3) false, .sc (.int .i64 0)]) (by kernel_rfl) (WkV.refl _)

def refSwapO (l gone come : List Rule) : Option (List Rule × Int) := podestaref04_Swap_raw (l.length + 1) l gone come
theorem podestaref04_Swap_ok (l gone come : List Rule) (f g k : Bool) (x : List Rule × Int) (h : refSwapO l gone come = some x) : ACalls Try.prog tab.S 17 [.sl 51 (List.map Rule.av l) f, .sl 51 (List.map Rule.av gone) g, .sl 51 (List.map Rule.av come) k] [] (.tup [.sl 51 (List.map Rule.av x.1) false, .sc (.int .i64 x.2)]) [] :=
  podestaref04_Swap_walk (l.length + 1) l gone come f g k x h
theorem refSwap_l1s_eq (left : List Rule) (i : Nat) (hi : i < left.length) : ∀ (c : List Rule), podestaref04_Swap_l1s left (i : Int) c = some (if c.any (fun x => rule_Key left[i] x) then .inr ([], 5) else .inl ())
  | [] => by rw [podestaref04_Swap_l1s]; rfl
  | x :: c => by
      have e : podestaref04_Key left[i] x = rule_Key left[i] x := rfl
      rw [podestaref04_Swap_l1s, ixO_lt hi, Option.bind_some, e, refSwap_l1s_eq left i hi c, List.any_cons]
      cases rule_Key left[i] x <;> rfl
theorem refSwap_l0_eq (come left : List Rule) (hl : left.length ≤ 1000000) : ∀ (m i : Nat), i ≤ left.length → left.length - i < m → podestaref04_Swap_l0 come m left (i : Int) = some (if (left.drop i).any (fun y => come.any (fun x => rule_Key y x)) then .inr ([], 5) else .inl left)
  | 0, i, _, h => absurd h (by omega)
  | m + 1, i, h1, h2 => by
      rw [podestaref04_Swap_l0, List.length_map]
      by_cases hi : i < left.length
      · rw [decide_eq_true (by omega), cond_true, refSwap_l1s_eq left i hi come, wrap_succ (by omega), List.drop_eq_getElem_cons hi, List.any_cons, refSwap_l0_eq come left hl m (i + 1) (by omega) (by omega)]
        cases come.any (fun x => rule_Key left[i] x) <;> rfl
      · rw [decide_eq_false (by omega), cond_false, List.drop_eq_nil_of_le (by omega)]; rfl
theorem any_swap (a b : List Rule) (f : Rule → Rule → Bool) : a.any (fun y => b.any (fun x => f y x)) = b.any (fun x => a.any (fun y => f y x)) := by
  rw [Bool.eq_iff_iff, List.any_eq_true, List.any_eq_true]
  constructor
  · rintro ⟨y, hy, h⟩
    obtain ⟨x, hx, h⟩ := List.any_eq_true.1 h
    exact ⟨x, hx, List.any_eq_true.2 ⟨y, hy, h⟩⟩
  · rintro ⟨x, hx, h⟩
    obtain ⟨y, hy, h⟩ := List.any_eq_true.1 h
    exact ⟨y, hy, List.any_eq_true.2 ⟨x, hx, h⟩⟩
theorem refSwapO_eq {l gone come : List Rule} (wl : ∀ y ∈ l, Rule.wf y) (wg : ∀ y ∈ gone, Rule.wf y) (wc : ∀ y ∈ come, Rule.wf y) (ll : l.length ≤ 1000) (lg : gone.length ≤ 1000) (lc : come.length ≤ 1000) : refSwapO l gone come = some (swapM l gone come) := by
  unfold refSwapO swapM
  have hlen := aloneR_len l gone
  rw [podestaref04_Swap_raw, refTable_raw_eq l wl (by omega), refTable_raw_eq gone wg (by omega), refTable_raw_eq come wc (by omega)]
  have h0 := refSwap_l0_eq come (aloneR l gone) (by omega) (l.length + 1) 0 (by omega) (by omega)
  rw [List.drop_zero, show ((0 : Nat) : Int) = 0 from rfl, any_swap] at h0
  simp only [Option.bind_some, List.length_map, nil_app, List.length_nil, Nat.zero_add]
  rw [h0]
  have hfit : (fitO (aloneR l gone).length 272 (fitO ((aloneR l gone).length + come.length) 272 ((refSortO (aloneR l gone ++ come)).bind fun x3 => some (x3, (0 : Int))))) = some (sortR (aloneR l gone ++ come), 0) := by
    rw [fitO_eq (by omega), fitO_eq (by omega), refSortO_eq (fun y hy => by
      rcases List.mem_append.1 hy with q | q
      · exact wl y (mem_alone.1 q).1
      · exact wc y q) (by rw [List.length_append]; omega)]
    rfl
  have e : decide ((((aloneR gone l).length : Nat) : Int) > 0) = decide ((aloneR gone l).length > 0) := by
    rw [Bool.eq_iff_iff, decide_eq_true_eq, decide_eq_true_eq]; omega
  rw [e]
  cases tableR l
  · rfl
  cases tableR gone
  · rfl
  cases tableR come
  · rfl
  cases decide ((aloneR gone l).length > 0)
  · simp only [Bool.not_true, Bool.or_self, cond_false]
    by_cases q : come.any (fun x => (aloneR l gone).any (fun y => rule_Key y x)) = true
    · rw [if_pos q, if_pos q]; rfl
    · rw [if_neg q, if_neg q]; exact hfit
  · rfl

end Go.Proofs.Ytlfiemphadkimaa

set_option linter.unusedVariables false
set_option linter.unusedSimpArgs false
set_option maxRecDepth 100000
set_option maxHeartbeats 4000000
namespace Go.Proofs.Ytlfiemphadkimaa
open Go.Sh
/-! ### podestalaw08.UndoAny: function 5 -/
noncomputable def podestalaw08_UndoAny_F : Go.Sh.Fn := ⟨5, bodyOf Try.f5, 71⟩
def podestalaw08_UndoAny_k1 : List Kd := [.pure, .pure]
def podestalaw08_UndoAny_k5 : List Kd := [.pure, .pure, .pure, .pure, .pure, .pure, .pure, .pure, .pure, .pure, .pure, .pure, .pure, .pure, .pure, .pure, .pure, .pure, .pure, .pure, .pure, .pure]
def podestalaw08_UndoAny_k4 : List Kd := [.pure, .pure, .pure, .pure, .pure, .pure, .pure, .pure, .pure]
def podestalaw08_UndoAny_k3 : List Kd := [.pure, .pure, .pure, .pure, .pure, .pure, .pure, .pure, .pure, .pure]
def podestalaw08_UndoAny_k2 : List Kd := [.pure, .pure, .pure, .pure, .pure, .pure, .pure, .pure, .pure, .pure]
def podestalaw08_UndoAny_k0 : List Kd := [.pure, .pure, .pure, .pure, .pure, .pure, .pure, .pure, .pure, .pure, .pure, .pure, .pure]
def podestalaw08_UndoAny_raw (l : List Rule) (gone : List Rule) (come : List Rule) : Option (Bool) :=
  (bif (((decide ((((List.map Rule.av l).length : Nat) : Int) > 40)) || (decide ((((List.map Rule.av gone).length : Nat) : Int) > 40))) || (decide ((((List.map Rule.av come).length : Nat) : Int) > 40))) then
    some true
  else
    (undo_Forth_raw l ({ Gone := gone, New := come } : Patch)).bind fun x =>
    (undo_Back_raw l ({ Gone := come, New := gone } : Patch)).bind fun x1 =>
    (refSwapO l gone come).bind fun x2 =>
    some ((((x.2 == x2.2) && (x1.2 == x2.2)) && (zipAll podestaref04_Equal x.1 x2.1)) && (zipAll podestaref04_Equal x1.1 x2.1)))
theorem podestalaw08_UndoAny_walk (l : List Rule) (gone : List Rule) (come : List Rule) (f_l : Bool) (f_gone : Bool) (f_come : Bool) (r : Bool) (H : podestalaw08_UndoAny_raw l gone come = some r) :
    ACalls Try.prog tab.S 5 [.sl 51 (List.map Rule.av l) f_l, .sl 51 (List.map Rule.av gone) f_gone, .sl 51 (List.map Rule.av come) f_come] [] (.sc (.bool r)) [] := by
  have hG := tab_ok
  have hm := mixed
  refine ACalls.of_AR (G := tab) podestalaw08_UndoAny_F (fn := Try.f5) Try.func5 (by kernel_rfl) (by kernel_rfl) (by kernel_rfl) (Nat.le_of_ble_eq_true (by kernel_rfl)) ?_
  intro c0 hc0
  replace hc0 : c0.m.length = 0 := hc0
  rw [podestalaw08_UndoAny_raw] at H
  refine AR.seg hG hm 4 [0, 1, 2] (k' := [.code [1, 0, 0], .code [1, 0, 1], .code [1, 1]]) (t' := [(0, .sl 51 (List.map Rule.av l) f_l), (1, .sl 51 (List.map Rule.av gone) f_gone), (2, .sl 51 (List.map Rule.av come) f_come)]) (h' := []) (by kernel_rfl) ?_
  refine AR.reg hm podestalaw08_UndoAny_k0 (by kernel_rfl) ?_
  refine DK.seg hG 4 [0, 1, 2, 16] (t' := [(0, .sl 51 (List.map Rule.av l) f_l), (1, .sl 51 (List.map Rule.av gone) f_gone), (2, .sl 51 (List.map Rule.av come) f_come), (16, .sc (.bool (decide ((((List.map Rule.av l).length : Nat) : Int) > 40))))]) (h' := []) (by kernel_rfl) rfl ?_
  refine DK.mux 16 (decide ((((List.map Rule.av l).length : Nat) : Int) > 40)) (j := 8) (h' := []) (by kernel_rfl) (fun z => [(0, .sl 51 (List.map Rule.av l) f_l), (1, .sl 51 (List.map Rule.av gone) f_gone), (2, .sl 51 (List.map Rule.av come) f_come), (20, .sc (.bool (z || (decide ((((List.map Rule.av gone).length : Nat) : Int) > 40)))))]) ?J1 (fun hb J => ?ht1) (fun hb J => ?hf1)
  case ht1 =>
    exact DK.seg hG 4 [0, 1, 2, 20] (by kernel_rfl) rfl J
  case hf1 =>
    exact DK.seg hG 4 [0, 1, 2, 20] (by kernel_rfl) rfl J
  refine DK.seg hG 1 [0, 1, 2, 21] (t' := [(0, .sl 51 (List.map Rule.av l) f_l), (1, .sl 51 (List.map Rule.av gone) f_gone), (2, .sl 51 (List.map Rule.av come) f_come), (21, .sc (.bool ((decide ((((List.map Rule.av l).length : Nat) : Int) > 40)) || (decide ((((List.map Rule.av gone).length : Nat) : Int) > 40)))))]) (h' := []) (by kernel_rfl) rfl ?_
  refine DK.mux 21 ((decide ((((List.map Rule.av l).length : Nat) : Int) > 40)) || (decide ((((List.map Rule.av gone).length : Nat) : Int) > 40))) (j := 13) (h' := []) (by kernel_rfl) (fun z => [(0, .sl 51 (List.map Rule.av l) f_l), (1, .sl 51 (List.map Rule.av gone) f_gone), (2, .sl 51 (List.map Rule.av come) f_come), (25, .sc (.bool (z || (decide ((((List.map Rule.av come).length : Nat) : Int) > 40)))))]) ?J2 (fun hb J => ?ht2) (fun hb J => ?hf2)
  case ht2 =>
    exact DK.seg hG 4 [0, 1, 2, 25] (by kernel_rfl) rfl J
  case hf2 =>
    exact DK.seg hG 4 [0, 1, 2, 25] (by kernel_rfl) rfl J
  refine DK.done (by kernel_rfl) (by kernel_rfl) ?_
  refine AR.cond (.tmp 25) (((decide ((((List.map Rule.av l).length : Nat) : Int) > 40)) || (decide ((((List.map Rule.av gone).length : Nat) : Int) > 40))) || (decide ((((List.map Rule.av come).length : Nat) : Int) > 40))) (by kernel_rfl) (by kernel_rfl) (fun hb => ?ht3) (fun hb => ?hf3)
  case ht3 =>
    replace H := cond_t hb H
    refine AR.seg hG hm 1 [] (k' := [.code [1, 0, 1, 0, 0], .code [1, 0, 1, 0, 1], .code [1, 1]]) (t' := []) (h' := []) (by kernel_rfl) ?_
    refine AR.reg hm podestalaw08_UndoAny_k1 (by kernel_rfl) ?_
    refine DK.op' [26] (t' := [(26, .sc (.bool true))]) (h' := []) (LSpec.callP' (podestalaw08_answers_ok) (by kernel_rfl)) (by kernel_rfl) rfl (by kernel_rfl) rfl ?_
    refine DK.seg hG 1 [6] (t' := [(6, .sc (.bool true))]) (h' := []) (by kernel_rfl) rfl ?_
    refine DK.done (by kernel_rfl) (by kernel_rfl) ?_
    obtain rfl := Option.some.inj H
    exact AR.ret0 (fn := Try.f5) hG Try.func5 (by kernel_rfl) hc0 (r0 := .sc (.bool true)) (by kernel_rfl) (WkV.refl _)
  case hf3 =>
    replace H := cond_f hb H
    refine AR.seg hG hm 2 [0, 1, 2] (k' := [.code [1, 1, 0], .code [1, 1, 1]]) (t' := [(0, .sl 51 (List.map Rule.av l) f_l), (1, .sl 51 (List.map Rule.av gone) f_gone), (2, .sl 51 (List.map Rule.av come) f_come)]) (h' := []) (by kernel_rfl) ?_
    refine AR.reg hm podestalaw08_UndoAny_k2 (by kernel_rfl) ?_
    refine DK.seg hG 4 [0, 1, 2, 28, 31] (t' := [(0, .sl 51 (List.map Rule.av l) f_l), (1, .sl 51 (List.map Rule.av gone) f_gone), (2, .sl 51 (List.map Rule.av come) f_come), (28, .sl 51 (List.map Rule.av l) f_l), (31, .agg [.sl 51 (List.map Rule.av gone) f_gone, .sl 51 (List.map Rule.av come) f_come])]) (h' := []) (by kernel_rfl) rfl ?_
    obtain ⟨x, hv, H⟩ := Option.bind_eq_some_iff.1 H
    refine DK.op' [0, 1, 2, 32] (t' := [(0, .sl 51 (List.map Rule.av l) f_l), (1, .sl 51 (List.map Rule.av gone) f_gone), (2, .sl 51 (List.map Rule.av come) f_come), (32, .tup [.sl 51 (List.map Rule.av x.1) true, .sc (.int .i64 x.2)])]) (h' := []) (LSpec.callP' (ACalls.wk (aas := [.sl 51 (List.map Rule.av l) f_l, .agg [.sl 51 (List.map Rule.av gone) f_gone, .sl 51 (List.map Rule.av come) f_come]]) (Wks.cons (WkV.refl _) trivial trivial (Wks.cons (WkV.agg (WkL.cons (Wk1.anyFull f_gone) (WkL.cons (Wk1.anyFull f_come) WkL.nil))) trivial trivial Wks.nil)) (undo_Forth_walk l ({ Gone := gone, New := come } : Patch) f_l x hv)) (by kernel_rfl)) (by kernel_rfl) rfl (by kernel_rfl) rfl ?_
    refine DK.seg hG 5 [0, 1, 2, 7, 8] (t' := [(0, .sl 51 (List.map Rule.av l) f_l), (1, .sl 51 (List.map Rule.av gone) f_gone), (2, .sl 51 (List.map Rule.av come) f_come), (7, .sl 51 (List.map Rule.av x.1) true), (8, .sc (.int .i64 x.2))]) (h' := []) (by kernel_rfl) rfl ?_
    refine DK.done (by kernel_rfl) (by kernel_rfl) ?_
    refine AR.seg hG hm 1 [0, 1, 2, 7, 8] (k' := [.code [1, 1, 1, 0], .code [1, 1, 1, 1]]) (t' := [(0, .sl 51 (List.map Rule.av l) f_l), (1, .sl 51 (List.map Rule.av gone) f_gone), (2, .sl 51 (List.map Rule.av come) f_come), (7, .sl 51 (List.map Rule.av x.1) true), (8, .sc (.int .i64 x.2))]) (h' := []) (by kernel_rfl) ?_
    refine AR.reg hm podestalaw08_UndoAny_k3 (by kernel_rfl) ?_
    refine DK.seg hG 4 [0, 1, 2, 7, 8, 36, 39] (t' := [(0, .sl 51 (List.map Rule.av l) f_l), (1, .sl 51 (List.map Rule.av gone) f_gone), (2, .sl 51 (List.map Rule.av come) f_come), (7, .sl 51 (List.map Rule.av x.1) true), (8, .sc (.int .i64 x.2)), (36, .sl 51 (List.map Rule.av l) f_l), (39, .agg [.sl 51 (List.map Rule.av come) f_come, .sl 51 (List.map Rule.av gone) f_gone])]) (h' := []) (by kernel_rfl) rfl ?_
    obtain ⟨x1, hv, H⟩ := Option.bind_eq_some_iff.1 H
    refine DK.op' [0, 1, 2, 7, 8, 40] (t' := [(0, .sl 51 (List.map Rule.av l) f_l), (1, .sl 51 (List.map Rule.av gone) f_gone), (2, .sl 51 (List.map Rule.av come) f_come), (7, .sl 51 (List.map Rule.av x.1) true), (8, .sc (.int .i64 x.2)), (40, .tup [.sl 51 (List.map Rule.av x1.1) true, .sc (.int .i64 x1.2)])]) (h' := []) (LSpec.callP' (ACalls.wk (aas := [.sl 51 (List.map Rule.av l) f_l, .agg [.sl 51 (List.map Rule.av come) f_come, .sl 51 (List.map Rule.av gone) f_gone]]) (Wks.cons (WkV.refl _) trivial trivial (Wks.cons (WkV.agg (WkL.cons (Wk1.anyFull f_come) (WkL.cons (Wk1.anyFull f_gone) WkL.nil))) trivial trivial Wks.nil)) (undo_Back_walk l ({ Gone := come, New := gone } : Patch) f_l x1 hv)) (by kernel_rfl)) (by kernel_rfl) rfl (by kernel_rfl) rfl ?_
    refine DK.seg hG 5 [0, 1, 2, 7, 8, 9, 10] (t' := [(0, .sl 51 (List.map Rule.av l) f_l), (1, .sl 51 (List.map Rule.av gone) f_gone), (2, .sl 51 (List.map Rule.av come) f_come), (7, .sl 51 (List.map Rule.av x.1) true), (8, .sc (.int .i64 x.2)), (9, .sl 51 (List.map Rule.av x1.1) true), (10, .sc (.int .i64 x1.2))]) (h' := []) (by kernel_rfl) rfl ?_
    refine DK.done (by kernel_rfl) (by kernel_rfl) ?_
    refine AR.seg hG hm 1 [0, 1, 2, 7, 8, 9, 10] (k' := [.code [1, 1, 1, 1, 0], .code [1, 1, 1, 1, 1]]) (t' := [(0, .sl 51 (List.map Rule.av l) f_l), (1, .sl 51 (List.map Rule.av gone) f_gone), (2, .sl 51 (List.map Rule.av come) f_come), (7, .sl 51 (List.map Rule.av x.1) true), (8, .sc (.int .i64 x.2)), (9, .sl 51 (List.map Rule.av x1.1) true), (10, .sc (.int .i64 x1.2))]) (h' := []) (by kernel_rfl) ?_
    refine AR.reg hm podestalaw08_UndoAny_k4 (by kernel_rfl) ?_
    refine DK.seg hG 3 [7, 8, 9, 10, 44, 45, 46] (t' := [(7, .sl 51 (List.map Rule.av x.1) true), (8, .sc (.int .i64 x.2)), (9, .sl 51 (List.map Rule.av x1.1) true), (10, .sc (.int .i64 x1.2)), (44, .sl 51 (List.map Rule.av l) f_l), (45, .sl 51 (List.map Rule.av gone) f_gone), (46, .sl 51 (List.map Rule.av come) f_come)]) (h' := []) (by kernel_rfl) rfl ?_
    obtain ⟨x2, hv, H⟩ := Option.bind_eq_some_iff.1 H
    refine DK.op' [7, 8, 9, 10, 47] (t' := [(7, .sl 51 (List.map Rule.av x.1) true), (8, .sc (.int .i64 x.2)), (9, .sl 51 (List.map Rule.av x1.1) true), (10, .sc (.int .i64 x1.2)), (47, .tup [.sl 51 (List.map Rule.av x2.1) false, .sc (.int .i64 x2.2)])]) (h' := []) (LSpec.callP' (podestaref04_Swap_ok l gone come f_l f_gone f_come x2 hv) (by kernel_rfl)) (by kernel_rfl) rfl (by kernel_rfl) rfl ?_
    refine DK.seg hG 5 [7, 8, 9, 10, 11, 12] (t' := [(7, .sl 51 (List.map Rule.av x.1) true), (8, .sc (.int .i64 x.2)), (9, .sl 51 (List.map Rule.av x1.1) true), (10, .sc (.int .i64 x1.2)), (11, .sl 51 (List.map Rule.av x2.1) false), (12, .sc (.int .i64 x2.2))]) (h' := []) (by kernel_rfl) rfl ?_
    refine DK.done (by kernel_rfl) (by kernel_rfl) ?_
    refine AR.seg hG hm 1 [7, 8, 9, 10, 11, 12] (k' := [.code [1, 1, 1, 1, 1, 0], .code [1, 1, 1, 1, 1, 1]]) (t' := [(7, .sl 51 (List.map Rule.av x.1) true), (8, .sc (.int .i64 x.2)), (9, .sl 51 (List.map Rule.av x1.1) true), (10, .sc (.int .i64 x1.2)), (11, .sl 51 (List.map Rule.av x2.1) false), (12, .sc (.int .i64 x2.2))]) (h' := []) (by kernel_rfl) ?_
    refine AR.reg hm podestalaw08_UndoAny_k5 (by kernel_rfl) ?_
    refine DK.op' [7, 8, 9, 10, 11, 12, 50] (t' := [(7, .sl 51 (List.map Rule.av x.1) true), (8, .sc (.int .i64 x.2)), (9, .sl 51 (List.map Rule.av x1.1) true), (10, .sc (.int .i64 x1.2)), (11, .sl 51 (List.map Rule.av x2.1) false), (12, .sc (.int .i64 x2.2)), (50, .sc (.bool true))]) (h' := []) (LSpec.callP' (podestalaw08_answers_ok) (by kernel_rfl)) (by kernel_rfl) rfl (by kernel_rfl) rfl ?_
    refine DK.seg hG 6 [7, 9, 10, 11, 12, 56] (t' := [(7, .sl 51 (List.map Rule.av x.1) true), (9, .sl 51 (List.map Rule.av x1.1) true), (10, .sc (.int .i64 x1.2)), (11, .sl 51 (List.map Rule.av x2.1) false), (12, .sc (.int .i64 x2.2)), (56, .sc (.bool (x.2 == x2.2)))]) (h' := []) (by kernel_rfl) rfl ?_
    refine DK.mux 56 (x.2 == x2.2) (j := 11) (h' := []) (by kernel_rfl) (fun z => [(7, .sl 51 (List.map Rule.av x.1) true), (9, .sl 51 (List.map Rule.av x1.1) true), (11, .sl 51 (List.map Rule.av x2.1) false), (60, .sc (.bool (z && (x1.2 == x2.2))))]) ?J4 (fun hb J => ?ht4) (fun hb J => ?hf4)
    case ht4 =>
      exact DK.seg hG 4 [7, 9, 11, 60] (by kernel_rfl) rfl J
    case hf4 =>
      exact DK.seg hG 4 [7, 9, 11, 60] (by kernel_rfl) rfl J
    refine DK.seg hG 1 [7, 9, 11, 61] (t' := [(7, .sl 51 (List.map Rule.av x.1) true), (9, .sl 51 (List.map Rule.av x1.1) true), (11, .sl 51 (List.map Rule.av x2.1) false), (61, .sc (.bool ((x.2 == x2.2) && (x1.2 == x2.2))))]) (h' := []) (by kernel_rfl) rfl ?_
    refine DK.mux 61 ((x.2 == x2.2) && (x1.2 == x2.2)) (j := 16) (h' := []) (by kernel_rfl) (fun z => [(9, .sl 51 (List.map Rule.av x1.1) true), (11, .sl 51 (List.map Rule.av x2.1) false), (65, .sc (.bool (z && (zipAll podestaref04_Equal x.1 x2.1))))]) ?J5 (fun hb J => ?ht5) (fun hb J => ?hf5)
    case ht5 =>
      refine DK.seg hG 2 [9, 11, 61, 62, 63] (t' := [(9, .sl 51 (List.map Rule.av x1.1) true), (11, .sl 51 (List.map Rule.av x2.1) false), (61, .sc (.bool true)), (62, .sl 51 (List.map Rule.av x.1) true), (63, .sl 51 (List.map Rule.av x2.1) false)]) (h' := []) (by kernel_rfl) rfl ?_
      refine DK.op' [9, 11, 61, 64] (t' := [(9, .sl 51 (List.map Rule.av x1.1) true), (11, .sl 51 (List.map Rule.av x2.1) false), (61, .sc (.bool true)), (64, .sc (.bool (zipAll podestaref04_Equal x.1 x2.1)))]) (h' := []) (LSpec.callP' (podestaref04_Same_ok x.1 x2.1 true false) (by kernel_rfl)) (by kernel_rfl) rfl (by kernel_rfl) rfl ?_
      exact DK.seg hG 1 [9, 11, 65] (by kernel_rfl) rfl J
    case hf5 =>
      exact DK.seg hG 4 [9, 11, 65] (by kernel_rfl) rfl J
    refine DK.seg hG 1 [9, 11, 66] (t' := [(9, .sl 51 (List.map Rule.av x1.1) true), (11, .sl 51 (List.map Rule.av x2.1) false), (66, .sc (.bool (((x.2 == x2.2) && (x1.2 == x2.2)) && (zipAll podestaref04_Equal x.1 x2.1))))]) (h' := []) (by kernel_rfl) rfl ?_
    refine DK.mux 66 (((x.2 == x2.2) && (x1.2 == x2.2)) && (zipAll podestaref04_Equal x.1 x2.1)) (j := 21) (h' := []) (by kernel_rfl) (fun z => [(70, .sc (.bool (z && (zipAll podestaref04_Equal x1.1 x2.1))))]) ?J6 (fun hb J => ?ht6) (fun hb J => ?hf6)
    case ht6 =>
      refine DK.seg hG 2 [66, 67, 68] (t' := [(66, .sc (.bool true)), (67, .sl 51 (List.map Rule.av x1.1) true), (68, .sl 51 (List.map Rule.av x2.1) false)]) (h' := []) (by kernel_rfl) rfl ?_
      refine DK.op' [66, 69] (t' := [(66, .sc (.bool true)), (69, .sc (.bool (zipAll podestaref04_Equal x1.1 x2.1)))]) (h' := []) (LSpec.callP' (podestaref04_Same_ok x1.1 x2.1 true false) (by kernel_rfl)) (by kernel_rfl) rfl (by kernel_rfl) rfl ?_
      exact DK.seg hG 1 [70] (by kernel_rfl) rfl J
    case hf6 =>
      exact DK.seg hG 4 [70] (by kernel_rfl) rfl J
    refine DK.seg hG 1 [6] (t' := [(6, .sc (.bool ((((x.2 == x2.2) && (x1.2 == x2.2)) && (zipAll podestaref04_Equal x.1 x2.1)) && (zipAll podestaref04_Equal x1.1 x2.1))))]) (h' := []) (by kernel_rfl) rfl ?_
    refine DK.done (by kernel_rfl) (by kernel_rfl) ?_
    obtain rfl := Option.some.inj H
    exact AR.ret0 (fn := Try.f5) hG Try.func5 (by kernel_rfl) hc0 (r0 := .sc (.bool ((((x.2 == x2.2) && (x1.2 == x2.2)) && (zipAll podestaref04_Equal x.1 x2.1)) && (zipAll podestaref04_Equal x1.1 x2.1)))) (by kernel_rfl) (WkV.refl _)

theorem UndoAny_true (l gone come : List Rule) (wl : ∀ y ∈ l, Rule.wf y) (wg : ∀ y ∈ gone, Rule.wf y) (wc : ∀ y ∈ come, Rule.wf y) (_ : l.length * 272 ≤ 140737488355328) (_ : gone.length * 272 ≤ 140737488355328) (_ : come.length * 272 ≤ 140737488355328) : podestalaw08_UndoAny_raw l gone come = some true := by
  rw [podestalaw08_UndoAny_raw]
  simp only [List.length_map, ref_Same_eq]
  by_cases ll : l.length > 40
  · rw [decide_eq_true (show ((l.length : Nat) : Int) > 40 by omega)]; rfl
  by_cases lg : gone.length > 40
  · rw [decide_eq_true (show ((gone.length : Nat) : Int) > 40 by omega), Bool.or_true]; rfl
  by_cases lc : come.length > 40
  · rw [decide_eq_true (show ((come.length : Nat) : Int) > 40 by omega), Bool.or_true]; rfl
  have e1 : undo_Forth_raw l ({ Gone := gone, New := come } : Patch) = some (swapM l gone come) := by
    rw [undo_Forth_raw, swapO_eq (by show l.length + come.length ≤ 1000000; omega)]; rfl
  have e2 : undo_Back_raw l ({ Gone := come, New := gone } : Patch) = some (swapM l gone come) := by
    rw [undo_Back_raw, swapO_eq (by show l.length + come.length ≤ 1000000; omega)]; rfl
  rw [decide_eq_false (by omega), decide_eq_false (by omega), decide_eq_false (by omega), e1, e2, refSwapO_eq wl wg wc (by omega) (by omega) (by omega)]
  simp

end Go.Proofs.Ytlfiemphadkimaa
