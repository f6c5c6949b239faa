import Derived.Test.YtjchejmakdkioaaR7
set_option linter.unusedVariables false
set_option maxRecDepth 100000
set_option maxHeartbeats 4000000
namespace Go.Proofs.Ytjchejmakdkioaa
open Go.Sh
/-! ### podestaref01.Compare: function 64 -/
noncomputable def podestaref01_Compare_F : Go.Sh.Fn := ⟨64, bodyOf Try.f64, 19⟩
def podestaref01_Compare_k1 : List Kd := [.pure, .read, .pure, .read, .pure, .pure]
def podestaref01_Compare_k0 : List Kd := [.pure, .read, .pure, .read, .pure, .pure]
def podestaref01_Compare (a : Cube) (b : Cube) : Int :=
  (bif ((Order a.Care b.Care) != 0) then
    (Order a.Care b.Care)
  else
    (Order a.Value b.Value))
theorem podestaref01_Compare_walk (a : Cube) (b : Cube) (r : Int) (H : podestaref01_Compare a b = r) :
    ACalls Try.prog tab.S 64 [Cube.av a, Cube.av b] [] (.sc (.int .i64 r)) [] := by
  have hG := tab_ok
  have hm := mixed
  refine ACalls.of_AR (G := tab) podestaref01_Compare_F (fn := Try.f64) Try.func64 (by kernel_rfl) (by kernel_rfl) (by kernel_rfl) (Nat.le_of_ble_eq_true (by kernel_rfl)) ?_
  intro c0 hc0
  replace hc0 : c0.m.length = 0 := hc0
  rw [podestaref01_Compare] at H
  refine AR.seg hG hm 3 [2, 3] (k' := [.code [1, 0], .code [1, 1]]) (t' := [(2, .ptr 0 0 none), (3, .ptr 1 0 none)]) (h' := [.box 63 [.arr .u64 12 a.Value, .arr .u64 12 a.Care], .box 63 [.arr .u64 12 b.Value, .arr .u64 12 b.Care]]) (by kernel_rfl) ?_
  refine AR.reg hm podestaref01_Compare_k0 (by kernel_rfl) ?_
  refine DK.seg hG 4 [2, 3, 7, 9] (t' := [(2, .ptr 0 0 none), (3, .ptr 1 0 none), (7, .arr .u64 12 a.Care), (9, .arr .u64 12 b.Care)]) (h' := [.box 63 [.arr .u64 12 a.Value, .arr .u64 12 a.Care], .box 63 [.arr .u64 12 b.Value, .arr .u64 12 b.Care]]) (by kernel_rfl) rfl ?_
  refine DK.op' [2, 3, 10] (t' := [(2, .ptr 0 0 none), (3, .ptr 1 0 none), (10, .sc (.int .i64 (Order a.Care b.Care)))]) (h' := [.box 63 [.arr .u64 12 a.Value, .arr .u64 12 a.Care], .box 63 [.arr .u64 12 b.Value, .arr .u64 12 b.Care]]) (LSpec.callP' (Order_calls a.Care b.Care) (by kernel_rfl)) (by kernel_rfl) rfl (by kernel_rfl) rfl ?_
  refine DK.seg hG 1 [2, 3, 5] (t' := [(2, .ptr 0 0 none), (3, .ptr 1 0 none), (5, .sc (.int .i64 (Order a.Care b.Care)))]) (h' := [.box 63 [.arr .u64 12 a.Value, .arr .u64 12 a.Care], .box 63 [.arr .u64 12 b.Value, .arr .u64 12 b.Care]]) (by kernel_rfl) rfl ?_
  refine DK.done (by kernel_rfl) (by kernel_rfl) ?_
  refine AR.seg hG hm 3 [2, 3, 5, 12] (k' := [.code [1, 1, 0, 1], .code [1, 1, 1]]) (t' := [(2, .ptr 0 0 none), (3, .ptr 1 0 none), (5, .sc (.int .i64 (Order a.Care b.Care))), (12, .sc (.bool ((Order a.Care b.Care) != 0)))]) (h' := [.box 63 [.arr .u64 12 a.Value, .arr .u64 12 a.Care], .box 63 [.arr .u64 12 b.Value, .arr .u64 12 b.Care]]) (by kernel_rfl) ?_
  refine AR.cond (.tmp 12) ((Order a.Care b.Care) != 0) (by kernel_rfl) (by kernel_rfl) (fun hb => ?ht1) (fun hb => ?hf1)
  case ht1 =>
    replace H := cond_t hb H
    refine AR.seg hG hm 2 [4] (k' := [.code [1, 1, 0, 1, 0, 1], .code [1, 1, 1]]) (t' := [(4, .sc (.int .i64 (Order a.Care b.Care)))]) (h' := [.box 63 [.arr .u64 12 a.Value, .arr .u64 12 a.Care], .box 63 [.arr .u64 12 b.Value, .arr .u64 12 b.Care]]) (by kernel_rfl) ?_
    subst H
    exact AR.ret0 (fn := Try.f64) hG Try.func64 (by kernel_rfl) hc0 (r0 := .sc (.int .i64 (Order a.Care b.Care))) (by kernel_rfl) (WkV.refl _)
  case hf1 =>
    replace H := cond_f hb H
    refine AR.seg hG hm 2 [2, 3] (k' := [.code [1, 1, 1, 0], .code [1, 1, 1, 1]]) (t' := [(2, .ptr 0 0 none), (3, .ptr 1 0 none)]) (h' := [.box 63 [.arr .u64 12 a.Value, .arr .u64 12 a.Care], .box 63 [.arr .u64 12 b.Value, .arr .u64 12 b.Care]]) (by kernel_rfl) ?_
    refine AR.reg hm podestaref01_Compare_k1 (by kernel_rfl) ?_
    refine DK.seg hG 4 [15, 17] (t' := [(15, .arr .u64 12 a.Value), (17, .arr .u64 12 b.Value)]) (h' := [.box 63 [.arr .u64 12 a.Value, .arr .u64 12 a.Care], .box 63 [.arr .u64 12 b.Value, .arr .u64 12 b.Care]]) (by kernel_rfl) rfl ?_
    refine DK.op' [18] (t' := [(18, .sc (.int .i64 (Order a.Value b.Value)))]) (h' := [.box 63 [.arr .u64 12 a.Value, .arr .u64 12 a.Care], .box 63 [.arr .u64 12 b.Value, .arr .u64 12 b.Care]]) (LSpec.callP' (Order_calls a.Value b.Value) (by kernel_rfl)) (by kernel_rfl) rfl (by kernel_rfl) rfl ?_
    refine DK.seg hG 1 [4] (t' := [(4, .sc (.int .i64 (Order a.Value b.Value)))]) (h' := [.box 63 [.arr .u64 12 a.Value, .arr .u64 12 a.Care], .box 63 [.arr .u64 12 b.Value, .arr .u64 12 b.Care]]) (by kernel_rfl) rfl ?_
    refine DK.done (by kernel_rfl) (by kernel_rfl) ?_
    subst H
    exact AR.ret0 (fn := Try.f64) hG Try.func64 (by kernel_rfl) hc0 (r0 := .sc (.int .i64 (Order a.Value b.Value))) (by kernel_rfl) (WkV.refl _)
theorem podestaref01_Compare_calls (a : Cube) (b : Cube) : ACalls Try.prog tab.S 64 [Cube.av a, Cube.av b] [] (.sc (.int .i64 (podestaref01_Compare a b))) [] := podestaref01_Compare_walk a b _ rfl

/-! ### podestaref04.Before: function 53 -/
noncomputable def podestaref04_Before_F : Go.Sh.Fn := ⟨53, bodyOf Try.f53, 21⟩
def podestaref04_Before_k0 : List Kd := [.pure, .read, .pure, .read, .pure, .pure, .pure]
def podestaref04_Before (a : Rule) (b : Rule) : Bool :=
  (bif (a.Prio != b.Prio) then
    (decide (a.Prio > b.Prio))
  else
    (decide ((podestaref01_Compare a.Match b.Match) < 0)))
theorem podestaref04_Before_walk (a : Rule) (b : Rule) (r : Bool) (H : podestaref04_Before a b = r) :
    ACalls Try.prog tab.S 53 [Rule.av a, Rule.av b] [] (.sc (.bool r)) [] := by
  have hG := tab_ok
  have hm := mixed
  refine ACalls.of_AR (G := tab) podestaref04_Before_F (fn := Try.f53) Try.func53 (by kernel_rfl) (by kernel_rfl) (by kernel_rfl) (Nat.le_of_ble_eq_true (by kernel_rfl)) ?_
  intro c0 hc0
  replace hc0 : c0.m.length = 0 := hc0
  rw [podestaref04_Before] at H
  refine AR.seg hG hm 5 [2, 3, 9] (k' := [.code [1, 0, 1], .code [1, 1]]) (t' := [(2, .ptr 0 0 none), (3, .ptr 1 0 none), (9, .sc (.bool (a.Prio != b.Prio)))]) (h' := [.box 66 [.arr .u64 12 a.Match.Value, .arr .u64 12 a.Match.Care, .sc (.int .i64 a.Prio), .sl 110 (List.map Act.av a.Acts) false, .sc (.int .i64 a.Idle), .sc (.int .i64 a.Hard), .sc (.int .i64 a.Owner), .sc (.int .i64 a.Hits), .sc (.int .i64 a.Quiet), .sc (.int .i64 a.Age)], .box 66 [.arr .u64 12 b.Match.Value, .arr .u64 12 b.Match.Care, .sc (.int .i64 b.Prio), .sl 110 (List.map Act.av b.Acts) false, .sc (.int .i64 b.Idle), .sc (.int .i64 b.Hard), .sc (.int .i64 b.Owner), .sc (.int .i64 b.Hits), .sc (.int .i64 b.Quiet), .sc (.int .i64 b.Age)]]) (by kernel_rfl) ?_
  refine AR.cond (.tmp 9) (a.Prio != b.Prio) (by kernel_rfl) (by kernel_rfl) (fun hb => ?ht1) (fun hb => ?hf1)
  case ht1 =>
    replace H := cond_t hb H
    refine AR.seg hG hm 2 [4] (k' := [.code [1, 0, 1, 0, 1], .code [1, 1]]) (t' := [(4, .sc (.bool (decide (a.Prio > b.Prio))))]) (h' := [.box 66 [.arr .u64 12 a.Match.Value, .arr .u64 12 a.Match.Care, .sc (.int .i64 a.Prio), .sl 110 (List.map Act.av a.Acts) false, .sc (.int .i64 a.Idle), .sc (.int .i64 a.Hard), .sc (.int .i64 a.Owner), .sc (.int .i64 a.Hits), .sc (.int .i64 a.Quiet), .sc (.int .i64 a.Age)], .box 66 [.arr .u64 12 b.Match.Value, .arr .u64 12 b.Match.Care, .sc (.int .i64 b.Prio), .sl 110 (List.map Act.av b.Acts) false, .sc (.int .i64 b.Idle), .sc (.int .i64 b.Hard), .sc (.int .i64 b.Owner), .sc (.int .i64 b.Hits), .sc (.int .i64 b.Quiet), .sc (.int .i64 b.Age)]]) (by kernel_rfl) ?_
    subst H
    exact AR.ret0 (fn := Try.f53) hG Try.func53 (by kernel_rfl) hc0 (r0 := .sc (.bool (decide (a.Prio > b.Prio)))) (by kernel_rfl) (WkV.refl _)
  case hf1 =>
    replace H := cond_f hb H
    refine AR.seg hG hm 2 [2, 3] (k' := [.code [1, 1, 0], .code [1, 1, 1]]) (t' := [(2, .ptr 0 0 none), (3, .ptr 1 0 none)]) (h' := [.box 66 [.arr .u64 12 a.Match.Value, .arr .u64 12 a.Match.Care, .sc (.int .i64 a.Prio), .sl 110 (List.map Act.av a.Acts) false, .sc (.int .i64 a.Idle), .sc (.int .i64 a.Hard), .sc (.int .i64 a.Owner), .sc (.int .i64 a.Hits), .sc (.int .i64 a.Quiet), .sc (.int .i64 a.Age)], .box 66 [.arr .u64 12 b.Match.Value, .arr .u64 12 b.Match.Care, .sc (.int .i64 b.Prio), .sl 110 (List.map Act.av b.Acts) false, .sc (.int .i64 b.Idle), .sc (.int .i64 b.Hard), .sc (.int .i64 b.Owner), .sc (.int .i64 b.Hits), .sc (.int .i64 b.Quiet), .sc (.int .i64 b.Age)]]) (by kernel_rfl) ?_
    refine AR.reg hm podestaref04_Before_k0 (by kernel_rfl) ?_
    refine DK.seg hG 4 [16, 18] (t' := [(16, Cube.av a.Match), (18, Cube.av b.Match)]) (h' := [.box 66 [.arr .u64 12 a.Match.Value, .arr .u64 12 a.Match.Care, .sc (.int .i64 a.Prio), .sl 110 (List.map Act.av a.Acts) false, .sc (.int .i64 a.Idle), .sc (.int .i64 a.Hard), .sc (.int .i64 a.Owner), .sc (.int .i64 a.Hits), .sc (.int .i64 a.Quiet), .sc (.int .i64 a.Age)], .box 66 [.arr .u64 12 b.Match.Value, .arr .u64 12 b.Match.Care, .sc (.int .i64 b.Prio), .sl 110 (List.map Act.av b.Acts) false, .sc (.int .i64 b.Idle), .sc (.int .i64 b.Hard), .sc (.int .i64 b.Owner), .sc (.int .i64 b.Hits), .sc (.int .i64 b.Quiet), .sc (.int .i64 b.Age)]]) (by kernel_rfl) rfl ?_
    refine DK.op' [19] (t' := [(19, .sc (.int .i64 (podestaref01_Compare a.Match b.Match)))]) (h' := [.box 66 [.arr .u64 12 a.Match.Value, .arr .u64 12 a.Match.Care, .sc (.int .i64 a.Prio), .sl 110 (List.map Act.av a.Acts) false, .sc (.int .i64 a.Idle), .sc (.int .i64 a.Hard), .sc (.int .i64 a.Owner), .sc (.int .i64 a.Hits), .sc (.int .i64 a.Quiet), .sc (.int .i64 a.Age)], .box 66 [.arr .u64 12 b.Match.Value, .arr .u64 12 b.Match.Care, .sc (.int .i64 b.Prio), .sl 110 (List.map Act.av b.Acts) false, .sc (.int .i64 b.Idle), .sc (.int .i64 b.Hard), .sc (.int .i64 b.Owner), .sc (.int .i64 b.Hits), .sc (.int .i64 b.Quiet), .sc (.int .i64 b.Age)]]) (LSpec.callP' (podestaref01_Compare_calls a.Match b.Match) (by kernel_rfl)) (by kernel_rfl) rfl (by kernel_rfl) rfl ?_
    refine DK.seg hG 2 [4] (t' := [(4, .sc (.bool (decide ((podestaref01_Compare a.Match b.Match) < 0))))]) (h' := [.box 66 [.arr .u64 12 a.Match.Value, .arr .u64 12 a.Match.Care, .sc (.int .i64 a.Prio), .sl 110 (List.map Act.av a.Acts) false, .sc (.int .i64 a.Idle), .sc (.int .i64 a.Hard), .sc (.int .i64 a.Owner), .sc (.int .i64 a.Hits), .sc (.int .i64 a.Quiet), .sc (.int .i64 a.Age)], .box 66 [.arr .u64 12 b.Match.Value, .arr .u64 12 b.Match.Care, .sc (.int .i64 b.Prio), .sl 110 (List.map Act.av b.Acts) false, .sc (.int .i64 b.Idle), .sc (.int .i64 b.Hard), .sc (.int .i64 b.Owner), .sc (.int .i64 b.Hits), .sc (.int .i64 b.Quiet), .sc (.int .i64 b.Age)]]) (by kernel_rfl) rfl ?_
    refine DK.done (by kernel_rfl) (by kernel_rfl) ?_
    subst H
    exact AR.ret0 (fn := Try.f53) hG Try.func53 (by kernel_rfl) hc0 (r0 := .sc (.bool (decide ((podestaref01_Compare a.Match b.Match) < 0)))) (by kernel_rfl) (WkV.refl _)
theorem podestaref04_Before_calls (a : Rule) (b : Rule) : ACalls Try.prog tab.S 53 [Rule.av a, Rule.av b] [] (.sc (.bool (podestaref04_Before a b))) [] := podestaref04_Before_walk a b _ rfl

/-! ### podestaref04.Acts: function 62 -/
noncomputable def podestaref04_Acts_F : Go.Sh.Fn := ⟨62, bodyOf Try.f62, 81⟩
def podestaref04_Acts_k1 : List Kd := [.pure, .read, .pure, .pure, .pure, .read, .pure, .pure, .pure, .pure, .read, .pure, .pure, .pure, .pure, .read, .pure, .pure, .pure]
def podestaref04_Acts_k2 : List Kd := [.pure, .read, .pure, .pure, .pure, .read, .pure, .pure, .pure, .pure, .read, .pure, .pure, .pure, .pure, .read, .pure, .read, .pure, .pure, .pure, .pure]
def podestaref04_Acts_k3 : List Kd := [.pure, .read, .pure, .pure, .pure, .read, .pure, .pure, .pure, .pure, .read, .pure, .pure, .pure]
def podestaref04_Acts_k0 : List Kd := [.pure, .pure, .pure, .read, .loud, .loud]
def podestaref04_Acts_l0 (l : List Act) : Nat → Int → Option (Sum (Unit) (Bool))
  | 0, _ => none
  | m + 1, i =>
    (bif (decide (i < (((List.map Act.av l).length : Nat) : Int))) then
    (ixO l i).bind fun x =>
    (bif (!(bif (x.Kind == 1) then ((((decide (x.Port ≥ 1)) && (decide (x.Port ≤ 16))) && (x.Field == 0)) && (x.Value == 0)) else (bif (x.Kind == 2) then ((((x.Port == 0) && (decide (x.Field ≥ 0))) && (decide (x.Field < 12))) && (podestaref01_Fits x.Value (Size x.Field))) else ((x.Kind == 3) && (((x.Port == 0) && (x.Field == 0)) && (x.Value == 0)))))) then
      some (.inr false)
    else
      podestaref04_Acts_l0 l m (IntKind.i64.wrap (i + 1)))
  else
    some (.inl ()))
theorem podestaref04_Acts_l0_walk (q0 : Nat) (l : List Act) (f_l : Bool) (r : Bool) (c0 : Ctx) (hc0 : c0.m.length = 0) (res : Sum (Unit) (Bool)) (J : ∀ w : Unit, res = .inl w → AR Try.prog tab podestaref04_Acts_F c0 (Rp tab.S c0 (.sc (.bool r)) []) [.code [1, 1]] [(0, .sl 110 (List.map Act.av l) f_l)] []) (Jr : ∀ w, res = .inr w → w = r) :
    ∀ (m : Nat) (i : Int) (H : podestaref04_Acts_l0 l m i = some res), AR Try.prog tab podestaref04_Acts_F c0 (Rp tab.S c0 (.sc (.bool r)) []) [.code [1, 0, 1, 0, 0], .loop [1, 0, 1, 0], .blk 0, .code [1, 1]] [(0, .sl 110 (List.map Act.av l) f_l), (3, .sc (.int .i64 i))] [] := by
  have hG := tab_ok
  have hm := mixed
  intro m
  induction m with
  | zero => intro i H; cases H
  | succ m ih =>
    intro i H
    rw [podestaref04_Acts_l0] at H
    refine AR.seg hG hm 3 [0, 3, 9] (k' := [.code [1, 0, 1, 0, 0, 0, 1], .code [1, 0, 1, 0, 0, 1], .loop [1, 0, 1, 0], .blk 0, .code [1, 1]]) (t' := [(0, .sl 110 (List.map Act.av l) f_l), (3, .sc (.int .i64 i)), (9, .sc (.bool (decide (i < (((List.map Act.av l).length : Nat) : Int)))))]) (h' := []) (by kernel_rfl) ?_
    refine AR.cond (.tmp 9) (decide (i < (((List.map Act.av l).length : Nat) : Int))) (by kernel_rfl) (by kernel_rfl) (fun hb => ?ht87) (fun hb => ?hf87)
    case ht87 =>
      replace H := cond_t hb H
      refine AR.seg hG hm 4 [0, 3] (k' := [.code [1, 0, 1, 0, 0, 1, 0, 0, 0], .code [1, 0, 1, 0, 0, 1, 0, 0, 1], .blk 1, .code [1, 0, 1, 0, 0, 1, 1], .loop [1, 0, 1, 0], .blk 0, .code [1, 1]]) (t' := [(0, .sl 110 (List.map Act.av l) f_l), (3, .sc (.int .i64 i))]) (h' := []) (by kernel_rfl) ?_
      refine AR.reg hm podestaref04_Acts_k0 (by kernel_rfl) ?_
      refine DK.seg hG 2 [0, 3, 12, 13] (t' := [(0, .sl 110 (List.map Act.av l) f_l), (3, .sc (.int .i64 i)), (12, .sl 110 (List.map Act.av l) f_l), (13, .sc (.int .i64 i))]) (h' := []) (by kernel_rfl) rfl ?_
      obtain ⟨x, hv, H⟩ := Option.bind_eq_some_iff.1 H
      refine DK.op' [0, 3, 14] (t' := [(0, .sl 110 (List.map Act.av l) f_l), (3, .sc (.int .i64 i)), (14, .ep [.sc (.int .i64 x.Kind), .sc (.int .i64 x.Port), .sc (.int .i64 x.Field), .sc (.int .u64 x.Value)] 0 none)]) (h' := []) (LSpec.index' (r := Act.av x) (fs := [.sc (.int .i64 x.Kind), .sc (.int .i64 x.Port), .sc (.int .i64 x.Field), .sc (.int .u64 x.Value)]) hG (rows := List.map Act.av l) (j := i) (by kernel_rfl) (ixO_map hv _) (by kernel_rfl)) (by kernel_rfl) rfl (by kernel_rfl) rfl ?_
      refine DK.seg hG 3 [0, 3, 4] (t' := [(0, .sl 110 (List.map Act.av l) f_l), (3, .sc (.int .i64 i)), (4, .ptr 0 0 none)]) (h' := [.box 110 [.sc (.int .i64 x.Kind), .sc (.int .i64 x.Port), .sc (.int .i64 x.Field), .sc (.int .u64 x.Value)]]) (by kernel_rfl) rfl ?_
      refine DK.done (by kernel_rfl) (by kernel_rfl) ?_
      refine AR.seg hG hm 8 [0, 3, 4, 5, 17, 18] (k' := [.code [1, 0, 1, 0, 0, 1, 0, 0, 1, 1, 0, 1, 0, 1], .blk 2, .code [1, 0, 1, 0, 0, 1, 0, 0, 1, 1, 1], .blk 1, .code [1, 0, 1, 0, 0, 1, 1], .loop [1, 0, 1, 0], .blk 0, .code [1, 1]]) (t' := [(0, .sl 110 (List.map Act.av l) f_l), (3, .sc (.int .i64 i)), (4, .ptr 0 0 none), (5, .sc (.bool false)), (17, .sc (.int .i64 x.Kind)), (18, .sc (.bool (x.Kind == 1)))]) (h' := [.box 110 [.sc (.int .i64 x.Kind), .sc (.int .i64 x.Port), .sc (.int .i64 x.Field), .sc (.int .u64 x.Value)]]) (by kernel_rfl) ?_
      refine AR.join (.tmp 18) (x.Kind == 1) (k' := [.blk 2, .code [1, 0, 1, 0, 0, 1, 0, 0, 1, 1, 1], .blk 1, .code [1, 0, 1, 0, 0, 1, 1], .loop [1, 0, 1, 0], .blk 0, .code [1, 1]]) (h' := [.box 110 [.sc (.int .i64 x.Kind), .sc (.int .i64 x.Port), .sc (.int .i64 x.Field), .sc (.int .u64 x.Value)]]) (by kernel_rfl) (by kernel_rfl) (fun z => [(0, .sl 110 (List.map Act.av l) f_l), (3, .sc (.int .i64 i)), (5, .sc (.bool (bif z then ((((decide (x.Port ≥ 1)) && (decide (x.Port ≤ 16))) && (x.Field == 0)) && (x.Value == 0)) else (bif (x.Kind == 2) then ((((x.Port == 0) && (decide (x.Field ≥ 0))) && (decide (x.Field < 12))) && (podestaref01_Fits x.Value (Size x.Field))) else ((x.Kind == 3) && (((x.Port == 0) && (x.Field == 0)) && (x.Value == 0)))))))]) ?J108 (fun hb J => ?ht108) (fun hb J => ?hf108)
      case ht108 =>
        refine AR.reg hm podestaref04_Acts_k1 (by kernel_rfl) ?_
        refine DK.seg hG 4 [0, 3, 4, 23] (t' := [(0, .sl 110 (List.map Act.av l) f_l), (3, .sc (.int .i64 i)), (4, .ptr 0 0 none), (23, .sc (.bool (decide (x.Port ≥ 1))))]) (h' := [.box 110 [.sc (.int .i64 x.Kind), .sc (.int .i64 x.Port), .sc (.int .i64 x.Field), .sc (.int .u64 x.Value)]]) (by kernel_rfl) rfl ?_
        refine DK.mux 23 (decide (x.Port ≥ 1)) (j := 8) (h' := [.box 110 [.sc (.int .i64 x.Kind), .sc (.int .i64 x.Port), .sc (.int .i64 x.Field), .sc (.int .u64 x.Value)]]) (by kernel_rfl) (fun z => [(0, .sl 110 (List.map Act.av l) f_l), (3, .sc (.int .i64 i)), (4, .ptr 0 0 none), (27, .sc (.bool (z && (decide (x.Port ≤ 16)))))]) ?J109 (fun hb J => ?ht109) (fun hb J => ?hf109)
        case ht109 =>
          exact DK.seg hG 4 [0, 3, 4, 27] (by kernel_rfl) rfl J
        case hf109 =>
          exact DK.seg hG 4 [0, 3, 4, 27] (by kernel_rfl) rfl J
        refine DK.seg hG 1 [0, 3, 4, 28] (t' := [(0, .sl 110 (List.map Act.av l) f_l), (3, .sc (.int .i64 i)), (4, .ptr 0 0 none), (28, .sc (.bool ((decide (x.Port ≥ 1)) && (decide (x.Port ≤ 16)))))]) (h' := [.box 110 [.sc (.int .i64 x.Kind), .sc (.int .i64 x.Port), .sc (.int .i64 x.Field), .sc (.int .u64 x.Value)]]) (by kernel_rfl) rfl ?_
        refine DK.mux 28 ((decide (x.Port ≥ 1)) && (decide (x.Port ≤ 16))) (j := 13) (h' := [.box 110 [.sc (.int .i64 x.Kind), .sc (.int .i64 x.Port), .sc (.int .i64 x.Field), .sc (.int .u64 x.Value)]]) (by kernel_rfl) (fun z => [(0, .sl 110 (List.map Act.av l) f_l), (3, .sc (.int .i64 i)), (4, .ptr 0 0 none), (32, .sc (.bool (z && (x.Field == 0))))]) ?J110 (fun hb J => ?ht110) (fun hb J => ?hf110)
        case ht110 =>
          exact DK.seg hG 4 [0, 3, 4, 32] (by kernel_rfl) rfl J
        case hf110 =>
          exact DK.seg hG 4 [0, 3, 4, 32] (by kernel_rfl) rfl J
        refine DK.seg hG 1 [0, 3, 4, 33] (t' := [(0, .sl 110 (List.map Act.av l) f_l), (3, .sc (.int .i64 i)), (4, .ptr 0 0 none), (33, .sc (.bool (((decide (x.Port ≥ 1)) && (decide (x.Port ≤ 16))) && (x.Field == 0))))]) (h' := [.box 110 [.sc (.int .i64 x.Kind), .sc (.int .i64 x.Port), .sc (.int .i64 x.Field), .sc (.int .u64 x.Value)]]) (by kernel_rfl) rfl ?_
        refine DK.mux 33 (((decide (x.Port ≥ 1)) && (decide (x.Port ≤ 16))) && (x.Field == 0)) (j := 18) (h' := [.box 110 [.sc (.int .i64 x.Kind), .sc (.int .i64 x.Port), .sc (.int .i64 x.Field), .sc (.int .u64 x.Value)]]) (by kernel_rfl) (fun z => [(0, .sl 110 (List.map Act.av l) f_l), (3, .sc (.int .i64 i)), (37, .sc (.bool (z && (x.Value == 0))))]) ?J111 (fun hb J => ?ht111) (fun hb J => ?hf111)
        case ht111 =>
          exact DK.seg hG 4 [0, 3, 37] (by kernel_rfl) rfl J
        case hf111 =>
          exact DK.seg hG 4 [0, 3, 37] (by kernel_rfl) rfl J
        refine DK.seg hG 1 [0, 3, 5] (t' := [(0, .sl 110 (List.map Act.av l) f_l), (3, .sc (.int .i64 i)), (5, .sc (.bool ((((decide (x.Port ≥ 1)) && (decide (x.Port ≤ 16))) && (x.Field == 0)) && (x.Value == 0))))]) (h' := [.box 110 [.sc (.int .i64 x.Kind), .sc (.int .i64 x.Port), .sc (.int .i64 x.Field), .sc (.int .u64 x.Value)]]) (by kernel_rfl) rfl ?_
        refine DK.done (by kernel_rfl) (by kernel_rfl) ?_
        exact AR.seg hG hm 0 [0, 3, 5] (by kernel_rfl) J
      case hf108 =>
        refine AR.seg hG hm 2 [0, 3, 4, 5, 17, 38] (k' := [.code [1, 0, 1, 0, 0, 1, 0, 0, 1, 1, 0, 1, 0, 1, 1, 1], .blk 2, .code [1, 0, 1, 0, 0, 1, 0, 0, 1, 1, 1], .blk 1, .code [1, 0, 1, 0, 0, 1, 1], .loop [1, 0, 1, 0], .blk 0, .code [1, 1]]) (t' := [(0, .sl 110 (List.map Act.av l) f_l), (3, .sc (.int .i64 i)), (4, .ptr 0 0 none), (5, .sc (.bool false)), (17, .sc (.int .i64 x.Kind)), (38, .sc (.bool (x.Kind == 2)))]) (h' := [.box 110 [.sc (.int .i64 x.Kind), .sc (.int .i64 x.Port), .sc (.int .i64 x.Field), .sc (.int .u64 x.Value)]]) (by kernel_rfl) ?_
        refine AR.join (.tmp 38) (x.Kind == 2) (k' := [.blk 2, .code [1, 0, 1, 0, 0, 1, 0, 0, 1, 1, 1], .blk 1, .code [1, 0, 1, 0, 0, 1, 1], .loop [1, 0, 1, 0], .blk 0, .code [1, 1]]) (h' := [.box 110 [.sc (.int .i64 x.Kind), .sc (.int .i64 x.Port), .sc (.int .i64 x.Field), .sc (.int .u64 x.Value)]]) (by kernel_rfl) (by kernel_rfl) (fun z => [(0, .sl 110 (List.map Act.av l) f_l), (3, .sc (.int .i64 i)), (5, .sc (.bool (bif z then ((((x.Port == 0) && (decide (x.Field ≥ 0))) && (decide (x.Field < 12))) && (podestaref01_Fits x.Value (Size x.Field))) else ((x.Kind == 3) && (((x.Port == 0) && (x.Field == 0)) && (x.Value == 0))))))]) ?J120 (fun hb J => ?ht120) (fun hb J => ?hf120)
        case ht120 =>
          refine AR.reg hm podestaref04_Acts_k2 (by kernel_rfl) ?_
          refine DK.seg hG 4 [0, 3, 4, 43] (t' := [(0, .sl 110 (List.map Act.av l) f_l), (3, .sc (.int .i64 i)), (4, .ptr 0 0 none), (43, .sc (.bool (x.Port == 0)))]) (h' := [.box 110 [.sc (.int .i64 x.Kind), .sc (.int .i64 x.Port), .sc (.int .i64 x.Field), .sc (.int .u64 x.Value)]]) (by kernel_rfl) rfl ?_
          refine DK.mux 43 (x.Port == 0) (j := 8) (h' := [.box 110 [.sc (.int .i64 x.Kind), .sc (.int .i64 x.Port), .sc (.int .i64 x.Field), .sc (.int .u64 x.Value)]]) (by kernel_rfl) (fun z => [(0, .sl 110 (List.map Act.av l) f_l), (3, .sc (.int .i64 i)), (4, .ptr 0 0 none), (47, .sc (.bool (z && (decide (x.Field ≥ 0)))))]) ?J121 (fun hb J => ?ht121) (fun hb J => ?hf121)
          case ht121 =>
            exact DK.seg hG 4 [0, 3, 4, 47] (by kernel_rfl) rfl J
          case hf121 =>
            exact DK.seg hG 4 [0, 3, 4, 47] (by kernel_rfl) rfl J
          refine DK.seg hG 1 [0, 3, 4, 48] (t' := [(0, .sl 110 (List.map Act.av l) f_l), (3, .sc (.int .i64 i)), (4, .ptr 0 0 none), (48, .sc (.bool ((x.Port == 0) && (decide (x.Field ≥ 0)))))]) (h' := [.box 110 [.sc (.int .i64 x.Kind), .sc (.int .i64 x.Port), .sc (.int .i64 x.Field), .sc (.int .u64 x.Value)]]) (by kernel_rfl) rfl ?_
          refine DK.mux 48 ((x.Port == 0) && (decide (x.Field ≥ 0))) (j := 13) (h' := [.box 110 [.sc (.int .i64 x.Kind), .sc (.int .i64 x.Port), .sc (.int .i64 x.Field), .sc (.int .u64 x.Value)]]) (by kernel_rfl) (fun z => [(0, .sl 110 (List.map Act.av l) f_l), (3, .sc (.int .i64 i)), (4, .ptr 0 0 none), (52, .sc (.bool (z && (decide (x.Field < 12)))))]) ?J122 (fun hb J => ?ht122) (fun hb J => ?hf122)
          case ht122 =>
            exact DK.seg hG 4 [0, 3, 4, 52] (by kernel_rfl) rfl J
          case hf122 =>
            exact DK.seg hG 4 [0, 3, 4, 52] (by kernel_rfl) rfl J
          refine DK.seg hG 1 [0, 3, 4, 53] (t' := [(0, .sl 110 (List.map Act.av l) f_l), (3, .sc (.int .i64 i)), (4, .ptr 0 0 none), (53, .sc (.bool (((x.Port == 0) && (decide (x.Field ≥ 0))) && (decide (x.Field < 12)))))]) (h' := [.box 110 [.sc (.int .i64 x.Kind), .sc (.int .i64 x.Port), .sc (.int .i64 x.Field), .sc (.int .u64 x.Value)]]) (by kernel_rfl) rfl ?_
          refine DK.mux 53 (((x.Port == 0) && (decide (x.Field ≥ 0))) && (decide (x.Field < 12))) (j := 21) (h' := [.box 110 [.sc (.int .i64 x.Kind), .sc (.int .i64 x.Port), .sc (.int .i64 x.Field), .sc (.int .u64 x.Value)]]) (by kernel_rfl) (fun z => [(0, .sl 110 (List.map Act.av l) f_l), (3, .sc (.int .i64 i)), (60, .sc (.bool (z && (podestaref01_Fits x.Value (Size x.Field)))))]) ?J123 (fun hb J => ?ht123) (fun hb J => ?hf123)
          case ht123 =>
            refine DK.seg hG 4 [0, 3, 53, 55, 57] (t' := [(0, .sl 110 (List.map Act.av l) f_l), (3, .sc (.int .i64 i)), (53, .sc (.bool true)), (55, .sc (.int .u64 x.Value)), (57, .sc (.int .i64 x.Field))]) (h' := [.box 110 [.sc (.int .i64 x.Kind), .sc (.int .i64 x.Port), .sc (.int .i64 x.Field), .sc (.int .u64 x.Value)]]) (by kernel_rfl) rfl ?_
            refine DK.op' [0, 3, 53, 55, 58] (t' := [(0, .sl 110 (List.map Act.av l) f_l), (3, .sc (.int .i64 i)), (53, .sc (.bool true)), (55, .sc (.int .u64 x.Value)), (58, .sc (.int .i64 (Size x.Field)))]) (h' := [.box 110 [.sc (.int .i64 x.Kind), .sc (.int .i64 x.Port), .sc (.int .i64 x.Field), .sc (.int .u64 x.Value)]]) (LSpec.callP' (Size_calls x.Field) (by kernel_rfl)) (by kernel_rfl) rfl (by kernel_rfl) rfl ?_
            refine DK.op' [0, 3, 53, 59] (t' := [(0, .sl 110 (List.map Act.av l) f_l), (3, .sc (.int .i64 i)), (53, .sc (.bool true)), (59, .sc (.bool (podestaref01_Fits x.Value (Size x.Field))))]) (h' := [.box 110 [.sc (.int .i64 x.Kind), .sc (.int .i64 x.Port), .sc (.int .i64 x.Field), .sc (.int .u64 x.Value)]]) (LSpec.callP' (podestaref01_Fits_calls x.Value (Size x.Field)) (by kernel_rfl)) (by kernel_rfl) rfl (by kernel_rfl) rfl ?_
            exact DK.seg hG 1 [0, 3, 60] (by kernel_rfl) rfl J
          case hf123 =>
            exact DK.seg hG 7 [0, 3, 60] (by kernel_rfl) rfl J
          refine DK.seg hG 1 [0, 3, 5] (t' := [(0, .sl 110 (List.map Act.av l) f_l), (3, .sc (.int .i64 i)), (5, .sc (.bool ((((x.Port == 0) && (decide (x.Field ≥ 0))) && (decide (x.Field < 12))) && (podestaref01_Fits x.Value (Size x.Field)))))]) (h' := [.box 110 [.sc (.int .i64 x.Kind), .sc (.int .i64 x.Port), .sc (.int .i64 x.Field), .sc (.int .u64 x.Value)]]) (by kernel_rfl) rfl ?_
          refine DK.done (by kernel_rfl) (by kernel_rfl) ?_
          exact AR.seg hG hm 0 [0, 3, 5] (by kernel_rfl) J
        case hf120 =>
          refine AR.seg hG hm 2 [0, 3, 4, 5, 61] (k' := [.code [1, 0, 1, 0, 0, 1, 0, 0, 1, 1, 0, 1, 0, 1, 1, 1, 1, 1], .blk 2, .code [1, 0, 1, 0, 0, 1, 0, 0, 1, 1, 1], .blk 1, .code [1, 0, 1, 0, 0, 1, 1], .loop [1, 0, 1, 0], .blk 0, .code [1, 1]]) (t' := [(0, .sl 110 (List.map Act.av l) f_l), (3, .sc (.int .i64 i)), (4, .ptr 0 0 none), (5, .sc (.bool false)), (61, .sc (.bool (x.Kind == 3)))]) (h' := [.box 110 [.sc (.int .i64 x.Kind), .sc (.int .i64 x.Port), .sc (.int .i64 x.Field), .sc (.int .u64 x.Value)]]) (by kernel_rfl) ?_
          refine AR.join (.tmp 61) (x.Kind == 3) (k' := [.blk 2, .code [1, 0, 1, 0, 0, 1, 0, 0, 1, 1, 1], .blk 1, .code [1, 0, 1, 0, 0, 1, 1], .loop [1, 0, 1, 0], .blk 0, .code [1, 1]]) (h' := [.box 110 [.sc (.int .i64 x.Kind), .sc (.int .i64 x.Port), .sc (.int .i64 x.Field), .sc (.int .u64 x.Value)]]) (by kernel_rfl) (by kernel_rfl) (fun z => [(0, .sl 110 (List.map Act.av l) f_l), (3, .sc (.int .i64 i)), (5, .sc (.bool (z && (((x.Port == 0) && (x.Field == 0)) && (x.Value == 0)))))]) ?J126 (fun hb J => ?ht126) (fun hb J => ?hf126)
          case ht126 =>
            refine AR.reg hm podestaref04_Acts_k3 (by kernel_rfl) ?_
            refine DK.seg hG 4 [0, 3, 4, 66] (t' := [(0, .sl 110 (List.map Act.av l) f_l), (3, .sc (.int .i64 i)), (4, .ptr 0 0 none), (66, .sc (.bool (x.Port == 0)))]) (h' := [.box 110 [.sc (.int .i64 x.Kind), .sc (.int .i64 x.Port), .sc (.int .i64 x.Field), .sc (.int .u64 x.Value)]]) (by kernel_rfl) rfl ?_
            refine DK.mux 66 (x.Port == 0) (j := 8) (h' := [.box 110 [.sc (.int .i64 x.Kind), .sc (.int .i64 x.Port), .sc (.int .i64 x.Field), .sc (.int .u64 x.Value)]]) (by kernel_rfl) (fun z => [(0, .sl 110 (List.map Act.av l) f_l), (3, .sc (.int .i64 i)), (4, .ptr 0 0 none), (70, .sc (.bool (z && (x.Field == 0))))]) ?J127 (fun hb J => ?ht127) (fun hb J => ?hf127)
            case ht127 =>
              exact DK.seg hG 4 [0, 3, 4, 70] (by kernel_rfl) rfl J
            case hf127 =>
              exact DK.seg hG 4 [0, 3, 4, 70] (by kernel_rfl) rfl J
            refine DK.seg hG 1 [0, 3, 4, 71] (t' := [(0, .sl 110 (List.map Act.av l) f_l), (3, .sc (.int .i64 i)), (4, .ptr 0 0 none), (71, .sc (.bool ((x.Port == 0) && (x.Field == 0))))]) (h' := [.box 110 [.sc (.int .i64 x.Kind), .sc (.int .i64 x.Port), .sc (.int .i64 x.Field), .sc (.int .u64 x.Value)]]) (by kernel_rfl) rfl ?_
            refine DK.mux 71 ((x.Port == 0) && (x.Field == 0)) (j := 13) (h' := [.box 110 [.sc (.int .i64 x.Kind), .sc (.int .i64 x.Port), .sc (.int .i64 x.Field), .sc (.int .u64 x.Value)]]) (by kernel_rfl) (fun z => [(0, .sl 110 (List.map Act.av l) f_l), (3, .sc (.int .i64 i)), (75, .sc (.bool (z && (x.Value == 0))))]) ?J128 (fun hb J => ?ht128) (fun hb J => ?hf128)
            case ht128 =>
              exact DK.seg hG 4 [0, 3, 75] (by kernel_rfl) rfl J
            case hf128 =>
              exact DK.seg hG 4 [0, 3, 75] (by kernel_rfl) rfl J
            refine DK.seg hG 1 [0, 3, 5] (t' := [(0, .sl 110 (List.map Act.av l) f_l), (3, .sc (.int .i64 i)), (5, .sc (.bool (((x.Port == 0) && (x.Field == 0)) && (x.Value == 0))))]) (h' := [.box 110 [.sc (.int .i64 x.Kind), .sc (.int .i64 x.Port), .sc (.int .i64 x.Field), .sc (.int .u64 x.Value)]]) (by kernel_rfl) rfl ?_
            refine DK.done (by kernel_rfl) (by kernel_rfl) ?_
            exact AR.seg hG hm 0 [0, 3, 5] (by kernel_rfl) J
          case hf126 =>
            exact AR.seg hG hm 1 [0, 3, 5] (by kernel_rfl) J
          exact AR.seg hG hm 0 [0, 3, 5] (by kernel_rfl) J
        exact AR.seg hG hm 0 [0, 3, 5] (by kernel_rfl) J
      refine AR.seg hG hm 3 [0, 3, 77] (k' := [.code [1, 0, 1, 0, 0, 1, 0, 0, 1, 1, 1, 1], .blk 1, .code [1, 0, 1, 0, 0, 1, 1], .loop [1, 0, 1, 0], .blk 0, .code [1, 1]]) (t' := [(0, .sl 110 (List.map Act.av l) f_l), (3, .sc (.int .i64 i)), (77, .sc (.bool (!(bif (x.Kind == 1) then ((((decide (x.Port ≥ 1)) && (decide (x.Port ≤ 16))) && (x.Field == 0)) && (x.Value == 0)) else (bif (x.Kind == 2) then ((((x.Port == 0) && (decide (x.Field ≥ 0))) && (decide (x.Field < 12))) && (podestaref01_Fits x.Value (Size x.Field))) else ((x.Kind == 3) && (((x.Port == 0) && (x.Field == 0)) && (x.Value == 0))))))))]) (h' := [.box 110 [.sc (.int .i64 x.Kind), .sc (.int .i64 x.Port), .sc (.int .i64 x.Field), .sc (.int .u64 x.Value)]]) (by kernel_rfl) ?_
      refine AR.cond (.tmp 77) (!(bif (x.Kind == 1) then ((((decide (x.Port ≥ 1)) && (decide (x.Port ≤ 16))) && (x.Field == 0)) && (x.Value == 0)) else (bif (x.Kind == 2) then ((((x.Port == 0) && (decide (x.Field ≥ 0))) && (decide (x.Field < 12))) && (podestaref01_Fits x.Value (Size x.Field))) else ((x.Kind == 3) && (((x.Port == 0) && (x.Field == 0)) && (x.Value == 0)))))) (by kernel_rfl) (by kernel_rfl) (fun hb => ?ht129) (fun hb => ?hf129)
      case ht129 =>
        replace H := cond_t hb H
        refine AR.seg hG hm 2 [2] (k' := [.code [1, 0, 1, 0, 0, 1, 0, 0, 1, 1, 1, 1, 0, 1], .blk 1, .code [1, 0, 1, 0, 0, 1, 1], .loop [1, 0, 1, 0], .blk 0, .code [1, 1]]) (t' := [(2, .sc (.bool false))]) (h' := [.box 110 [.sc (.int .i64 x.Kind), .sc (.int .i64 x.Port), .sc (.int .i64 x.Field), .sc (.int .u64 x.Value)]]) (by kernel_rfl) ?_
        obtain rfl := Option.some.inj H
        obtain rfl := Jr _ rfl
        exact AR.ret0 (fn := Try.f62) hG Try.func62 (by kernel_rfl) hc0 (r0 := .sc (.bool false)) (by kernel_rfl) (WkV.refl _)
      case hf129 =>
        replace H := cond_f hb H
        refine AR.seg hG hm 3 [0, 3] (k' := [.loop [1, 0, 1, 0], .blk 0, .code [1, 1]]) (t' := [(0, .sl 110 (List.map Act.av l) f_l), (3, .sc (.int .i64 (IntKind.i64.wrap (i + 1))))]) (h' := [.box 110 [.sc (.int .i64 x.Kind), .sc (.int .i64 x.Port), .sc (.int .i64 x.Field), .sc (.int .u64 x.Value)]]) (by kernel_rfl) ?_
        refine AR.keep [0, 3] (t' := [(0, .sl 110 (List.map Act.av l) f_l), (3, .sc (.int .i64 (IntKind.i64.wrap (i + 1))))]) (by kernel_rfl) ?_
        refine AR.drop' 0 hc0 (t' := [(0, .sl 110 (List.map Act.av l) f_l), (3, .sc (.int .i64 (IntKind.i64.wrap (i + 1))))]) (h' := []) (by kernel_rfl) ?_
        refine AR.loop_round ?_
        exact ih (IntKind.i64.wrap (i + 1)) H
    case hf87 =>
      replace H := cond_f hb H
      refine AR.seg hG hm 1 [0] (k' := [.code [1, 1]]) (t' := [(0, .sl 110 (List.map Act.av l) f_l)]) (h' := []) (by kernel_rfl) ?_
      refine AR.keep [0] (t' := [(0, .sl 110 (List.map Act.av l) f_l)]) (by kernel_rfl) ?_
      exact J () (Option.some.inj H).symm
def podestaref04_Acts_raw (q0 : Nat) (l : List Act) : Option (Bool) :=
  loopO (podestaref04_Acts_l0 l q0 0) fun v =>
  some (decide ((((List.map Act.av l).length : Nat) : Int) ≤ 8))
theorem podestaref04_Acts_walk (q0 : Nat) (l : List Act) (f_l : Bool) (r : Bool) (H : podestaref04_Acts_raw q0 l = some r) :
    ACalls Try.prog tab.S 62 [.sl 110 (List.map Act.av l) f_l] [] (.sc (.bool r)) [] := by
  have hG := tab_ok
  have hm := mixed
  refine ACalls.of_AR (G := tab) podestaref04_Acts_F (fn := Try.f62) Try.func62 (by kernel_rfl) (by kernel_rfl) (by kernel_rfl) (Nat.le_of_ble_eq_true (by kernel_rfl)) ?_
  intro c0 hc0
  replace hc0 : c0.m.length = 0 := hc0
  rw [podestaref04_Acts_raw] at H
  refine AR.seg hG hm 6 [0, 3] (k' := [.code [1, 0, 1, 0], .blk 0, .code [1, 1]]) (t' := [(0, .sl 110 (List.map Act.av l) f_l), (3, .sc (.int .i64 0))]) (h' := []) (by kernel_rfl) ?_
  rcases loopO_some H with ⟨v, hv, H⟩ | hv
  case inr =>
    refine AR.into (by kernel_rfl) ?_
    exact podestaref04_Acts_l0_walk q0 l f_l r c0 hc0 (.inr r) (fun _ e => by cases e) (fun _ e => (Sum.inr.inj e).symm) q0 0 hv
  refine AR.into (by kernel_rfl) ?_
  refine podestaref04_Acts_l0_walk q0 l f_l r c0 hc0 (.inl v) (fun w e => ?_) (fun _ e => by cases e) q0 0 hv
  have e := Sum.inl.inj e
  subst e
  refine AR.seg hG hm 2 [2] (k' := [.code [1, 1, 1]]) (t' := [(2, .sc (.bool (decide ((((List.map Act.av l).length : Nat) : Int) ≤ 8))))]) (h' := []) (by kernel_rfl) ?_
  obtain rfl := Option.some.inj H
  exact AR.ret0 (fn := Try.f62) hG Try.func62 (by kernel_rfl) hc0 (r0 := .sc (.bool (decide ((((List.map Act.av l).length : Nat) : Int) ≤ 8)))) (by kernel_rfl) (WkV.refl _)

end Go.Proofs.Ytjchejmakdkioaa
