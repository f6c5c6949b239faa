import Derived.Test.YtjchejmakdkioaaTab
import Derived.Test.YtjchejmakdkioaaShT
set_option linter.unusedVariables false
set_option maxRecDepth 100000
set_option maxHeartbeats 4000000
namespace Go.Proofs.Ytjchejmakdkioaa
open Go.Sh
structure Act where
  Kind : Int
  Port : Int
  Field : Int
  Value : Int
  deriving DecidableEq, Inhabited
def Act.av (r : Act) : AV := .agg [.sc (.int .i64 r.Kind), .sc (.int .i64 r.Port), .sc (.int .i64 r.Field), .sc (.int .u64 r.Value)]
structure Cube where
  Value : List Int
  Care : List Int
  deriving DecidableEq, Inhabited
def Cube.av (r : Cube) : AV := .agg [.arr .u64 12 r.Value, .arr .u64 12 r.Care]
structure Rule where
  Match : Cube
  Prio : Int
  Acts : List Act
  Idle : Int
  Hard : Int
  Owner : Int
  Hits : Int
  Quiet : Int
  Age : Int
  deriving DecidableEq, Inhabited
def Rule.av (r : Rule) : AV := .agg [.arr .u64 12 r.Match.Value, .arr .u64 12 r.Match.Care, .sc (.int .i64 r.Prio), .sl 110 (List.map Act.av r.Acts) false, .sc (.int .i64 r.Idle), .sc (.int .i64 r.Hard), .sc (.int .i64 r.Owner), .sc (.int .i64 r.Hits), .sc (.int .i64 r.Quiet), .sc (.int .i64 r.Age)]

/-! ### lapse.more: function 48 -/
noncomputable def lapse_more_F : Go.Sh.Fn := ⟨48, bodyOf Try.f48, 14⟩
def lapse_more (a : Int) (n : Int) : Int :=
  (bif (decide (a ≥ (IntKind.i64.wrap (4611686018427387904 - n)))) then
    (if 4611686018427387904 > a then 4611686018427387904 else a)
  else
    (IntKind.i64.wrap (a + n)))
theorem lapse_more_walk (a : Int) (n : Int) (r : Int) (H : lapse_more a n = r) :
    ACalls Try.prog tab.S 48 [.sc (.int .i64 a), .sc (.int .i64 n)] [] (.sc (.int .i64 r)) [] := by
  have hG := tab_ok
  have hm := mixed
  refine ACalls.of_AR (G := tab) lapse_more_F (fn := Try.f48) Try.func48 (by kernel_rfl) (by kernel_rfl) (by kernel_rfl) (Nat.le_of_ble_eq_true (by kernel_rfl)) ?_
  intro c0 hc0
  replace hc0 : c0.m.length = 0 := hc0
  rw [lapse_more] at H
  refine AR.seg hG hm 5 [0, 1, 8] (k' := [.code [1, 0, 1], .code [1, 1]]) (t' := [(0, .sc (.int .i64 a)), (1, .sc (.int .i64 n)), (8, .sc (.bool (decide (a ≥ (IntKind.i64.wrap (4611686018427387904 - n))))))]) (h' := []) (by kernel_rfl) ?_
  refine AR.cond (.tmp 8) (decide (a ≥ (IntKind.i64.wrap (4611686018427387904 - n)))) (by kernel_rfl) (by kernel_rfl) (fun hb => ?ht1) (fun hb => ?hf1)
  case ht1 =>
    replace H := cond_t hb H
    refine AR.seg hG hm 2 [4] (k' := [.code [1, 0, 1, 0, 1], .code [1, 1]]) (t' := [(4, .sc (.int .i64 (if 4611686018427387904 > a then 4611686018427387904 else a)))]) (h' := []) (by kernel_rfl) ?_
    subst H
    exact AR.ret0 (fn := Try.f48) hG Try.func48 (by kernel_rfl) hc0 (r0 := .sc (.int .i64 (if 4611686018427387904 > a then 4611686018427387904 else a))) (by kernel_rfl) (WkV.refl _)
  case hf1 =>
    replace H := cond_f hb H
    refine AR.seg hG hm 3 [4] (k' := [.code [1, 1, 1]]) (t' := [(4, .sc (.int .i64 (IntKind.i64.wrap (a + n))))]) (h' := []) (by kernel_rfl) ?_
    subst H
    exact AR.ret0 (fn := Try.f48) hG Try.func48 (by kernel_rfl) hc0 (r0 := .sc (.int .i64 (IntKind.i64.wrap (a + n)))) (by kernel_rfl) (WkV.refl _)
theorem lapse_more_calls (a : Int) (n : Int) : ACalls Try.prog tab.S 48 [.sc (.int .i64 a), .sc (.int .i64 n)] [] (.sc (.int .i64 (lapse_more a n))) [] := lapse_more_walk a n _ rfl

/-! ### lapse.over: function 49 -/
noncomputable def lapse_over_F : Go.Sh.Fn := ⟨49, bodyOf Try.f49, 25⟩
def lapse_over_k0 : List Kd := [.pure, .read, .pure, .pure, .pure, .read, .pure, .read, .pure, .pure, .pure, .pure, .read, .pure, .pure, .pure, .read, .pure, .read, .pure, .pure, .pure, .pure]
def lapse_over (r2 : Rule) : Bool :=
  (((decide (r2.Hard > 0)) && (decide (r2.Age ≥ r2.Hard))) || ((decide (r2.Idle > 0)) && (decide (r2.Quiet ≥ r2.Idle))))
theorem lapse_over_walk (r2 : Rule) (r : Bool) (H : lapse_over r2 = r) :
    ACalls Try.prog tab.S 49 [Rule.av r2] [] (.sc (.bool r)) [] := by
  have hG := tab_ok
  have hm := mixed
  refine ACalls.of_AR (G := tab) lapse_over_F (fn := Try.f49) Try.func49 (by kernel_rfl) (by kernel_rfl) (by kernel_rfl) (Nat.le_of_ble_eq_true (by kernel_rfl)) ?_
  intro c0 hc0
  replace hc0 : c0.m.length = 0 := hc0
  rw [lapse_over] at H
  refine AR.seg hG hm 3 [1] (k' := [.code [1, 0], .code [1, 1]]) (t' := [(1, .ptr 0 0 none)]) (h' := [.box 66 [.arr .u64 12 r2.Match.Value, .arr .u64 12 r2.Match.Care, .sc (.int .i64 r2.Prio), .sl 110 (List.map Act.av r2.Acts) false, .sc (.int .i64 r2.Idle), .sc (.int .i64 r2.Hard), .sc (.int .i64 r2.Owner), .sc (.int .i64 r2.Hits), .sc (.int .i64 r2.Quiet), .sc (.int .i64 r2.Age)]]) (by kernel_rfl) ?_
  refine AR.reg hm lapse_over_k0 (by kernel_rfl) ?_
  refine DK.seg hG 4 [1, 6] (t' := [(1, .ptr 0 0 none), (6, .sc (.bool (decide (r2.Hard > 0))))]) (h' := [.box 66 [.arr .u64 12 r2.Match.Value, .arr .u64 12 r2.Match.Care, .sc (.int .i64 r2.Prio), .sl 110 (List.map Act.av r2.Acts) false, .sc (.int .i64 r2.Idle), .sc (.int .i64 r2.Hard), .sc (.int .i64 r2.Owner), .sc (.int .i64 r2.Hits), .sc (.int .i64 r2.Quiet), .sc (.int .i64 r2.Age)]]) (by kernel_rfl) rfl ?_
  refine DK.mux 6 (decide (r2.Hard > 0)) (j := 10) (h' := [.box 66 [.arr .u64 12 r2.Match.Value, .arr .u64 12 r2.Match.Care, .sc (.int .i64 r2.Prio), .sl 110 (List.map Act.av r2.Acts) false, .sc (.int .i64 r2.Idle), .sc (.int .i64 r2.Hard), .sc (.int .i64 r2.Owner), .sc (.int .i64 r2.Hits), .sc (.int .i64 r2.Quiet), .sc (.int .i64 r2.Age)]]) (by kernel_rfl) (fun z => [(1, .ptr 0 0 none), (12, .sc (.bool (z && (decide (r2.Age ≥ r2.Hard)))))]) ?J1 (fun hb J => ?ht1) (fun hb J => ?hf1)
  case ht1 =>
    exact DK.seg hG 6 [1, 12] (by kernel_rfl) rfl J
  case hf1 =>
    exact DK.seg hG 6 [1, 12] (by kernel_rfl) rfl J
  refine DK.seg hG 1 [1, 13] (t' := [(1, .ptr 0 0 none), (13, .sc (.bool ((decide (r2.Hard > 0)) && (decide (r2.Age ≥ r2.Hard)))))]) (h' := [.box 66 [.arr .u64 12 r2.Match.Value, .arr .u64 12 r2.Match.Care, .sc (.int .i64 r2.Prio), .sl 110 (List.map Act.av r2.Acts) false, .sc (.int .i64 r2.Idle), .sc (.int .i64 r2.Hard), .sc (.int .i64 r2.Owner), .sc (.int .i64 r2.Hits), .sc (.int .i64 r2.Quiet), .sc (.int .i64 r2.Age)]]) (by kernel_rfl) rfl ?_
  refine DK.mux 13 ((decide (r2.Hard > 0)) && (decide (r2.Age ≥ r2.Hard))) (j := 22) (h' := [.box 66 [.arr .u64 12 r2.Match.Value, .arr .u64 12 r2.Match.Care, .sc (.int .i64 r2.Prio), .sl 110 (List.map Act.av r2.Acts) false, .sc (.int .i64 r2.Idle), .sc (.int .i64 r2.Hard), .sc (.int .i64 r2.Owner), .sc (.int .i64 r2.Hits), .sc (.int .i64 r2.Quiet), .sc (.int .i64 r2.Age)]]) (by kernel_rfl) (fun z => [(24, .sc (.bool (z || ((decide (r2.Idle > 0)) && (decide (r2.Quiet ≥ r2.Idle))))))]) ?J3 (fun hb J => ?ht3) (fun hb J => ?hf3)
  case ht3 =>
    exact DK.seg hG 11 [24] (by kernel_rfl) rfl J
  case hf3 =>
    refine DK.seg hG 4 [1, 13, 17] (t' := [(1, .ptr 0 0 none), (13, .sc (.bool false)), (17, .sc (.bool (decide (r2.Idle > 0))))]) (h' := [.box 66 [.arr .u64 12 r2.Match.Value, .arr .u64 12 r2.Match.Care, .sc (.int .i64 r2.Prio), .sl 110 (List.map Act.av r2.Acts) false, .sc (.int .i64 r2.Idle), .sc (.int .i64 r2.Hard), .sc (.int .i64 r2.Owner), .sc (.int .i64 r2.Hits), .sc (.int .i64 r2.Quiet), .sc (.int .i64 r2.Age)]]) (by kernel_rfl) rfl ?_
    refine DK.mux 17 (decide (r2.Idle > 0)) (j := 21) (h' := [.box 66 [.arr .u64 12 r2.Match.Value, .arr .u64 12 r2.Match.Care, .sc (.int .i64 r2.Prio), .sl 110 (List.map Act.av r2.Acts) false, .sc (.int .i64 r2.Idle), .sc (.int .i64 r2.Hard), .sc (.int .i64 r2.Owner), .sc (.int .i64 r2.Hits), .sc (.int .i64 r2.Quiet), .sc (.int .i64 r2.Age)]]) (by kernel_rfl) (fun z => [(13, .sc (.bool false)), (23, .sc (.bool (z && (decide (r2.Quiet ≥ r2.Idle)))))]) ?J4 (fun hb J => ?ht4) (fun hb J => ?hf4)
    case ht4 =>
      exact DK.seg hG 6 [13, 23] (by kernel_rfl) rfl J
    case hf4 =>
      exact DK.seg hG 6 [13, 23] (by kernel_rfl) rfl J
    exact DK.seg hG 1 [24] (by kernel_rfl) rfl J
  refine DK.seg hG 1 [2] (t' := [(2, .sc (.bool (((decide (r2.Hard > 0)) && (decide (r2.Age ≥ r2.Hard))) || ((decide (r2.Idle > 0)) && (decide (r2.Quiet ≥ r2.Idle))))))]) (h' := [.box 66 [.arr .u64 12 r2.Match.Value, .arr .u64 12 r2.Match.Care, .sc (.int .i64 r2.Prio), .sl 110 (List.map Act.av r2.Acts) false, .sc (.int .i64 r2.Idle), .sc (.int .i64 r2.Hard), .sc (.int .i64 r2.Owner), .sc (.int .i64 r2.Hits), .sc (.int .i64 r2.Quiet), .sc (.int .i64 r2.Age)]]) (by kernel_rfl) rfl ?_
  refine DK.done (by kernel_rfl) (by kernel_rfl) ?_
  subst H
  exact AR.ret0 (fn := Try.f49) hG Try.func49 (by kernel_rfl) hc0 (r0 := .sc (.bool (((decide (r2.Hard > 0)) && (decide (r2.Age ≥ r2.Hard))) || ((decide (r2.Idle > 0)) && (decide (r2.Quiet ≥ r2.Idle)))))) (by kernel_rfl) (WkV.refl _)
theorem lapse_over_calls (r2 : Rule) : ACalls Try.prog tab.S 49 [Rule.av r2] [] (.sc (.bool (lapse_over r2))) [] := lapse_over_walk r2 _ rfl

/-! ### podestaref04.more: function 50 -/
noncomputable def podestaref04_more_F : Go.Sh.Fn := ⟨50, bodyOf Try.f50, 19⟩
def podestaref04_more_k0 : List Kd := [.pure, .pure, .pure, .pure, .pure, .pure, .pure, .pure]
def podestaref04_more (a : Int) (n : Int) : Int :=
  (bif ((decide (a > 4611686018427387904)) || (decide (a > (IntKind.i64.wrap (4611686018427387904 - n))))) then
    (bif (decide (a > 4611686018427387904)) then
      a
    else
      4611686018427387904)
  else
    (IntKind.i64.wrap (a + n)))
theorem podestaref04_more_walk (a : Int) (n : Int) (r : Int) (H : podestaref04_more a n = r) :
    ACalls Try.prog tab.S 50 [.sc (.int .i64 a), .sc (.int .i64 n)] [] (.sc (.int .i64 r)) [] := by
  have hG := tab_ok
  have hm := mixed
  refine ACalls.of_AR (G := tab) podestaref04_more_F (fn := Try.f50) Try.func50 (by kernel_rfl) (by kernel_rfl) (by kernel_rfl) (Nat.le_of_ble_eq_true (by kernel_rfl)) ?_
  intro c0 hc0
  replace hc0 : c0.m.length = 0 := hc0
  rw [podestaref04_more] at H
  refine AR.seg hG hm 4 [0, 1] (k' := [.code [1, 0, 0], .code [1, 0, 1], .code [1, 1]]) (t' := [(0, .sc (.int .i64 a)), (1, .sc (.int .i64 n))]) (h' := []) (by kernel_rfl) ?_
  refine AR.reg hm podestaref04_more_k0 (by kernel_rfl) ?_
  refine DK.seg hG 3 [0, 1, 7] (t' := [(0, .sc (.int .i64 a)), (1, .sc (.int .i64 n)), (7, .sc (.bool (decide (a > 4611686018427387904))))]) (h' := []) (by kernel_rfl) rfl ?_
  refine DK.mux 7 (decide (a > 4611686018427387904)) (j := 8) (h' := []) (by kernel_rfl) (fun z => [(0, .sc (.int .i64 a)), (1, .sc (.int .i64 n)), (12, .sc (.bool (z || (decide (a > (IntKind.i64.wrap (4611686018427387904 - n)))))))]) ?J1 (fun hb J => ?ht1) (fun hb J => ?hf1)
  case ht1 =>
    exact DK.seg hG 5 [0, 1, 12] (by kernel_rfl) rfl J
  case hf1 =>
    exact DK.seg hG 5 [0, 1, 12] (by kernel_rfl) rfl J
  refine DK.done (by kernel_rfl) (by kernel_rfl) ?_
  refine AR.cond (.tmp 12) ((decide (a > 4611686018427387904)) || (decide (a > (IntKind.i64.wrap (4611686018427387904 - n))))) (by kernel_rfl) (by kernel_rfl) (fun hb => ?ht3) (fun hb => ?hf3)
  case ht3 =>
    replace H := cond_t hb H
    refine AR.seg hG hm 3 [0, 14] (k' := [.code [1, 0, 1, 0, 0, 1], .code [1, 0, 1, 0, 1], .code [1, 1]]) (t' := [(0, .sc (.int .i64 a)), (14, .sc (.bool (decide (a > 4611686018427387904))))]) (h' := []) (by kernel_rfl) ?_
    refine AR.cond (.tmp 14) (decide (a > 4611686018427387904)) (by kernel_rfl) (by kernel_rfl) (fun hb => ?ht4) (fun hb => ?hf4)
    case ht4 =>
      replace H := cond_t hb H
      refine AR.seg hG hm 2 [4] (k' := [.code [1, 0, 1, 0, 0, 1, 0, 1], .code [1, 0, 1, 0, 1], .code [1, 1]]) (t' := [(4, .sc (.int .i64 a))]) (h' := []) (by kernel_rfl) ?_
      subst H
      exact AR.ret0 (fn := Try.f50) hG Try.func50 (by kernel_rfl) hc0 (r0 := .sc (.int .i64 a)) (by kernel_rfl) (WkV.refl _)
    case hf4 =>
      replace H := cond_f hb H
      refine AR.seg hG hm 3 [4] (k' := [.code [1, 0, 1, 0, 1, 1], .code [1, 1]]) (t' := [(4, .sc (.int .i64 4611686018427387904))]) (h' := []) (by kernel_rfl) ?_
      subst H
      exact AR.ret0 (fn := Try.f50) hG Try.func50 (by kernel_rfl) hc0 (r0 := .sc (.int .i64 4611686018427387904)) (by kernel_rfl) (WkV.refl _)
  case hf3 =>
    replace H := cond_f hb H
    refine AR.seg hG hm 3 [4] (k' := [.code [1, 1, 1]]) (t' := [(4, .sc (.int .i64 (IntKind.i64.wrap (a + n))))]) (h' := []) (by kernel_rfl) ?_
    subst H
    exact AR.ret0 (fn := Try.f50) hG Try.func50 (by kernel_rfl) hc0 (r0 := .sc (.int .i64 (IntKind.i64.wrap (a + n)))) (by kernel_rfl) (WkV.refl _)
theorem podestaref04_more_calls (a : Int) (n : Int) : ACalls Try.prog tab.S 50 [.sc (.int .i64 a), .sc (.int .i64 n)] [] (.sc (.int .i64 (podestaref04_more a n))) [] := podestaref04_more_walk a n _ rfl

/-! ### slices.Clip: function 58 -/
noncomputable def slices_Clip__api_Rule_F : Go.Sh.Fn := ⟨58, bodyOf Try.f58, 9⟩
def slices_Clip__api_Rule_k0 : List Kd := [.pure, .pure, .pure, .pure, .pure, .pure, .pure]
def slices_Clip__api_Rule_raw (s : List Rule) : Option ((List Rule)) :=
  (sliceO s none (some (((List.map Rule.av s).length : Nat) : Int)) (some (((List.map Rule.av s).length : Nat) : Int))).bind fun x =>
  some x
theorem slices_Clip__api_Rule_walk (s : List Rule) (f_s : Bool) (r : (List Rule)) (H : slices_Clip__api_Rule_raw s = some r) :
    ACalls Try.prog tab.S 58 [.sl 66 (List.map Rule.av s) f_s] [] (.sl 66 (List.map Rule.av r) true) [] := by
  have hG := tab_ok
  have hm := mixed
  refine ACalls.of_AR (G := tab) slices_Clip__api_Rule_F (fn := Try.f58) Try.func58 (by kernel_rfl) (by kernel_rfl) (by kernel_rfl) (Nat.le_of_ble_eq_true (by kernel_rfl)) ?_
  intro c0 hc0
  replace hc0 : c0.m.length = 0 := hc0
  rw [slices_Clip__api_Rule_raw] at H
  refine AR.seg hG hm 3 [0] (k' := [.code [1, 0], .code [1, 1]]) (t' := [(0, .sl 66 (List.map Rule.av s) f_s)]) (h' := []) (by kernel_rfl) ?_
  refine AR.reg hm slices_Clip__api_Rule_k0 (by kernel_rfl) ?_
  refine DK.seg hG 5 [3, 5, 7] (t' := [(3, .sl 66 (List.map Rule.av s) f_s), (5, .sc (.int .i64 (((List.map Rule.av s).length : Nat) : Int))), (7, .sc (.int .i64 (((List.map Rule.av s).length : Nat) : Int)))]) (h' := []) (by kernel_rfl) rfl ?_
  obtain ⟨x, hv, H⟩ := Option.bind_eq_some_iff.1 H
  refine DK.op' [8] (t' := [(8, .sl 66 (List.map Rule.av x) true)]) (h' := []) (LSpec.sliceO hG Rule.av s 66 f_s true none (some (((List.map Rule.av s).length : Nat) : Int)) (some (((List.map Rule.av s).length : Nat) : Int)) hv rfl (by kernel_rfl)) (by kernel_rfl) rfl (by kernel_rfl) rfl ?_
  refine DK.seg hG 1 [2] (t' := [(2, .sl 66 (List.map Rule.av x) true)]) (h' := []) (by kernel_rfl) rfl ?_
  refine DK.done (by kernel_rfl) (by kernel_rfl) ?_
  obtain rfl := Option.some.inj H
  exact AR.ret0 (fn := Try.f58) hG Try.func58 (by kernel_rfl) hc0 (r0 := .sl 66 (List.map Rule.av x) true) (by kernel_rfl) (WkV.refl _)

/-! ### slices.Clip: function 65 -/
noncomputable def slices_Clip__api_Act_F : Go.Sh.Fn := ⟨65, bodyOf Try.f65, 9⟩
def slices_Clip__api_Act_k0 : List Kd := [.pure, .pure, .pure, .pure, .pure, .pure, .pure]
def slices_Clip__api_Act_raw (s : List Act) : Option ((List Act)) :=
  (sliceO s none (some (((List.map Act.av s).length : Nat) : Int)) (some (((List.map Act.av s).length : Nat) : Int))).bind fun x =>
  some x
theorem slices_Clip__api_Act_walk (s : List Act) (f_s : Bool) (r : (List Act)) (H : slices_Clip__api_Act_raw s = some r) :
    ACalls Try.prog tab.S 65 [.sl 110 (List.map Act.av s) f_s] [] (.sl 110 (List.map Act.av r) true) [] := by
  have hG := tab_ok
  have hm := mixed
  refine ACalls.of_AR (G := tab) slices_Clip__api_Act_F (fn := Try.f65) Try.func65 (by kernel_rfl) (by kernel_rfl) (by kernel_rfl) (Nat.le_of_ble_eq_true (by kernel_rfl)) ?_
  intro c0 hc0
  replace hc0 : c0.m.length = 0 := hc0
  rw [slices_Clip__api_Act_raw] at H
  refine AR.seg hG hm 3 [0] (k' := [.code [1, 0], .code [1, 1]]) (t' := [(0, .sl 110 (List.map Act.av s) f_s)]) (h' := []) (by kernel_rfl) ?_
  refine AR.reg hm slices_Clip__api_Act_k0 (by kernel_rfl) ?_
  refine DK.seg hG 5 [3, 5, 7] (t' := [(3, .sl 110 (List.map Act.av s) f_s), (5, .sc (.int .i64 (((List.map Act.av s).length : Nat) : Int))), (7, .sc (.int .i64 (((List.map Act.av s).length : Nat) : Int)))]) (h' := []) (by kernel_rfl) rfl ?_
  obtain ⟨x, hv, H⟩ := Option.bind_eq_some_iff.1 H
  refine DK.op' [8] (t' := [(8, .sl 110 (List.map Act.av x) true)]) (h' := []) (LSpec.sliceO hG Act.av s 110 f_s true none (some (((List.map Act.av s).length : Nat) : Int)) (some (((List.map Act.av s).length : Nat) : Int)) hv rfl (by kernel_rfl)) (by kernel_rfl) rfl (by kernel_rfl) rfl ?_
  refine DK.seg hG 1 [2] (t' := [(2, .sl 110 (List.map Act.av x) true)]) (h' := []) (by kernel_rfl) rfl ?_
  refine DK.done (by kernel_rfl) (by kernel_rfl) ?_
  obtain rfl := Option.some.inj H
  exact AR.ret0 (fn := Try.f65) hG Try.func65 (by kernel_rfl) hc0 (r0 := .sl 110 (List.map Act.av x) true) (by kernel_rfl) (WkV.refl _)

/-! ### slices.Clone of []api.Act: function 66 (by hand: a nil slice and an empty one) -/
noncomputable def clone_F : Go.Sh.Fn := ⟨66, bodyOf Try.f66, 8⟩
theorem slices_Clone_Act_calls (s : List Act) (f_s : Bool) : ACalls Try.prog tab.S 66 [.sl 110 (List.map Act.av s) f_s] [] (.sl 110 (List.map Act.av s) false) [] := by
  have hG := tab_ok
  have hm := mixed
  have hE : Ent Try.prog 66 := ent_of Try.func66 (by kernel_rfl) (by kernel_rfl)
  cases s with
  | nil =>
    refine ACalls.empty hE fun p c => ?_
    refine ACalls.of_AR (G := tab) clone_F (fn := Try.f66) Try.func66 (by kernel_rfl) (by kernel_rfl) (by kernel_rfl) (Nat.le_of_ble_eq_true (by kernel_rfl)) ?_
    intro c0 hc0
    replace hc0 : c0.m.length = 0 := hc0
    refine AR.seg hG hm 4 [0] (k' := [.code [1, 0, 0], .code [1, 0, 1], .code [1, 1]]) (t' := [(0, .sc (.slice p 0 c))]) (h' := []) (by kernel_rfl) ?_
    refine AR.reg hm [.pure, .pure] (by kernel_rfl) ?_
    refine DK.seg hG 1 [0, 3] (t' := [(0, .sc (.slice p 0 c)), (3, .sc (.slice p 0 c))]) (h' := []) (by kernel_rfl) rfl ?_
    refine DK.op' [0, 4] (t' := [(0, .sc (.slice p 0 c)), (4, .sc (.bool p.isNone))]) (h' := []) (LSpec.nilEq hG (p := p) (l := 0) (c := c) (by kernel_rfl)) (by kernel_rfl) rfl (by kernel_rfl) rfl ?_
    refine DK.done (by kernel_rfl) (by kernel_rfl) ?_
    refine AR.cond (.tmp 4) p.isNone (by kernel_rfl) (by kernel_rfl) (fun hb => ?ht) (fun hb => ?hf)
    case ht =>
      refine AR.seg hG hm 2 [2] (k' := [.code [1, 0, 1, 0, 1], .code [1, 1]]) (t' := [(2, .sl 0 [] true)]) (h' := []) (by kernel_rfl) ?_
      exact AR.ret0 (fn := Try.f66) hG Try.func66 (by kernel_rfl) hc0 (r0 := .sl 0 [] true) (by kernel_rfl) (WkV.sl (Wk1.nil 110 false))
    case hf =>
      refine AR.seg hG hm 2 [0] (k' := [.code [1, 1, 0], .code [1, 1, 1]]) (t' := [(0, .sc (.slice p 0 c))]) (h' := []) (by kernel_rfl) ?_
      refine AR.reg hm [.pure, .pure, .pure, .pure] (by kernel_rfl) ?_
      refine DK.seg hG 2 [5, 6] (t' := [(5, .sl 110 [] true), (6, .sc (.slice p 0 c))]) (h' := []) (by kernel_rfl) rfl ?_
      refine DK.op' [7] (t' := [(7, .sl 110 [] true)]) (h' := []) (LSpec.app0 hG (e0 := 110) (rows := []) (f := true) (by kernel_rfl)) (by kernel_rfl) rfl (by kernel_rfl) rfl ?_
      refine DK.seg hG 1 [2] (t' := [(2, .sl 110 [] true)]) (h' := []) (by kernel_rfl) rfl ?_
      refine DK.done (by kernel_rfl) (by kernel_rfl) ?_
      exact AR.ret0 (fn := Try.f66) hG Try.func66 (by kernel_rfl) hc0 (r0 := .sl 110 [] true) (by kernel_rfl) (WkV.sl (Wk1.nil 110 false))
  | cons x xs =>
    refine ACalls.facts hE fun hf => ?_
    have hfit : (([] : List Act).length + (x :: xs).length) * 32 ≤ reach := by
      have h1 : (List.map Act.av (x :: xs)).length * 32 ≤ reach := hf.1.1
      simpa using h1
    refine ACalls.of_AR (G := tab) clone_F (fn := Try.f66) Try.func66 (by kernel_rfl) (by kernel_rfl) (by kernel_rfl) (Nat.le_of_ble_eq_true (by kernel_rfl)) ?_
    intro c0 hc0
    replace hc0 : c0.m.length = 0 := hc0
    refine AR.seg hG hm 4 [0] (k' := [.code [1, 0, 0], .code [1, 0, 1], .code [1, 1]]) (t' := [(0, .sl 110 (List.map Act.av (x :: xs)) f_s)]) (h' := []) (by kernel_rfl) ?_
    refine AR.reg hm [.pure, .pure] (by kernel_rfl) ?_
    refine DK.seg hG 1 [0, 3] (t' := [(0, .sl 110 (List.map Act.av (x :: xs)) f_s), (3, .sl 110 (List.map Act.av (x :: xs)) f_s)]) (h' := []) (by kernel_rfl) rfl ?_
    refine DK.op' [0, 4] (t' := [(0, .sl 110 (List.map Act.av (x :: xs)) f_s), (4, .sc (.bool false))]) (h' := []) (LSpec.neNil hG (by kernel_rfl)) (by kernel_rfl) rfl (by kernel_rfl) rfl ?_
    refine DK.done (by kernel_rfl) (by kernel_rfl) ?_
    refine AR.seg hG hm 3 [0] (k' := [.code [1, 1, 0], .code [1, 1, 1]]) (t' := [(0, .sl 110 (List.map Act.av (x :: xs)) f_s)]) (h' := []) (by kernel_rfl) ?_
    refine AR.reg hm [.pure, .pure, .loud, .pure] (by kernel_rfl) ?_
    refine DK.seg hG 2 [5, 6] (t' := [(5, .sl 110 [] true), (6, .sl 110 (List.map Act.av (x :: xs)) f_s)]) (h' := []) (by kernel_rfl) rfl ?_
    refine DK.op' [7] (t' := [(7, .own 0 1)]) (h' := [.row 110 (List.map Act.av ([] ++ (x :: xs))) 1 true]) (LSpec.appendN hG Act.av [] (x :: xs) 110 32 hfit (by kernel_rfl)) (by kernel_rfl) (by kernel_rfl) (by kernel_rfl) rfl ?_
    refine DK.seg hG 1 [2] (t' := [(2, .own 0 1)]) (h' := [.row 110 (List.map Act.av ([] ++ (x :: xs))) 1 true]) (by kernel_rfl) rfl ?_
    refine DK.done (by kernel_rfl) (by kernel_rfl) ?_
    exact AR.ret0 (fn := Try.f66) hG Try.func66 (by kernel_rfl) hc0 (r0 := .sl 110 (List.map Act.av (x :: xs)) false) (by kernel_rfl) (WkV.refl _)


theorem slices_Clip_Rule_calls (s : List Rule) (f_s : Bool) : ACalls Try.prog tab.S 58 [.sl 66 (List.map Rule.av s) f_s] [] (.sl 66 (List.map Rule.av s) true) [] :=
  slices_Clip__api_Rule_walk s f_s s (by simp [slices_Clip__api_Rule_raw, sliceO])
theorem slices_Clip_Act_calls (s : List Act) (f_s : Bool) : ACalls Try.prog tab.S 65 [.sl 110 (List.map Act.av s) f_s] [] (.sl 110 (List.map Act.av s) true) [] :=
  slices_Clip__api_Act_walk s f_s s (by simp [slices_Clip__api_Act_raw, sliceO])

/-! ### rule.copied: function 57 -/
noncomputable def rule_copied_F : Go.Sh.Fn := ⟨57, bodyOf Try.f57, 9⟩
def rule_copied_k0 : List Kd := [.pure, .read, .pure, .pure, .pure, .loud]
def rule_copied (r2 : Rule) : Rule :=
  r2
theorem rule_copied_walk (r2 : Rule) (r : Rule) (H : rule_copied r2 = r) :
    ACalls Try.prog tab.S 57 [Rule.av r2] [] (Rule.av r) [] := by
  have hG := tab_ok
  have hm := mixed
  refine ACalls.of_AR (G := tab) rule_copied_F (fn := Try.f57) Try.func57 (by kernel_rfl) (by kernel_rfl) (by kernel_rfl) (Nat.le_of_ble_eq_true (by kernel_rfl)) ?_
  intro c0 hc0
  replace hc0 : c0.m.length = 0 := hc0
  rw [rule_copied] at H
  refine AR.seg hG hm 3 [1, 2] (k' := [.code [1, 0], .code [1, 1]]) (t' := [(1, .ptr 0 0 none), (2, .ptr 1 0 none)]) (h' := [.box 66 [.arr .u64 12 r2.Match.Value, .arr .u64 12 r2.Match.Care, .sc (.int .i64 r2.Prio), .sl 110 (List.map Act.av r2.Acts) false, .sc (.int .i64 r2.Idle), .sc (.int .i64 r2.Hard), .sc (.int .i64 r2.Owner), .sc (.int .i64 r2.Hits), .sc (.int .i64 r2.Quiet), .sc (.int .i64 r2.Age)], .box 66 [.arr .u64 12 [0, 0, 0, 0, 0, 0, 0, 0, 0, 0, 0, 0], .arr .u64 12 [0, 0, 0, 0, 0, 0, 0, 0, 0, 0, 0, 0], .sc (.int .i64 0), .sl 0 [] true, .sc (.int .i64 0), .sc (.int .i64 0), .sc (.int .i64 0), .sc (.int .i64 0), .sc (.int .i64 0), .sc (.int .i64 0)]]) (by kernel_rfl) ?_
  refine AR.reg hm rule_copied_k0 (by kernel_rfl) ?_
  refine DK.seg hG 2 [1, 2, 4] (t' := [(1, .ptr 0 0 none), (2, .ptr 1 0 none), (4, .sl 110 (List.map Act.av r2.Acts) false)]) (h' := [.box 66 [.arr .u64 12 r2.Match.Value, .arr .u64 12 r2.Match.Care, .sc (.int .i64 r2.Prio), .sl 110 (List.map Act.av r2.Acts) false, .sc (.int .i64 r2.Idle), .sc (.int .i64 r2.Hard), .sc (.int .i64 r2.Owner), .sc (.int .i64 r2.Hits), .sc (.int .i64 r2.Quiet), .sc (.int .i64 r2.Age)], .box 66 [.arr .u64 12 [0, 0, 0, 0, 0, 0, 0, 0, 0, 0, 0, 0], .arr .u64 12 [0, 0, 0, 0, 0, 0, 0, 0, 0, 0, 0, 0], .sc (.int .i64 0), .sl 0 [] true, .sc (.int .i64 0), .sc (.int .i64 0), .sc (.int .i64 0), .sc (.int .i64 0), .sc (.int .i64 0), .sc (.int .i64 0)]]) (by kernel_rfl) rfl ?_
  refine DK.op' [1, 2, 5] (t' := [(1, .ptr 0 0 none), (2, .ptr 1 0 none), (5, .sl 110 (List.map Act.av r2.Acts) false)]) (h' := [.box 66 [.arr .u64 12 r2.Match.Value, .arr .u64 12 r2.Match.Care, .sc (.int .i64 r2.Prio), .sl 110 (List.map Act.av r2.Acts) false, .sc (.int .i64 r2.Idle), .sc (.int .i64 r2.Hard), .sc (.int .i64 r2.Owner), .sc (.int .i64 r2.Hits), .sc (.int .i64 r2.Quiet), .sc (.int .i64 r2.Age)], .box 66 [.arr .u64 12 [0, 0, 0, 0, 0, 0, 0, 0, 0, 0, 0, 0], .arr .u64 12 [0, 0, 0, 0, 0, 0, 0, 0, 0, 0, 0, 0], .sc (.int .i64 0), .sl 0 [] true, .sc (.int .i64 0), .sc (.int .i64 0), .sc (.int .i64 0), .sc (.int .i64 0), .sc (.int .i64 0), .sc (.int .i64 0)]]) (LSpec.callP' (slices_Clone_Act_calls r2.Acts false) (by kernel_rfl)) (by kernel_rfl) rfl (by kernel_rfl) rfl ?_
  refine DK.op' [1, 2, 6] (t' := [(1, .ptr 0 0 none), (2, .ptr 1 0 none), (6, .sl 110 (List.map Act.av r2.Acts) true)]) (h' := [.box 66 [.arr .u64 12 r2.Match.Value, .arr .u64 12 r2.Match.Care, .sc (.int .i64 r2.Prio), .sl 110 (List.map Act.av r2.Acts) false, .sc (.int .i64 r2.Idle), .sc (.int .i64 r2.Hard), .sc (.int .i64 r2.Owner), .sc (.int .i64 r2.Hits), .sc (.int .i64 r2.Quiet), .sc (.int .i64 r2.Age)], .box 66 [.arr .u64 12 [0, 0, 0, 0, 0, 0, 0, 0, 0, 0, 0, 0], .arr .u64 12 [0, 0, 0, 0, 0, 0, 0, 0, 0, 0, 0, 0], .sc (.int .i64 0), .sl 0 [] true, .sc (.int .i64 0), .sc (.int .i64 0), .sc (.int .i64 0), .sc (.int .i64 0), .sc (.int .i64 0), .sc (.int .i64 0)]]) (LSpec.callP' (slices_Clip_Act_calls r2.Acts false) (by kernel_rfl)) (by kernel_rfl) rfl (by kernel_rfl) rfl ?_
  refine DK.seg hG 2 [1, 2] (t' := [(1, .ptr 0 0 none), (2, .ptr 1 0 none)]) (h' := [.box 66 [.arr .u64 12 r2.Match.Value, .arr .u64 12 r2.Match.Care, .sc (.int .i64 r2.Prio), .sl 110 (List.map Act.av r2.Acts) true, .sc (.int .i64 r2.Idle), .sc (.int .i64 r2.Hard), .sc (.int .i64 r2.Owner), .sc (.int .i64 r2.Hits), .sc (.int .i64 r2.Quiet), .sc (.int .i64 r2.Age)], .box 66 [.arr .u64 12 [0, 0, 0, 0, 0, 0, 0, 0, 0, 0, 0, 0], .arr .u64 12 [0, 0, 0, 0, 0, 0, 0, 0, 0, 0, 0, 0], .sc (.int .i64 0), .sl 0 [] true, .sc (.int .i64 0), .sc (.int .i64 0), .sc (.int .i64 0), .sc (.int .i64 0), .sc (.int .i64 0), .sc (.int .i64 0)]]) (by kernel_rfl) rfl ?_
  refine DK.done (by kernel_rfl) (by kernel_rfl) ?_
  refine AR.seg hG hm 2 [2] (k' := [.code [1, 1, 1]]) (t' := [(2, .ptr 1 0 none)]) (h' := [.box 66 [.arr .u64 12 r2.Match.Value, .arr .u64 12 r2.Match.Care, .sc (.int .i64 r2.Prio), .sl 110 (List.map Act.av r2.Acts) true, .sc (.int .i64 r2.Idle), .sc (.int .i64 r2.Hard), .sc (.int .i64 r2.Owner), .sc (.int .i64 r2.Hits), .sc (.int .i64 r2.Quiet), .sc (.int .i64 r2.Age)], .box 66 [.arr .u64 12 r2.Match.Value, .arr .u64 12 r2.Match.Care, .sc (.int .i64 r2.Prio), .sl 110 (List.map Act.av r2.Acts) true, .sc (.int .i64 r2.Idle), .sc (.int .i64 r2.Hard), .sc (.int .i64 r2.Owner), .sc (.int .i64 r2.Hits), .sc (.int .i64 r2.Quiet), .sc (.int .i64 r2.Age)]]) (by kernel_rfl) ?_
  subst H
  exact AR.ret0 (fn := Try.f57) hG Try.func57 (by kernel_rfl) hc0 (r0 := .agg [.arr .u64 12 r2.Match.Value, .arr .u64 12 r2.Match.Care, .sc (.int .i64 r2.Prio), .sl 110 (List.map Act.av r2.Acts) true, .sc (.int .i64 r2.Idle), .sc (.int .i64 r2.Hard), .sc (.int .i64 r2.Owner), .sc (.int .i64 r2.Hits), .sc (.int .i64 r2.Quiet), .sc (.int .i64 r2.Age)]) (by kernel_rfl) (WkV.agg (WkL.cons (Wk1.refl _) (WkL.cons (Wk1.refl _) (WkL.cons (Wk1.refl _) (WkL.cons (Wk1.anyFull true) (WkL.cons (Wk1.refl _) (WkL.cons (Wk1.refl _) (WkL.cons (Wk1.refl _) (WkL.cons (Wk1.refl _) (WkL.cons (Wk1.refl _) (WkL.cons (Wk1.refl _) WkL.nil)))))))))))
theorem rule_copied_calls (r2 : Rule) : ACalls Try.prog tab.S 57 [Rule.av r2] [] (Rule.av (rule_copied r2)) [] := rule_copied_walk r2 _ rfl

/-! ### rule.Copy: function 47 -/
noncomputable def rule_Copy_F : Go.Sh.Fn := ⟨47, bodyOf Try.f47, 20⟩
def rule_Copy_k1 : List Kd := [.pure, .read, .pure, .pure, .loud, .pure]
def rule_Copy_k0 : List Kd := [.pure, .read, .loud, .loud]
def rule_Copy_k2 : List Kd := [.pure, .loud, .pure]
def rule_Copy_l0 (list : List Rule) : Nat → Int → List Rule → Option ((List Rule))
  | 0, _, _ => none
  | m + 1, t8, out =>
    (bif (decide (t8 < (((List.map Rule.av list).length : Nat) : Int))) then
    (ixO list t8).bind fun x =>
    fitO (out.length + [x].length) 272 (
    rule_Copy_l0 list m (IntKind.i64.wrap (t8 + 1)) (out ++ [x]))
  else
    some out)
theorem rule_Copy_l0_walk (q0 : Nat) (list : List Rule) (f_list : Bool) (r : (List Rule)) (c0 : Ctx) (hc0 : c0.m.length = 0) (res : (List Rule)) (J : AR Try.prog tab rule_Copy_F c0 (Rp tab.S c0 (.sl 66 (List.map Rule.av r) true) []) [.code [1, 1, 1]] [(3, .own 0 0)] [.row 66 (List.map Rule.av res) 0 true]) :
    ∀ (m : Nat) (t8 : Int) (out : List Rule) (H : rule_Copy_l0 list m t8 out = some res), AR Try.prog tab rule_Copy_F c0 (Rp tab.S c0 (.sl 66 (List.map Rule.av r) true) []) [.code [1, 1, 0, 1, 0, 0], .loop [1, 1, 0, 1, 0], .blk 0, .code [1, 1, 1]] [(3, .own 0 0), (6, .sl 66 (List.map Rule.av list) f_list), (7, .sc (.int .i64 (((List.map Rule.av list).length : Nat) : Int))), (8, .sc (.int .i64 t8))] [.row 66 (List.map Rule.av out) 0 true] := by
  have hG := tab_ok
  have hm := mixed
  intro m
  induction m with
  | zero => intro t8 out H; cases H
  | succ m ih =>
    intro t8 out H
    rw [rule_Copy_l0] at H
    refine AR.seg hG hm 3 [3, 6, 7, 8, 9] (k' := [.code [1, 1, 0, 1, 0, 0, 1, 0], .code [1, 1, 0, 1, 0, 0, 1, 1], .loop [1, 1, 0, 1, 0], .blk 0, .code [1, 1, 1]]) (t' := [(3, .own 0 0), (6, .sl 66 (List.map Rule.av list) f_list), (7, .sc (.int .i64 (((List.map Rule.av list).length : Nat) : Int))), (8, .sc (.int .i64 t8)), (9, .sc (.bool (decide (t8 < (((List.map Rule.av list).length : Nat) : Int)))))]) (h' := [.row 66 (List.map Rule.av out) 0 true]) (by kernel_rfl) ?_
    refine AR.cond (.tmp 9) (decide (t8 < (((List.map Rule.av list).length : Nat) : Int))) (by kernel_rfl) (by kernel_rfl) (fun hb => ?ht4) (fun hb => ?hf4)
    case ht4 =>
      replace H := cond_t hb H
      refine AR.seg hG hm 4 [3, 6, 7, 8] (k' := [.code [1, 1, 0, 1, 0, 0, 1, 1, 0, 0, 0], .code [1, 1, 0, 1, 0, 0, 1, 1, 0, 0, 1], .blk 1, .code [1, 1, 0, 1, 0, 0, 1, 1, 1], .loop [1, 1, 0, 1, 0], .blk 0, .code [1, 1, 1]]) (t' := [(3, .own 0 0), (6, .sl 66 (List.map Rule.av list) f_list), (7, .sc (.int .i64 (((List.map Rule.av list).length : Nat) : Int))), (8, .sc (.int .i64 t8))]) (h' := [.row 66 (List.map Rule.av out) 0 true]) (by kernel_rfl) ?_
      refine AR.reg hm rule_Copy_k0 (by kernel_rfl) ?_
      obtain ⟨x, hv, H⟩ := Option.bind_eq_some_iff.1 H
      refine DK.op' [3, 6, 7, 8, 10] (t' := [(3, .own 0 0), (6, .sl 66 (List.map Rule.av list) f_list), (7, .sc (.int .i64 (((List.map Rule.av list).length : Nat) : Int))), (8, .sc (.int .i64 t8)), (10, .ep [.arr .u64 12 x.Match.Value, .arr .u64 12 x.Match.Care, .sc (.int .i64 x.Prio), .sl 110 (List.map Act.av x.Acts) false, .sc (.int .i64 x.Idle), .sc (.int .i64 x.Hard), .sc (.int .i64 x.Owner), .sc (.int .i64 x.Hits), .sc (.int .i64 x.Quiet), .sc (.int .i64 x.Age)] 0 none)]) (h' := [.row 66 (List.map Rule.av out) 0 true]) (LSpec.index' (r := Rule.av x) (fs := [.arr .u64 12 x.Match.Value, .arr .u64 12 x.Match.Care, .sc (.int .i64 x.Prio), .sl 110 (List.map Act.av x.Acts) false, .sc (.int .i64 x.Idle), .sc (.int .i64 x.Hard), .sc (.int .i64 x.Owner), .sc (.int .i64 x.Hits), .sc (.int .i64 x.Quiet), .sc (.int .i64 x.Age)]) hG (rows := List.map Rule.av list) (j := t8) (by kernel_rfl) (ixO_map hv _) (by kernel_rfl)) (by kernel_rfl) rfl (by kernel_rfl) rfl ?_
      refine DK.seg hG 3 [3, 5, 6, 7, 8] (t' := [(3, .own 0 0), (5, .ptr 1 0 none), (6, .sl 66 (List.map Rule.av list) f_list), (7, .sc (.int .i64 (((List.map Rule.av list).length : Nat) : Int))), (8, .sc (.int .i64 t8))]) (h' := [.row 66 (List.map Rule.av out) 0 true, .box 66 [.arr .u64 12 x.Match.Value, .arr .u64 12 x.Match.Care, .sc (.int .i64 x.Prio), .sl 110 (List.map Act.av x.Acts) false, .sc (.int .i64 x.Idle), .sc (.int .i64 x.Hard), .sc (.int .i64 x.Owner), .sc (.int .i64 x.Hits), .sc (.int .i64 x.Quiet), .sc (.int .i64 x.Age)]]) (by kernel_rfl) rfl ?_
      refine DK.done (by kernel_rfl) (by kernel_rfl) ?_
      refine AR.reg hm rule_Copy_k1 (by kernel_rfl) ?_
      refine DK.seg hG 2 [6, 7, 8, 12, 13] (t' := [(6, .sl 66 (List.map Rule.av list) f_list), (7, .sc (.int .i64 (((List.map Rule.av list).length : Nat) : Int))), (8, .sc (.int .i64 t8)), (12, .own 0 0), (13, Rule.av x)]) (h' := [.row 66 (List.map Rule.av out) 0 true, .box 66 [.arr .u64 12 x.Match.Value, .arr .u64 12 x.Match.Care, .sc (.int .i64 x.Prio), .sl 110 (List.map Act.av x.Acts) false, .sc (.int .i64 x.Idle), .sc (.int .i64 x.Hard), .sc (.int .i64 x.Owner), .sc (.int .i64 x.Hits), .sc (.int .i64 x.Quiet), .sc (.int .i64 x.Age)]]) (by kernel_rfl) rfl ?_
      refine DK.op' [6, 7, 8, 12, 14] (t' := [(6, .sl 66 (List.map Rule.av list) f_list), (7, .sc (.int .i64 (((List.map Rule.av list).length : Nat) : Int))), (8, .sc (.int .i64 t8)), (12, .own 0 0), (14, Rule.av x)]) (h' := [.row 66 (List.map Rule.av out) 0 true, .box 66 [.arr .u64 12 x.Match.Value, .arr .u64 12 x.Match.Care, .sc (.int .i64 x.Prio), .sl 110 (List.map Act.av x.Acts) false, .sc (.int .i64 x.Idle), .sc (.int .i64 x.Hard), .sc (.int .i64 x.Owner), .sc (.int .i64 x.Hits), .sc (.int .i64 x.Quiet), .sc (.int .i64 x.Age)]]) (LSpec.callP' (rule_copied_calls x) (by kernel_rfl)) (by kernel_rfl) rfl (by kernel_rfl) rfl ?_
      refine DK.seg hG 1 [6, 7, 8, 12, 15] (t' := [(6, .sl 66 (List.map Rule.av list) f_list), (7, .sc (.int .i64 (((List.map Rule.av list).length : Nat) : Int))), (8, .sc (.int .i64 t8)), (12, .own 0 0), (15, .sl 66 (List.map Rule.av [x]) true)]) (h' := [.row 66 (List.map Rule.av out) 0 true, .box 66 [.arr .u64 12 x.Match.Value, .arr .u64 12 x.Match.Care, .sc (.int .i64 x.Prio), .sl 110 (List.map Act.av x.Acts) false, .sc (.int .i64 x.Idle), .sc (.int .i64 x.Hard), .sc (.int .i64 x.Owner), .sc (.int .i64 x.Hits), .sc (.int .i64 x.Quiet), .sc (.int .i64 x.Age)]]) (by kernel_rfl) rfl ?_
      obtain ⟨hfit, H⟩ := fitO_some H
      refine DK.op' [6, 7, 8, 16] (t' := [(6, .sl 66 (List.map Rule.av list) f_list), (7, .sc (.int .i64 (((List.map Rule.av list).length : Nat) : Int))), (8, .sc (.int .i64 t8)), (16, .own 0 1)]) (h' := [.row 66 (List.map Rule.av (out ++ [x])) 1 true, .box 66 [.arr .u64 12 x.Match.Value, .arr .u64 12 x.Match.Care, .sc (.int .i64 x.Prio), .sl 110 (List.map Act.av x.Acts) false, .sc (.int .i64 x.Idle), .sc (.int .i64 x.Hard), .sc (.int .i64 x.Owner), .sc (.int .i64 x.Hits), .sc (.int .i64 x.Quiet), .sc (.int .i64 x.Age)]]) (LSpec.append' hG Rule.av out [x] 0 0 66 272 hfit (by kernel_rfl)) (by kernel_rfl) (by kernel_rfl) (by kernel_rfl) rfl ?_
      refine DK.seg hG 1 [3, 6, 7, 8] (t' := [(3, .own 0 1), (6, .sl 66 (List.map Rule.av list) f_list), (7, .sc (.int .i64 (((List.map Rule.av list).length : Nat) : Int))), (8, .sc (.int .i64 t8))]) (h' := [.row 66 (List.map Rule.av (out ++ [x])) 1 true, .box 66 [.arr .u64 12 x.Match.Value, .arr .u64 12 x.Match.Care, .sc (.int .i64 x.Prio), .sl 110 (List.map Act.av x.Acts) false, .sc (.int .i64 x.Idle), .sc (.int .i64 x.Hard), .sc (.int .i64 x.Owner), .sc (.int .i64 x.Hits), .sc (.int .i64 x.Quiet), .sc (.int .i64 x.Age)]]) (by kernel_rfl) rfl ?_
      refine DK.done (by kernel_rfl) (by kernel_rfl) ?_
      refine AR.seg hG hm 2 [3, 6, 7, 8] (k' := [.loop [1, 1, 0, 1, 0], .blk 0, .code [1, 1, 1]]) (t' := [(3, .own 0 1), (6, .sl 66 (List.map Rule.av list) f_list), (7, .sc (.int .i64 (((List.map Rule.av list).length : Nat) : Int))), (8, .sc (.int .i64 (IntKind.i64.wrap (t8 + 1))))]) (h' := [.row 66 (List.map Rule.av (out ++ [x])) 1 true, .box 66 [.arr .u64 12 x.Match.Value, .arr .u64 12 x.Match.Care, .sc (.int .i64 x.Prio), .sl 110 (List.map Act.av x.Acts) false, .sc (.int .i64 x.Idle), .sc (.int .i64 x.Hard), .sc (.int .i64 x.Owner), .sc (.int .i64 x.Hits), .sc (.int .i64 x.Quiet), .sc (.int .i64 x.Age)]]) (by kernel_rfl) ?_
      refine AR.keep [3, 6, 7, 8] (t' := [(3, .own 0 1), (6, .sl 66 (List.map Rule.av list) f_list), (7, .sc (.int .i64 (((List.map Rule.av list).length : Nat) : Int))), (8, .sc (.int .i64 (IntKind.i64.wrap (t8 + 1))))]) (by kernel_rfl) ?_
      refine AR.norm' 0 hc0 (t' := [(3, .own 0 0), (6, .sl 66 (List.map Rule.av list) f_list), (7, .sc (.int .i64 (((List.map Rule.av list).length : Nat) : Int))), (8, .sc (.int .i64 (IntKind.i64.wrap (t8 + 1))))]) (h' := [.row 66 (List.map Rule.av (out ++ [x])) 0 true, .box 66 [.arr .u64 12 x.Match.Value, .arr .u64 12 x.Match.Care, .sc (.int .i64 x.Prio), .sl 110 (List.map Act.av x.Acts) false, .sc (.int .i64 x.Idle), .sc (.int .i64 x.Hard), .sc (.int .i64 x.Owner), .sc (.int .i64 x.Hits), .sc (.int .i64 x.Quiet), .sc (.int .i64 x.Age)]]) (by kernel_rfl) ?_
      refine AR.drop' 1 hc0 (t' := [(3, .own 0 0), (6, .sl 66 (List.map Rule.av list) f_list), (7, .sc (.int .i64 (((List.map Rule.av list).length : Nat) : Int))), (8, .sc (.int .i64 (IntKind.i64.wrap (t8 + 1))))]) (h' := [.row 66 (List.map Rule.av (out ++ [x])) 0 true]) (by kernel_rfl) ?_
      refine AR.loop_round ?_
      exact ih (IntKind.i64.wrap (t8 + 1)) (out ++ [x]) H
    case hf4 =>
      replace H := cond_f hb H
      refine AR.seg hG hm 1 [3] (k' := [.code [1, 1, 1]]) (t' := [(3, .own 0 0)]) (h' := [.row 66 (List.map Rule.av out) 0 true]) (by kernel_rfl) ?_
      refine AR.keep [3] (t' := [(3, .own 0 0)]) (by kernel_rfl) ?_
      obtain rfl := Option.some.inj H
      exact J
def rule_Copy_raw (q0 : Nat) (list : List Rule) : Option ((List Rule)) :=
  (rule_Copy_l0 list q0 0 ([] : List Rule)).bind fun v =>
  some v
theorem rule_Copy_walk (q0 : Nat) (list : List Rule) (f_list : Bool) (r : (List Rule)) (H : rule_Copy_raw q0 list = some r) :
    ACalls Try.prog tab.S 47 [.sl 66 (List.map Rule.av list) f_list] [] (.sl 66 (List.map Rule.av r) true) [] := by
  have hG := tab_ok
  have hm := mixed
  refine ACalls.of_AR (G := tab) rule_Copy_F (fn := Try.f47) Try.func47 (by kernel_rfl) (by kernel_rfl) (by kernel_rfl) (Nat.le_of_ble_eq_true (by kernel_rfl)) ?_
  intro c0 hc0
  replace hc0 : c0.m.length = 0 := hc0
  rw [rule_Copy_raw] at H
  refine AR.seg hG hm 8 [3, 6, 7, 8] (k' := [.code [1, 1, 0, 1, 0], .blk 0, .code [1, 1, 1]]) (t' := [(3, .sl 0 [] true), (6, .sl 66 (List.map Rule.av list) f_list), (7, .sc (.int .i64 (((List.map Rule.av list).length : Nat) : Int))), (8, .sc (.int .i64 0))]) (h' := []) (by kernel_rfl) ?_
  refine AR.adopt' 3 66 (t' := [(3, .own 0 0), (6, .sl 66 (List.map Rule.av list) f_list), (7, .sc (.int .i64 (((List.map Rule.av list).length : Nat) : Int))), (8, .sc (.int .i64 0))]) (h' := [.row 66 (List.map Rule.av ([] : List Rule)) 0 true]) (by kernel_rfl) ?_
  refine AR.keep [3, 6, 7, 8] (t' := [(3, .own 0 0), (6, .sl 66 (List.map Rule.av list) f_list), (7, .sc (.int .i64 (((List.map Rule.av list).length : Nat) : Int))), (8, .sc (.int .i64 0))]) (by kernel_rfl) ?_
  obtain ⟨v, hv, H⟩ := Option.bind_eq_some_iff.1 H
  refine AR.into (by kernel_rfl) ?_
  refine rule_Copy_l0_walk q0 list f_list r c0 hc0 v ?_ q0 0 ([] : List Rule) hv
  refine AR.seg hG hm 1 [3] (k' := [.code [1, 1, 1, 0], .code [1, 1, 1, 1]]) (t' := [(3, .own 0 0)]) (h' := [.row 66 (List.map Rule.av v) 0 true]) (by kernel_rfl) ?_
  refine AR.reg hm rule_Copy_k2 (by kernel_rfl) ?_
  refine DK.seg hG 1 [18] (t' := [(18, .own 0 0)]) (h' := [.row 66 (List.map Rule.av v) 0 true]) (by kernel_rfl) rfl ?_
  refine DK.op' [19] (t' := [(19, .sl 66 (List.map Rule.av v) true)]) (h' := [.row 66 (List.map Rule.av v) 0 false]) (LSpec.callC' [0] (slices_Clip_Rule_calls v false) (by kernel_rfl) (by kernel_rfl)) (by kernel_rfl) (by kernel_rfl) (by kernel_rfl) rfl ?_
  refine DK.seg hG 1 [2] (t' := [(2, .sl 66 (List.map Rule.av v) true)]) (h' := [.row 66 (List.map Rule.av v) 0 false]) (by kernel_rfl) rfl ?_
  refine DK.done (by kernel_rfl) (by kernel_rfl) ?_
  obtain rfl := Option.some.inj H
  exact AR.ret0 (fn := Try.f47) hG Try.func47 (by kernel_rfl) hc0 (r0 := .sl 66 (List.map Rule.av v) true) (by kernel_rfl) (WkV.refl _)

end Go.Proofs.Ytjchejmakdkioaa
