import Derived.Test.YtjchejmakdkioaaS2
set_option linter.unusedVariables false
set_option maxRecDepth 100000
set_option maxHeartbeats 4000000
namespace Go.Proofs.Ytjchejmakdkioaa
open Go.Sh
/-! ### podestaref04.Same: function 36 -/
noncomputable def podestaref04_Same_F : Go.Sh.Fn := ⟨36, bodyOf Try.f36, 27⟩
def podestaref04_Same_k0 : List Kd := [.pure, .pure, .pure, .read, .pure, .pure, .pure, .read, .pure, .pure]
def podestaref04_Same_l0 (a : List Rule) (b : List Rule) : Nat → Int → Option (Sum (Unit) (Bool))
  | 0, _ => none
  | m + 1, i =>
    (bif (decide (i < (((List.map Rule.av a).length : Nat) : Int))) then
    (ixO a i).bind fun x =>
    (ixO b i).bind fun x1 =>
    (bif (!(x == x1)) then
      some (.inr false)
    else
      podestaref04_Same_l0 a b m (IntKind.i64.wrap (i + 1)))
  else
    some (.inl ()))
theorem podestaref04_Same_l0_walk (q0 : Nat) (a : List Rule) (b : List Rule) (f_a : Bool) (f_b : Bool) (r : Bool) (c0 : Ctx) (hc0 : c0.m.length = 0) (res : Sum (Unit) (Bool)) (J : ∀ w : Unit, res = .inl w → AR Try.prog tab podestaref04_Same_F c0 (Rp tab.S c0 (.sc (.bool r)) []) [.code [1, 1, 1]] [] []) (Jr : ∀ w, res = .inr w → w = r) :
    ∀ (m : Nat) (i : Int) (H : podestaref04_Same_l0 a b m i = some res), AR Try.prog tab podestaref04_Same_F c0 (Rp tab.S c0 (.sc (.bool r)) []) [.code [1, 1, 0, 1, 0, 0], .loop [1, 1, 0, 1, 0], .blk 0, .code [1, 1, 1]] [(0, .sl 66 (List.map Rule.av a) f_a), (1, .sl 66 (List.map Rule.av b) f_b), (5, .sc (.int .i64 i))] [] := by
  have hG := tab_ok
  have hm := mixed
  intro m
  induction m with
  | zero => intro i H; cases H
  | succ m ih =>
    intro i H
    rw [podestaref04_Same_l0] at H
    refine AR.seg hG hm 3 [0, 1, 5, 14] (k' := [.code [1, 1, 0, 1, 0, 0, 0, 1], .code [1, 1, 0, 1, 0, 0, 1], .loop [1, 1, 0, 1, 0], .blk 0, .code [1, 1, 1]]) (t' := [(0, .sl 66 (List.map Rule.av a) f_a), (1, .sl 66 (List.map Rule.av b) f_b), (5, .sc (.int .i64 i)), (14, .sc (.bool (decide (i < (((List.map Rule.av a).length : Nat) : Int)))))]) (h' := []) (by kernel_rfl) ?_
    refine AR.cond (.tmp 14) (decide (i < (((List.map Rule.av a).length : Nat) : Int))) (by kernel_rfl) (by kernel_rfl) (fun hb => ?ht6) (fun hb => ?hf6)
    case ht6 =>
      replace H := cond_t hb H
      refine AR.seg hG hm 4 [0, 1, 5] (k' := [.code [1, 1, 0, 1, 0, 0, 1, 0, 0, 0], .code [1, 1, 0, 1, 0, 0, 1, 0, 0, 1], .blk 1, .code [1, 1, 0, 1, 0, 0, 1, 1], .loop [1, 1, 0, 1, 0], .blk 0, .code [1, 1, 1]]) (t' := [(0, .sl 66 (List.map Rule.av a) f_a), (1, .sl 66 (List.map Rule.av b) f_b), (5, .sc (.int .i64 i))]) (h' := []) (by kernel_rfl) ?_
      refine AR.reg hm podestaref04_Same_k0 (by kernel_rfl) ?_
      refine DK.seg hG 2 [0, 1, 5, 17, 18] (t' := [(0, .sl 66 (List.map Rule.av a) f_a), (1, .sl 66 (List.map Rule.av b) f_b), (5, .sc (.int .i64 i)), (17, .sl 66 (List.map Rule.av a) f_a), (18, .sc (.int .i64 i))]) (h' := []) (by kernel_rfl) rfl ?_
      obtain ⟨x, hv, H⟩ := Option.bind_eq_some_iff.1 H
      refine DK.op' [0, 1, 5, 19] (t' := [(0, .sl 66 (List.map Rule.av a) f_a), (1, .sl 66 (List.map Rule.av b) f_b), (5, .sc (.int .i64 i)), (19, .ep [.arr .u64 12 x.Match.Value, .arr .u64 12 x.Match.Care, .sc (.int .i64 x.Prio), .sl 110 (List.map Act.av x.Acts) false, .sc (.int .i64 x.Idle), .sc (.int .i64 x.Hard), .sc (.int .i64 x.Owner), .sc (.int .i64 x.Hits), .sc (.int .i64 x.Quiet), .sc (.int .i64 x.Age)] 0 none)]) (h' := []) (LSpec.index' (r := Rule.av x) (fs := [.arr .u64 12 x.Match.Value, .arr .u64 12 x.Match.Care, .sc (.int .i64 x.Prio), .sl 110 (List.map Act.av x.Acts) false, .sc (.int .i64 x.Idle), .sc (.int .i64 x.Hard), .sc (.int .i64 x.Owner), .sc (.int .i64 x.Hits), .sc (.int .i64 x.Quiet), .sc (.int .i64 x.Age)]) hG (rows := List.map Rule.av a) (j := i) (by kernel_rfl) (ixO_map hv _) (by kernel_rfl)) (by kernel_rfl) rfl (by kernel_rfl) rfl ?_
      refine DK.seg hG 3 [0, 1, 5, 20, 21, 22] (t' := [(0, .sl 66 (List.map Rule.av a) f_a), (1, .sl 66 (List.map Rule.av b) f_b), (5, .sc (.int .i64 i)), (20, Rule.av x), (21, .sl 66 (List.map Rule.av b) f_b), (22, .sc (.int .i64 i))]) (h' := []) (by kernel_rfl) rfl ?_
      obtain ⟨x1, hv, H⟩ := Option.bind_eq_some_iff.1 H
      refine DK.op' [0, 1, 5, 20, 23] (t' := [(0, .sl 66 (List.map Rule.av a) f_a), (1, .sl 66 (List.map Rule.av b) f_b), (5, .sc (.int .i64 i)), (20, Rule.av x), (23, .ep [.arr .u64 12 x1.Match.Value, .arr .u64 12 x1.Match.Care, .sc (.int .i64 x1.Prio), .sl 110 (List.map Act.av x1.Acts) false, .sc (.int .i64 x1.Idle), .sc (.int .i64 x1.Hard), .sc (.int .i64 x1.Owner), .sc (.int .i64 x1.Hits), .sc (.int .i64 x1.Quiet), .sc (.int .i64 x1.Age)] 0 none)]) (h' := []) (LSpec.index' (r := Rule.av x1) (fs := [.arr .u64 12 x1.Match.Value, .arr .u64 12 x1.Match.Care, .sc (.int .i64 x1.Prio), .sl 110 (List.map Act.av x1.Acts) false, .sc (.int .i64 x1.Idle), .sc (.int .i64 x1.Hard), .sc (.int .i64 x1.Owner), .sc (.int .i64 x1.Hits), .sc (.int .i64 x1.Quiet), .sc (.int .i64 x1.Age)]) hG (rows := List.map Rule.av b) (j := i) (by kernel_rfl) (ixO_map hv _) (by kernel_rfl)) (by kernel_rfl) rfl (by kernel_rfl) rfl ?_
      refine DK.seg hG 1 [0, 1, 5, 20, 24] (t' := [(0, .sl 66 (List.map Rule.av a) f_a), (1, .sl 66 (List.map Rule.av b) f_b), (5, .sc (.int .i64 i)), (20, Rule.av x), (24, Rule.av x1)]) (h' := []) (by kernel_rfl) rfl ?_
      refine DK.op' [0, 1, 5, 25] (t' := [(0, .sl 66 (List.map Rule.av a) f_a), (1, .sl 66 (List.map Rule.av b) f_b), (5, .sc (.int .i64 i)), (25, .sc (.bool (x == x1)))]) (h' := []) (LSpec.callP' (Equal_calls x x1) (by kernel_rfl)) (by kernel_rfl) rfl (by kernel_rfl) rfl ?_
      refine DK.seg hG 1 [0, 1, 5, 26] (t' := [(0, .sl 66 (List.map Rule.av a) f_a), (1, .sl 66 (List.map Rule.av b) f_b), (5, .sc (.int .i64 i)), (26, .sc (.bool (!(x == x1))))]) (h' := []) (by kernel_rfl) rfl ?_
      refine DK.done (by kernel_rfl) (by kernel_rfl) ?_
      refine AR.cond (.tmp 26) (!(x == x1)) (by kernel_rfl) (by kernel_rfl) (fun hb => ?ht7) (fun hb => ?hf7)
      case ht7 =>
        replace H := cond_t hb H
        refine AR.seg hG hm 2 [4] (k' := [.code [1, 1, 0, 1, 0, 0, 1, 0, 0, 1, 0, 1], .blk 1, .code [1, 1, 0, 1, 0, 0, 1, 1], .loop [1, 1, 0, 1, 0], .blk 0, .code [1, 1, 1]]) (t' := [(4, .sc (.bool false))]) (h' := []) (by kernel_rfl) ?_
        obtain rfl := Option.some.inj H
        obtain rfl := Jr _ rfl
        exact AR.ret0 (fn := Try.f36) hG Try.func36 (by kernel_rfl) hc0 (r0 := .sc (.bool false)) (by kernel_rfl) (WkV.refl _)
      case hf7 =>
        replace H := cond_f hb H
        refine AR.seg hG hm 3 [0, 1, 5] (k' := [.loop [1, 1, 0, 1, 0], .blk 0, .code [1, 1, 1]]) (t' := [(0, .sl 66 (List.map Rule.av a) f_a), (1, .sl 66 (List.map Rule.av b) f_b), (5, .sc (.int .i64 (IntKind.i64.wrap (i + 1))))]) (h' := []) (by kernel_rfl) ?_
        refine AR.keep [0, 1, 5] (t' := [(0, .sl 66 (List.map Rule.av a) f_a), (1, .sl 66 (List.map Rule.av b) f_b), (5, .sc (.int .i64 (IntKind.i64.wrap (i + 1))))]) (by kernel_rfl) ?_
        refine AR.loop_round ?_
        exact ih (IntKind.i64.wrap (i + 1)) H
    case hf6 =>
      replace H := cond_f hb H
      refine AR.seg hG hm 1 [] (k' := [.code [1, 1, 1]]) (t' := []) (h' := []) (by kernel_rfl) ?_
      refine AR.keep [] (t' := []) (by kernel_rfl) ?_
      exact J () (Option.some.inj H).symm
def podestaref04_Same_raw (q0 : Nat) (a : List Rule) (b : List Rule) : Option (Bool) :=
  (bif ((((List.map Rule.av a).length : Nat) : Int) != (((List.map Rule.av b).length : Nat) : Int)) then
    some false
  else
    loopO (podestaref04_Same_l0 a b q0 0) fun v =>
    some true)
theorem podestaref04_Same_walk (q0 : Nat) (a : List Rule) (b : List Rule) (f_a : Bool) (f_b : Bool) (r : Bool) (H : podestaref04_Same_raw q0 a b = some r) :
    ACalls Try.prog tab.S 36 [.sl 66 (List.map Rule.av a) f_a, .sl 66 (List.map Rule.av b) f_b] [] (.sc (.bool r)) [] := by
  have hG := tab_ok
  have hm := mixed
  refine ACalls.of_AR (G := tab) podestaref04_Same_F (fn := Try.f36) Try.func36 (by kernel_rfl) (by kernel_rfl) (by kernel_rfl) (Nat.le_of_ble_eq_true (by kernel_rfl)) ?_
  intro c0 hc0
  replace hc0 : c0.m.length = 0 := hc0
  rw [podestaref04_Same_raw] at H
  refine AR.seg hG hm 5 [0, 1, 10] (k' := [.code [1, 0, 1], .code [1, 1]]) (t' := [(0, .sl 66 (List.map Rule.av a) f_a), (1, .sl 66 (List.map Rule.av b) f_b), (10, .sc (.bool ((((List.map Rule.av a).length : Nat) : Int) != (((List.map Rule.av b).length : Nat) : Int))))]) (h' := []) (by kernel_rfl) ?_
  refine AR.cond (.tmp 10) ((((List.map Rule.av a).length : Nat) : Int) != (((List.map Rule.av b).length : Nat) : Int)) (by kernel_rfl) (by kernel_rfl) (fun hb => ?ht1) (fun hb => ?hf1)
  case ht1 =>
    replace H := cond_t hb H
    refine AR.seg hG hm 2 [4] (k' := [.code [1, 0, 1, 0, 1], .code [1, 1]]) (t' := [(4, .sc (.bool false))]) (h' := []) (by kernel_rfl) ?_
    obtain rfl := Option.some.inj H
    exact AR.ret0 (fn := Try.f36) hG Try.func36 (by kernel_rfl) hc0 (r0 := .sc (.bool false)) (by kernel_rfl) (WkV.refl _)
  case hf1 =>
    replace H := cond_f hb H
    refine AR.seg hG hm 5 [0, 1, 5] (k' := [.code [1, 1, 0, 1, 0], .blk 0, .code [1, 1, 1]]) (t' := [(0, .sl 66 (List.map Rule.av a) f_a), (1, .sl 66 (List.map Rule.av b) f_b), (5, .sc (.int .i64 0))]) (h' := []) (by kernel_rfl) ?_
    rcases loopO_some H with ⟨v, hv, H⟩ | hv
    case inr =>
      refine AR.into (by kernel_rfl) ?_
      exact podestaref04_Same_l0_walk q0 a b f_a f_b r c0 hc0 (.inr r) (fun _ e => by cases e) (fun _ e => (Sum.inr.inj e).symm) q0 0 hv
    refine AR.into (by kernel_rfl) ?_
    refine podestaref04_Same_l0_walk q0 a b f_a f_b r c0 hc0 (.inl v) (fun w e => ?_) (fun _ e => by cases e) q0 0 hv
    have e := Sum.inl.inj e
    subst e
    refine AR.seg hG hm 2 [4] (k' := [.code [1, 1, 1, 1]]) (t' := [(4, .sc (.bool true))]) (h' := []) (by kernel_rfl) ?_
    obtain rfl := Option.some.inj H
    exact AR.ret0 (fn := Try.f36) hG Try.func36 (by kernel_rfl) hc0 (r0 := .sc (.bool true)) (by kernel_rfl) (WkV.refl _)

end Go.Proofs.Ytjchejmakdkioaa
