import Derived.Test.YtjchejmakdkioaaH1
set_option linter.unusedVariables false
set_option maxRecDepth 100000
set_option maxHeartbeats 4000000
namespace Go.Proofs.Ytjchejmakdkioaa
open Go.Sh
/-! ### podestalaw06.LapseParts: function 12 -/
noncomputable def podestalaw06_LapseParts_F : Go.Sh.Fn := ⟨12, bodyOf Try.f12, 84⟩
def podestalaw06_LapseParts_k1 : List Kd := [.pure, .pure]
def podestalaw06_LapseParts_k3 : List Kd := [.pure, .pure]
def podestalaw06_LapseParts_k4 : List Kd := [.pure, .pure]
def podestalaw06_LapseParts_k2 : List Kd := [.pure, .pure, .pure, .pure, .read, .pure, .pure, .pure, .pure, .pure, .pure, .read, .pure, .pure]
def podestalaw06_LapseParts_k8 : List Kd := [.pure, .pure, .pure, .pure, .pure, .pure, .pure, .pure, .pure, .pure, .pure, .pure, .pure, .pure, .pure, .pure, .pure]
def podestalaw06_LapseParts_k7 : List Kd := [.pure, .pure, .pure, .pure, .pure, .pure, .pure, .pure, .pure, .pure, .pure, .pure]
def podestalaw06_LapseParts_k6 : List Kd := [.pure, .pure, .pure, .pure, .pure, .pure, .pure, .pure, .pure]
def podestalaw06_LapseParts_k5 : List Kd := [.pure, .pure, .pure, .pure, .pure, .pure, .pure, .pure, .pure]
def podestalaw06_LapseParts_k0 : List Kd := [.pure, .pure, .pure, .pure, .pure, .pure, .pure, .pure]
def podestalaw06_LapseParts_l0 (l : List Rule) : Nat → Int → Option (Sum (Unit) (Bool))
  | 0, _ => none
  | m + 1, i =>
    (bif (decide (i < (((List.map Rule.av l).length : Nat) : Int))) then
    (ixO l i).bind fun x =>
    (bif (decide (x.Age > 2305843009213693952)) then
      some (.inr true)
    else
      (ixO l i).bind fun x1 =>
      (bif (decide (x1.Quiet > 2305843009213693952)) then
        some (.inr true)
      else
        podestalaw06_LapseParts_l0 l m (IntKind.i64.wrap (i + 1))))
  else
    some (.inl ()))
theorem podestalaw06_LapseParts_l0_walk (q0 : Nat) (l : List Rule) (n : Int) (m1 : Int) (f_l : Bool) (r : Bool) (c0 : Ctx) (hc0 : c0.m.length = 0) (res : Sum (Unit) (Bool)) (J : ∀ w : Unit, res = .inl w → AR Try.prog tab podestalaw06_LapseParts_F c0 (Rp tab.S c0 (.sc (.bool r)) []) [.code [1, 1, 1]] [(0, .sl 66 (List.map Rule.av l) f_l), (1, .sc (.int .u16 n)), (2, .sc (.int .u16 m1))] []) (Jr : ∀ w, res = .inr w → w = r) :
    ∀ (m : Nat) (i : Int) (H : podestalaw06_LapseParts_l0 l m i = some res), AR Try.prog tab podestalaw06_LapseParts_F c0 (Rp tab.S c0 (.sc (.bool r)) []) [.code [1, 1, 0, 1, 0, 0], .loop [1, 1, 0, 1, 0], .blk 0, .code [1, 1, 1]] [(0, .sl 66 (List.map Rule.av l) f_l), (1, .sc (.int .u16 n)), (2, .sc (.int .u16 m1)), (7, .sc (.int .i64 i))] [] := by
  have hG := tab_ok
  have hm := mixed
  intro m
  induction m with
  | zero => intro i H; cases H
  | succ m ih =>
    intro i H
    rw [podestalaw06_LapseParts_l0] at H
    refine AR.seg hG hm 3 [0, 1, 2, 7, 26] (k' := [.code [1, 1, 0, 1, 0, 0, 0, 1], .code [1, 1, 0, 1, 0, 0, 1], .loop [1, 1, 0, 1, 0], .blk 0, .code [1, 1, 1]]) (t' := [(0, .sl 66 (List.map Rule.av l) f_l), (1, .sc (.int .u16 n)), (2, .sc (.int .u16 m1)), (7, .sc (.int .i64 i)), (26, .sc (.bool (decide (i < (((List.map Rule.av l).length : Nat) : Int)))))]) (h' := []) (by kernel_rfl) ?_
    refine AR.cond (.tmp 26) (decide (i < (((List.map Rule.av l).length : Nat) : Int))) (by kernel_rfl) (by kernel_rfl) (fun hb => ?ht9) (fun hb => ?hf9)
    case ht9 =>
      replace H := cond_t hb H
      refine AR.seg hG hm 4 [0, 1, 2, 7] (k' := [.code [1, 1, 0, 1, 0, 0, 1, 0, 0, 0], .code [1, 1, 0, 1, 0, 0, 1, 0, 0, 1], .blk 1, .code [1, 1, 0, 1, 0, 0, 1, 1], .loop [1, 1, 0, 1, 0], .blk 0, .code [1, 1, 1]]) (t' := [(0, .sl 66 (List.map Rule.av l) f_l), (1, .sc (.int .u16 n)), (2, .sc (.int .u16 m1)), (7, .sc (.int .i64 i))]) (h' := []) (by kernel_rfl) ?_
      refine AR.reg hm podestalaw06_LapseParts_k2 (by kernel_rfl) ?_
      refine DK.seg hG 2 [0, 1, 2, 7, 29, 30] (t' := [(0, .sl 66 (List.map Rule.av l) f_l), (1, .sc (.int .u16 n)), (2, .sc (.int .u16 m1)), (7, .sc (.int .i64 i)), (29, .sl 66 (List.map Rule.av l) f_l), (30, .sc (.int .i64 i))]) (h' := []) (by kernel_rfl) rfl ?_
      obtain ⟨x, hv, H⟩ := Option.bind_eq_some_iff.1 H
      refine DK.op' [0, 1, 2, 7, 31] (t' := [(0, .sl 66 (List.map Rule.av l) f_l), (1, .sc (.int .u16 n)), (2, .sc (.int .u16 m1)), (7, .sc (.int .i64 i)), (31, .ep [.arr .u64 12 x.Match.Value, .arr .u64 12 x.Match.Care, .sc (.int .i64 x.Prio), .sl 110 (List.map Act.av x.Acts) false, .sc (.int .i64 x.Idle), .sc (.int .i64 x.Hard), .sc (.int .i64 x.Owner), .sc (.int .i64 x.Hits), .sc (.int .i64 x.Quiet), .sc (.int .i64 x.Age)] 0 none)]) (h' := []) (LSpec.index' (r := Rule.av x) (fs := [.arr .u64 12 x.Match.Value, .arr .u64 12 x.Match.Care, .sc (.int .i64 x.Prio), .sl 110 (List.map Act.av x.Acts) false, .sc (.int .i64 x.Idle), .sc (.int .i64 x.Hard), .sc (.int .i64 x.Owner), .sc (.int .i64 x.Hits), .sc (.int .i64 x.Quiet), .sc (.int .i64 x.Age)]) hG (rows := List.map Rule.av l) (j := i) (by kernel_rfl) (ixO_map hv _) (by kernel_rfl)) (by kernel_rfl) rfl (by kernel_rfl) rfl ?_
      refine DK.seg hG 4 [0, 1, 2, 7, 35] (t' := [(0, .sl 66 (List.map Rule.av l) f_l), (1, .sc (.int .u16 n)), (2, .sc (.int .u16 m1)), (7, .sc (.int .i64 i)), (35, .sc (.bool (decide (x.Age > 2305843009213693952))))]) (h' := []) (by kernel_rfl) rfl ?_
      refine DK.split 35 (decide (x.Age > 2305843009213693952)) (by kernel_rfl) (fun hb => ?ht10) (fun hb => ?hf10)
      case ht10 =>
        replace H := cond_t hb H
        refine DK.seg hG 7 [0, 1, 2, 7, 42] (t' := [(0, .sl 66 (List.map Rule.av l) f_l), (1, .sc (.int .u16 n)), (2, .sc (.int .u16 m1)), (7, .sc (.int .i64 i)), (42, .sc (.bool true))]) (h' := []) (by kernel_rfl) rfl ?_
        refine DK.done (by kernel_rfl) (by kernel_rfl) ?_
        refine AR.seg hG hm 2 [] (k' := [.code [1, 1, 0, 1, 0, 0, 1, 0, 0, 1, 0, 0], .code [1, 1, 0, 1, 0, 0, 1, 0, 0, 1, 0, 1], .blk 1, .code [1, 1, 0, 1, 0, 0, 1, 1], .loop [1, 1, 0, 1, 0], .blk 0, .code [1, 1, 1]]) (t' := []) (h' := []) (by kernel_rfl) ?_
        refine AR.reg hm podestalaw06_LapseParts_k3 (by kernel_rfl) ?_
        refine DK.op' [43] (t' := [(43, .sc (.bool true))]) (h' := []) (LSpec.callP' (answers06_calls) (by kernel_rfl)) (by kernel_rfl) rfl (by kernel_rfl) rfl ?_
        refine DK.seg hG 1 [6] (t' := [(6, .sc (.bool true))]) (h' := []) (by kernel_rfl) rfl ?_
        refine DK.done (by kernel_rfl) (by kernel_rfl) ?_
        obtain rfl := Option.some.inj H
        obtain rfl := Jr _ rfl
        exact AR.ret0 (fn := Try.f12) hG Try.func12 (by kernel_rfl) hc0 (r0 := .sc (.bool true)) (by kernel_rfl) (WkV.refl _)
      case hf10 =>
        replace H := cond_f hb H
        refine DK.seg hG 2 [0, 1, 2, 7, 35, 36, 37] (t' := [(0, .sl 66 (List.map Rule.av l) f_l), (1, .sc (.int .u16 n)), (2, .sc (.int .u16 m1)), (7, .sc (.int .i64 i)), (35, .sc (.bool false)), (36, .sl 66 (List.map Rule.av l) f_l), (37, .sc (.int .i64 i))]) (h' := []) (by kernel_rfl) rfl ?_
        obtain ⟨x1, hv, H⟩ := Option.bind_eq_some_iff.1 H
        refine DK.op' [0, 1, 2, 7, 35, 38] (t' := [(0, .sl 66 (List.map Rule.av l) f_l), (1, .sc (.int .u16 n)), (2, .sc (.int .u16 m1)), (7, .sc (.int .i64 i)), (35, .sc (.bool false)), (38, .ep [.arr .u64 12 x1.Match.Value, .arr .u64 12 x1.Match.Care, .sc (.int .i64 x1.Prio), .sl 110 (List.map Act.av x1.Acts) false, .sc (.int .i64 x1.Idle), .sc (.int .i64 x1.Hard), .sc (.int .i64 x1.Owner), .sc (.int .i64 x1.Hits), .sc (.int .i64 x1.Quiet), .sc (.int .i64 x1.Age)] 0 none)]) (h' := []) (LSpec.index' (r := Rule.av x1) (fs := [.arr .u64 12 x1.Match.Value, .arr .u64 12 x1.Match.Care, .sc (.int .i64 x1.Prio), .sl 110 (List.map Act.av x1.Acts) false, .sc (.int .i64 x1.Idle), .sc (.int .i64 x1.Hard), .sc (.int .i64 x1.Owner), .sc (.int .i64 x1.Hits), .sc (.int .i64 x1.Quiet), .sc (.int .i64 x1.Age)]) hG (rows := List.map Rule.av l) (j := i) (by kernel_rfl) (ixO_map hv _) (by kernel_rfl)) (by kernel_rfl) rfl (by kernel_rfl) rfl ?_
        refine DK.seg hG 4 [0, 1, 2, 7, 42] (t' := [(0, .sl 66 (List.map Rule.av l) f_l), (1, .sc (.int .u16 n)), (2, .sc (.int .u16 m1)), (7, .sc (.int .i64 i)), (42, .sc (.bool (decide (x1.Quiet > 2305843009213693952))))]) (h' := []) (by kernel_rfl) rfl ?_
        refine DK.done (by kernel_rfl) (by kernel_rfl) ?_
        refine AR.cond (.tmp 42) (decide (x1.Quiet > 2305843009213693952)) (by kernel_rfl) (by kernel_rfl) (fun hb => ?ht11) (fun hb => ?hf11)
        case ht11 =>
          replace H := cond_t hb H
          refine AR.seg hG hm 1 [] (k' := [.code [1, 1, 0, 1, 0, 0, 1, 0, 0, 1, 0, 0], .code [1, 1, 0, 1, 0, 0, 1, 0, 0, 1, 0, 1], .blk 1, .code [1, 1, 0, 1, 0, 0, 1, 1], .loop [1, 1, 0, 1, 0], .blk 0, .code [1, 1, 1]]) (t' := []) (h' := []) (by kernel_rfl) ?_
          refine AR.reg hm podestalaw06_LapseParts_k4 (by kernel_rfl) ?_
          refine DK.op' [43] (t' := [(43, .sc (.bool true))]) (h' := []) (LSpec.callP' (answers06_calls) (by kernel_rfl)) (by kernel_rfl) rfl (by kernel_rfl) rfl ?_
          refine DK.seg hG 1 [6] (t' := [(6, .sc (.bool true))]) (h' := []) (by kernel_rfl) rfl ?_
          refine DK.done (by kernel_rfl) (by kernel_rfl) ?_
          obtain rfl := Option.some.inj H
          obtain rfl := Jr _ rfl
          exact AR.ret0 (fn := Try.f12) hG Try.func12 (by kernel_rfl) hc0 (r0 := .sc (.bool true)) (by kernel_rfl) (WkV.refl _)
        case hf11 =>
          replace H := cond_f hb H
          refine AR.seg hG hm 3 [0, 1, 2, 7] (k' := [.loop [1, 1, 0, 1, 0], .blk 0, .code [1, 1, 1]]) (t' := [(0, .sl 66 (List.map Rule.av l) f_l), (1, .sc (.int .u16 n)), (2, .sc (.int .u16 m1)), (7, .sc (.int .i64 (IntKind.i64.wrap (i + 1))))]) (h' := []) (by kernel_rfl) ?_
          refine AR.keep [0, 1, 2, 7] (t' := [(0, .sl 66 (List.map Rule.av l) f_l), (1, .sc (.int .u16 n)), (2, .sc (.int .u16 m1)), (7, .sc (.int .i64 (IntKind.i64.wrap (i + 1))))]) (by kernel_rfl) ?_
          refine AR.loop_round ?_
          exact ih (IntKind.i64.wrap (i + 1)) H
    case hf9 =>
      replace H := cond_f hb H
      refine AR.seg hG hm 1 [0, 1, 2] (k' := [.code [1, 1, 1]]) (t' := [(0, .sl 66 (List.map Rule.av l) f_l), (1, .sc (.int .u16 n)), (2, .sc (.int .u16 m1))]) (h' := []) (by kernel_rfl) ?_
      refine AR.keep [0, 1, 2] (t' := [(0, .sl 66 (List.map Rule.av l) f_l), (1, .sc (.int .u16 n)), (2, .sc (.int .u16 m1))]) (by kernel_rfl) ?_
      exact J () (Option.some.inj H).symm
def podestalaw06_LapseParts_raw (q0 : Nat) (l : List Rule) (n : Int) (m1 : Int) : Option (Bool) :=
  (bif ((decide ((((List.map Rule.av l).length : Nat) : Int) > 40)) || (!(TableOk l))) then
    some true
  else
    loopO (podestalaw06_LapseParts_l0 l q0 0) fun v =>
    some ((((Tick ((Tick l (IntKind.i64.wrap n)).1) (IntKind.i64.wrap m1)).1) == ((Tick l (IntKind.i64.wrap ((IntKind.i64.wrap n) + (IntKind.i64.wrap m1)))).1)) && ((IntKind.i64.wrap ((((List.map Rule.av ((Tick l (IntKind.i64.wrap n)).2)).length : Nat) : Int) + (((List.map Rule.av ((Tick ((Tick l (IntKind.i64.wrap n)).1) (IntKind.i64.wrap m1)).2)).length : Nat) : Int))) == (((List.map Rule.av ((Tick l (IntKind.i64.wrap ((IntKind.i64.wrap n) + (IntKind.i64.wrap m1)))).2)).length : Nat) : Int))))
theorem podestalaw06_LapseParts_walk (q0 : Nat) (l : List Rule) (n : Int) (m1 : Int) (f_l : Bool) (r : Bool) (H : podestalaw06_LapseParts_raw q0 l n m1 = some r) :
    ACalls Try.prog tab.S 12 [.sl 66 (List.map Rule.av l) f_l, .sc (.int .u16 n), .sc (.int .u16 m1)] [] (.sc (.bool r)) [] := by
  have hG := tab_ok
  have hm := mixed
  refine ACalls.of_AR (G := tab) podestalaw06_LapseParts_F (fn := Try.f12) Try.func12 (by kernel_rfl) (by kernel_rfl) (by kernel_rfl) (Nat.le_of_ble_eq_true (by kernel_rfl)) ?_
  intro c0 hc0
  replace hc0 : c0.m.length = 0 := hc0
  rw [podestalaw06_LapseParts_raw] at H
  refine AR.seg hG hm 4 [0, 1, 2] (k' := [.code [1, 0, 0], .code [1, 0, 1], .code [1, 1]]) (t' := [(0, .sl 66 (List.map Rule.av l) f_l), (1, .sc (.int .u16 n)), (2, .sc (.int .u16 m1))]) (h' := []) (by kernel_rfl) ?_
  refine AR.reg hm podestalaw06_LapseParts_k0 (by kernel_rfl) ?_
  refine DK.seg hG 4 [0, 1, 2, 17] (t' := [(0, .sl 66 (List.map Rule.av l) f_l), (1, .sc (.int .u16 n)), (2, .sc (.int .u16 m1)), (17, .sc (.bool (decide ((((List.map Rule.av l).length : Nat) : Int) > 40))))]) (h' := []) (by kernel_rfl) rfl ?_
  refine DK.mux 17 (decide ((((List.map Rule.av l).length : Nat) : Int) > 40)) (j := 8) (h' := []) (by kernel_rfl) (fun z => [(0, .sl 66 (List.map Rule.av l) f_l), (1, .sc (.int .u16 n)), (2, .sc (.int .u16 m1)), (21, .sc (.bool (z || (!(TableOk l)))))]) ?J1 (fun hb J => ?ht1) (fun hb J => ?hf1)
  case ht1 =>
    exact DK.seg hG 4 [0, 1, 2, 21] (by kernel_rfl) rfl J
  case hf1 =>
    refine DK.seg hG 1 [0, 1, 2, 17, 18] (t' := [(0, .sl 66 (List.map Rule.av l) f_l), (1, .sc (.int .u16 n)), (2, .sc (.int .u16 m1)), (17, .sc (.bool false)), (18, .sl 66 (List.map Rule.av l) f_l)]) (h' := []) (by kernel_rfl) rfl ?_
    refine DK.op' [0, 1, 2, 17, 19] (t' := [(0, .sl 66 (List.map Rule.av l) f_l), (1, .sc (.int .u16 n)), (2, .sc (.int .u16 m1)), (17, .sc (.bool false)), (19, .sc (.bool (TableOk l)))]) (h' := []) (LSpec.callP' (Table_calls l f_l) (by kernel_rfl)) (by kernel_rfl) rfl (by kernel_rfl) rfl ?_
    exact DK.seg hG 2 [0, 1, 2, 21] (by kernel_rfl) rfl J
  refine DK.done (by kernel_rfl) (by kernel_rfl) ?_
  refine AR.cond (.tmp 21) ((decide ((((List.map Rule.av l).length : Nat) : Int) > 40)) || (!(TableOk l))) (by kernel_rfl) (by kernel_rfl) (fun hb => ?ht2) (fun hb => ?hf2)
  case ht2 =>
    replace H := cond_t hb H
    refine AR.seg hG hm 1 [] (k' := [.code [1, 0, 1, 0, 0], .code [1, 0, 1, 0, 1], .code [1, 1]]) (t' := []) (h' := []) (by kernel_rfl) ?_
    refine AR.reg hm podestalaw06_LapseParts_k1 (by kernel_rfl) ?_
    refine DK.op' [22] (t' := [(22, .sc (.bool true))]) (h' := []) (LSpec.callP' (answers06_calls) (by kernel_rfl)) (by kernel_rfl) rfl (by kernel_rfl) rfl ?_
    refine DK.seg hG 1 [6] (t' := [(6, .sc (.bool true))]) (h' := []) (by kernel_rfl) rfl ?_
    refine DK.done (by kernel_rfl) (by kernel_rfl) ?_
    obtain rfl := Option.some.inj H
    exact AR.ret0 (fn := Try.f12) hG Try.func12 (by kernel_rfl) hc0 (r0 := .sc (.bool true)) (by kernel_rfl) (WkV.refl _)
  case hf2 =>
    replace H := cond_f hb H
    refine AR.seg hG hm 5 [0, 1, 2, 7] (k' := [.code [1, 1, 0, 1, 0], .blk 0, .code [1, 1, 1]]) (t' := [(0, .sl 66 (List.map Rule.av l) f_l), (1, .sc (.int .u16 n)), (2, .sc (.int .u16 m1)), (7, .sc (.int .i64 0))]) (h' := []) (by kernel_rfl) ?_
    rcases loopO_some H with ⟨v, hv, H⟩ | hv
    case inr =>
      refine AR.into (by kernel_rfl) ?_
      exact podestalaw06_LapseParts_l0_walk q0 l n m1 f_l r c0 hc0 (.inr r) (fun _ e => by cases e) (fun _ e => (Sum.inr.inj e).symm) q0 0 hv
    refine AR.into (by kernel_rfl) ?_
    refine podestalaw06_LapseParts_l0_walk q0 l n m1 f_l r c0 hc0 (.inl v) (fun w e => ?_) (fun _ e => by cases e) q0 0 hv
    have e := Sum.inl.inj e
    subst e
    refine AR.seg hG hm 1 [0, 1, 2] (k' := [.code [1, 1, 1, 0], .code [1, 1, 1, 1]]) (t' := [(0, .sl 66 (List.map Rule.av l) f_l), (1, .sc (.int .u16 n)), (2, .sc (.int .u16 m1))]) (h' := []) (by kernel_rfl) ?_
    refine AR.reg hm podestalaw06_LapseParts_k5 (by kernel_rfl) ?_
    refine DK.seg hG 3 [0, 1, 2, 45, 47] (t' := [(0, .sl 66 (List.map Rule.av l) f_l), (1, .sc (.int .u16 n)), (2, .sc (.int .u16 m1)), (45, .sl 66 (List.map Rule.av l) f_l), (47, .sc (.int .i64 (IntKind.i64.wrap n)))]) (h' := []) (by kernel_rfl) rfl ?_
    refine DK.op' [0, 1, 2, 48] (t' := [(0, .sl 66 (List.map Rule.av l) f_l), (1, .sc (.int .u16 n)), (2, .sc (.int .u16 m1)), (48, .tup [.sl 66 (List.map Rule.av ((Tick l (IntKind.i64.wrap n)).1)) false, .sl 66 (List.map Rule.av ((Tick l (IntKind.i64.wrap n)).2)) false])]) (h' := []) (LSpec.callP' (Tick_calls l (IntKind.i64.wrap n) f_l) (by kernel_rfl)) (by kernel_rfl) rfl (by kernel_rfl) rfl ?_
    refine DK.seg hG 5 [0, 1, 2, 8, 9] (t' := [(0, .sl 66 (List.map Rule.av l) f_l), (1, .sc (.int .u16 n)), (2, .sc (.int .u16 m1)), (8, .sl 66 (List.map Rule.av ((Tick l (IntKind.i64.wrap n)).1)) false), (9, .sl 66 (List.map Rule.av ((Tick l (IntKind.i64.wrap n)).2)) false)]) (h' := []) (by kernel_rfl) rfl ?_
    refine DK.done (by kernel_rfl) (by kernel_rfl) ?_
    refine AR.seg hG hm 1 [0, 1, 2, 8, 9] (k' := [.code [1, 1, 1, 1, 0], .code [1, 1, 1, 1, 1]]) (t' := [(0, .sl 66 (List.map Rule.av l) f_l), (1, .sc (.int .u16 n)), (2, .sc (.int .u16 m1)), (8, .sl 66 (List.map Rule.av ((Tick l (IntKind.i64.wrap n)).1)) false), (9, .sl 66 (List.map Rule.av ((Tick l (IntKind.i64.wrap n)).2)) false)]) (h' := []) (by kernel_rfl) ?_
    refine AR.reg hm podestalaw06_LapseParts_k6 (by kernel_rfl) ?_
    refine DK.seg hG 3 [0, 1, 2, 9, 52, 54] (t' := [(0, .sl 66 (List.map Rule.av l) f_l), (1, .sc (.int .u16 n)), (2, .sc (.int .u16 m1)), (9, .sl 66 (List.map Rule.av ((Tick l (IntKind.i64.wrap n)).2)) false), (52, .sl 66 (List.map Rule.av ((Tick l (IntKind.i64.wrap n)).1)) false), (54, .sc (.int .i64 (IntKind.i64.wrap m1)))]) (h' := []) (by kernel_rfl) rfl ?_
    refine DK.op' [0, 1, 2, 9, 55] (t' := [(0, .sl 66 (List.map Rule.av l) f_l), (1, .sc (.int .u16 n)), (2, .sc (.int .u16 m1)), (9, .sl 66 (List.map Rule.av ((Tick l (IntKind.i64.wrap n)).2)) false), (55, .tup [.sl 66 (List.map Rule.av ((Tick ((Tick l (IntKind.i64.wrap n)).1) (IntKind.i64.wrap m1)).1)) false, .sl 66 (List.map Rule.av ((Tick ((Tick l (IntKind.i64.wrap n)).1) (IntKind.i64.wrap m1)).2)) false])]) (h' := []) (LSpec.callP' (Tick_calls ((Tick l (IntKind.i64.wrap n)).1) (IntKind.i64.wrap m1) false) (by kernel_rfl)) (by kernel_rfl) rfl (by kernel_rfl) rfl ?_
    refine DK.seg hG 5 [0, 1, 2, 9, 10, 11] (t' := [(0, .sl 66 (List.map Rule.av l) f_l), (1, .sc (.int .u16 n)), (2, .sc (.int .u16 m1)), (9, .sl 66 (List.map Rule.av ((Tick l (IntKind.i64.wrap n)).2)) false), (10, .sl 66 (List.map Rule.av ((Tick ((Tick l (IntKind.i64.wrap n)).1) (IntKind.i64.wrap m1)).1)) false), (11, .sl 66 (List.map Rule.av ((Tick ((Tick l (IntKind.i64.wrap n)).1) (IntKind.i64.wrap m1)).2)) false)]) (h' := []) (by kernel_rfl) rfl ?_
    refine DK.done (by kernel_rfl) (by kernel_rfl) ?_
    refine AR.seg hG hm 1 [0, 1, 2, 9, 10, 11] (k' := [.code [1, 1, 1, 1, 1, 0], .code [1, 1, 1, 1, 1, 1]]) (t' := [(0, .sl 66 (List.map Rule.av l) f_l), (1, .sc (.int .u16 n)), (2, .sc (.int .u16 m1)), (9, .sl 66 (List.map Rule.av ((Tick l (IntKind.i64.wrap n)).2)) false), (10, .sl 66 (List.map Rule.av ((Tick ((Tick l (IntKind.i64.wrap n)).1) (IntKind.i64.wrap m1)).1)) false), (11, .sl 66 (List.map Rule.av ((Tick ((Tick l (IntKind.i64.wrap n)).1) (IntKind.i64.wrap m1)).2)) false)]) (h' := []) (by kernel_rfl) ?_
    refine AR.reg hm podestalaw06_LapseParts_k7 (by kernel_rfl) ?_
    refine DK.seg hG 6 [9, 10, 11, 59, 64] (t' := [(9, .sl 66 (List.map Rule.av ((Tick l (IntKind.i64.wrap n)).2)) false), (10, .sl 66 (List.map Rule.av ((Tick ((Tick l (IntKind.i64.wrap n)).1) (IntKind.i64.wrap m1)).1)) false), (11, .sl 66 (List.map Rule.av ((Tick ((Tick l (IntKind.i64.wrap n)).1) (IntKind.i64.wrap m1)).2)) false), (59, .sl 66 (List.map Rule.av l) f_l), (64, .sc (.int .i64 (IntKind.i64.wrap ((IntKind.i64.wrap n) + (IntKind.i64.wrap m1)))))]) (h' := []) (by kernel_rfl) rfl ?_
    refine DK.op' [9, 10, 11, 65] (t' := [(9, .sl 66 (List.map Rule.av ((Tick l (IntKind.i64.wrap n)).2)) false), (10, .sl 66 (List.map Rule.av ((Tick ((Tick l (IntKind.i64.wrap n)).1) (IntKind.i64.wrap m1)).1)) false), (11, .sl 66 (List.map Rule.av ((Tick ((Tick l (IntKind.i64.wrap n)).1) (IntKind.i64.wrap m1)).2)) false), (65, .tup [.sl 66 (List.map Rule.av ((Tick l (IntKind.i64.wrap ((IntKind.i64.wrap n) + (IntKind.i64.wrap m1)))).1)) false, .sl 66 (List.map Rule.av ((Tick l (IntKind.i64.wrap ((IntKind.i64.wrap n) + (IntKind.i64.wrap m1)))).2)) false])]) (h' := []) (LSpec.callP' (Tick_calls l (IntKind.i64.wrap ((IntKind.i64.wrap n) + (IntKind.i64.wrap m1))) f_l) (by kernel_rfl)) (by kernel_rfl) rfl (by kernel_rfl) rfl ?_
    refine DK.seg hG 5 [9, 10, 11, 12, 13] (t' := [(9, .sl 66 (List.map Rule.av ((Tick l (IntKind.i64.wrap n)).2)) false), (10, .sl 66 (List.map Rule.av ((Tick ((Tick l (IntKind.i64.wrap n)).1) (IntKind.i64.wrap m1)).1)) false), (11, .sl 66 (List.map Rule.av ((Tick ((Tick l (IntKind.i64.wrap n)).1) (IntKind.i64.wrap m1)).2)) false), (12, .sl 66 (List.map Rule.av ((Tick l (IntKind.i64.wrap ((IntKind.i64.wrap n) + (IntKind.i64.wrap m1)))).1)) false), (13, .sl 66 (List.map Rule.av ((Tick l (IntKind.i64.wrap ((IntKind.i64.wrap n) + (IntKind.i64.wrap m1)))).2)) false)]) (h' := []) (by kernel_rfl) rfl ?_
    refine DK.done (by kernel_rfl) (by kernel_rfl) ?_
    refine AR.seg hG hm 1 [9, 10, 11, 12, 13] (k' := [.code [1, 1, 1, 1, 1, 1, 0], .code [1, 1, 1, 1, 1, 1, 1]]) (t' := [(9, .sl 66 (List.map Rule.av ((Tick l (IntKind.i64.wrap n)).2)) false), (10, .sl 66 (List.map Rule.av ((Tick ((Tick l (IntKind.i64.wrap n)).1) (IntKind.i64.wrap m1)).1)) false), (11, .sl 66 (List.map Rule.av ((Tick ((Tick l (IntKind.i64.wrap n)).1) (IntKind.i64.wrap m1)).2)) false), (12, .sl 66 (List.map Rule.av ((Tick l (IntKind.i64.wrap ((IntKind.i64.wrap n) + (IntKind.i64.wrap m1)))).1)) false), (13, .sl 66 (List.map Rule.av ((Tick l (IntKind.i64.wrap ((IntKind.i64.wrap n) + (IntKind.i64.wrap m1)))).2)) false)]) (h' := []) (by kernel_rfl) ?_
    refine AR.reg hm podestalaw06_LapseParts_k8 (by kernel_rfl) ?_
    refine DK.op' [9, 10, 11, 12, 13, 68] (t' := [(9, .sl 66 (List.map Rule.av ((Tick l (IntKind.i64.wrap n)).2)) false), (10, .sl 66 (List.map Rule.av ((Tick ((Tick l (IntKind.i64.wrap n)).1) (IntKind.i64.wrap m1)).1)) false), (11, .sl 66 (List.map Rule.av ((Tick ((Tick l (IntKind.i64.wrap n)).1) (IntKind.i64.wrap m1)).2)) false), (12, .sl 66 (List.map Rule.av ((Tick l (IntKind.i64.wrap ((IntKind.i64.wrap n) + (IntKind.i64.wrap m1)))).1)) false), (13, .sl 66 (List.map Rule.av ((Tick l (IntKind.i64.wrap ((IntKind.i64.wrap n) + (IntKind.i64.wrap m1)))).2)) false), (68, .sc (.bool true))]) (h' := []) (LSpec.callP' (answers06_calls) (by kernel_rfl)) (by kernel_rfl) rfl (by kernel_rfl) rfl ?_
    refine DK.seg hG 3 [9, 11, 13, 69, 70, 71] (t' := [(9, .sl 66 (List.map Rule.av ((Tick l (IntKind.i64.wrap n)).2)) false), (11, .sl 66 (List.map Rule.av ((Tick ((Tick l (IntKind.i64.wrap n)).1) (IntKind.i64.wrap m1)).2)) false), (13, .sl 66 (List.map Rule.av ((Tick l (IntKind.i64.wrap ((IntKind.i64.wrap n) + (IntKind.i64.wrap m1)))).2)) false), (69, .sc (.bool true)), (70, .sl 66 (List.map Rule.av ((Tick ((Tick l (IntKind.i64.wrap n)).1) (IntKind.i64.wrap m1)).1)) false), (71, .sl 66 (List.map Rule.av ((Tick l (IntKind.i64.wrap ((IntKind.i64.wrap n) + (IntKind.i64.wrap m1)))).1)) false)]) (h' := []) (by kernel_rfl) rfl ?_
    refine DK.op' [9, 11, 13, 69, 72] (t' := [(9, .sl 66 (List.map Rule.av ((Tick l (IntKind.i64.wrap n)).2)) false), (11, .sl 66 (List.map Rule.av ((Tick ((Tick l (IntKind.i64.wrap n)).1) (IntKind.i64.wrap m1)).2)) false), (13, .sl 66 (List.map Rule.av ((Tick l (IntKind.i64.wrap ((IntKind.i64.wrap n) + (IntKind.i64.wrap m1)))).2)) false), (69, .sc (.bool true)), (72, .sc (.bool (((Tick ((Tick l (IntKind.i64.wrap n)).1) (IntKind.i64.wrap m1)).1) == ((Tick l (IntKind.i64.wrap ((IntKind.i64.wrap n) + (IntKind.i64.wrap m1)))).1))))]) (h' := []) (LSpec.callP' (Same_calls ((Tick ((Tick l (IntKind.i64.wrap n)).1) (IntKind.i64.wrap m1)).1) ((Tick l (IntKind.i64.wrap ((IntKind.i64.wrap n) + (IntKind.i64.wrap m1)))).1) false false) (by kernel_rfl)) (by kernel_rfl) rfl (by kernel_rfl) rfl ?_
    refine DK.seg hG 2 [9, 11, 13, 74] (t' := [(9, .sl 66 (List.map Rule.av ((Tick l (IntKind.i64.wrap n)).2)) false), (11, .sl 66 (List.map Rule.av ((Tick ((Tick l (IntKind.i64.wrap n)).1) (IntKind.i64.wrap m1)).2)) false), (13, .sl 66 (List.map Rule.av ((Tick l (IntKind.i64.wrap ((IntKind.i64.wrap n) + (IntKind.i64.wrap m1)))).2)) false), (74, .sc (.bool (((Tick ((Tick l (IntKind.i64.wrap n)).1) (IntKind.i64.wrap m1)).1) == ((Tick l (IntKind.i64.wrap ((IntKind.i64.wrap n) + (IntKind.i64.wrap m1)))).1))))]) (h' := []) (by kernel_rfl) rfl ?_
    refine DK.mux 74 (((Tick ((Tick l (IntKind.i64.wrap n)).1) (IntKind.i64.wrap m1)).1) == ((Tick l (IntKind.i64.wrap ((IntKind.i64.wrap n) + (IntKind.i64.wrap m1)))).1)) (j := 16) (h' := []) (by kernel_rfl) (fun z => [(83, .sc (.bool (z && ((IntKind.i64.wrap ((((List.map Rule.av ((Tick l (IntKind.i64.wrap n)).2)).length : Nat) : Int) + (((List.map Rule.av ((Tick ((Tick l (IntKind.i64.wrap n)).1) (IntKind.i64.wrap m1)).2)).length : Nat) : Int))) == (((List.map Rule.av ((Tick l (IntKind.i64.wrap ((IntKind.i64.wrap n) + (IntKind.i64.wrap m1)))).2)).length : Nat) : Int)))))]) ?J12 (fun hb J => ?ht12) (fun hb J => ?hf12)
    case ht12 =>
      exact DK.seg hG 9 [83] (by kernel_rfl) rfl J
    case hf12 =>
      exact DK.seg hG 9 [83] (by kernel_rfl) rfl J
    refine DK.seg hG 1 [6] (t' := [(6, .sc (.bool ((((Tick ((Tick l (IntKind.i64.wrap n)).1) (IntKind.i64.wrap m1)).1) == ((Tick l (IntKind.i64.wrap ((IntKind.i64.wrap n) + (IntKind.i64.wrap m1)))).1)) && ((IntKind.i64.wrap ((((List.map Rule.av ((Tick l (IntKind.i64.wrap n)).2)).length : Nat) : Int) + (((List.map Rule.av ((Tick ((Tick l (IntKind.i64.wrap n)).1) (IntKind.i64.wrap m1)).2)).length : Nat) : Int))) == (((List.map Rule.av ((Tick l (IntKind.i64.wrap ((IntKind.i64.wrap n) + (IntKind.i64.wrap m1)))).2)).length : Nat) : Int)))))]) (h' := []) (by kernel_rfl) rfl ?_
    refine DK.done (by kernel_rfl) (by kernel_rfl) ?_
    obtain rfl := Option.some.inj H
    exact AR.ret0 (fn := Try.f12) hG Try.func12 (by kernel_rfl) hc0 (r0 := .sc (.bool ((((Tick ((Tick l (IntKind.i64.wrap n)).1) (IntKind.i64.wrap m1)).1) == ((Tick l (IntKind.i64.wrap ((IntKind.i64.wrap n) + (IntKind.i64.wrap m1)))).1)) && ((IntKind.i64.wrap ((((List.map Rule.av ((Tick l (IntKind.i64.wrap n)).2)).length : Nat) : Int) + (((List.map Rule.av ((Tick ((Tick l (IntKind.i64.wrap n)).1) (IntKind.i64.wrap m1)).2)).length : Nat) : Int))) == (((List.map Rule.av ((Tick l (IntKind.i64.wrap ((IntKind.i64.wrap n) + (IntKind.i64.wrap m1)))).2)).length : Nat) : Int))))) (by kernel_rfl) (WkV.refl _)

end Go.Proofs.Ytjchejmakdkioaa
