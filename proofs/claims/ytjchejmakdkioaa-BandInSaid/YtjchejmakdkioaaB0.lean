import Derived.Test.YtjchejmakdkioaaTab
import Derived.Test.YtjchejmakdkioaaShW
set_option linter.unusedVariables false
set_option maxRecDepth 100000
set_option maxHeartbeats 4000000
namespace Go.Proofs.Ytjchejmakdkioaa
open Go.Sh
structure Band where
  Low : Int
  High : Int
  deriving DecidableEq, Inhabited
def Band.av (r : Band) : AV := .agg [.sc (.int .i64 r.Low), .sc (.int .i64 r.High)]

/-! ### band.Of: function 15 -/
noncomputable def band_Of_F : Go.Sh.Fn := ⟨15, bodyOf Try.f15, 18⟩
def band_Of_k0 : List Kd := [.pure, .pure, .pure, .pure, .pure, .pure]
def band_Of (app : Int) : Band × Bool :=
  (bif ((decide (app < 1)) || (decide (app > 8))) then
    (({ Low := 0, High := 0 } : Band), false)
  else
    (({ Low := (IntKind.i64.wrap (app * 1000)), High := (IntKind.i64.wrap ((IntKind.i64.wrap ((IntKind.i64.wrap (app + 1)) * 1000)) - 1)) } : Band), true))
theorem band_Of_walk (app : Int) (r : Band × Bool) (H : band_Of app = r) :
    ACalls Try.prog tab.S 15 [.sc (.int .i64 app)] [] (.tup [Band.av r.1, .sc (.bool r.2)]) [] := by
  have hG := tab_ok
  have hm := mixed
  refine ACalls.of_AR (G := tab) band_Of_F (fn := Try.f15) Try.func15 (by kernel_rfl) (by kernel_rfl) (by kernel_rfl) (Nat.le_of_ble_eq_true (by kernel_rfl)) ?_
  intro c0 hc0
  replace hc0 : c0.m.length = 0 := hc0
  rw [band_Of] at H
  refine AR.seg hG hm 4 [0, 2] (k' := [.code [1, 0, 0], .code [1, 0, 1], .code [1, 1]]) (t' := [(0, .sc (.int .i64 app)), (2, .ptr 0 0 none)]) (h' := [.box 23 [.sc (.int .i64 0), .sc (.int .i64 0)]]) (by kernel_rfl) ?_
  refine AR.reg hm band_Of_k0 (by kernel_rfl) ?_
  refine DK.seg hG 3 [0, 2, 6] (t' := [(0, .sc (.int .i64 app)), (2, .ptr 0 0 none), (6, .sc (.bool (decide (app < 1))))]) (h' := [.box 23 [.sc (.int .i64 0), .sc (.int .i64 0)]]) (by kernel_rfl) rfl ?_
  refine DK.mux 6 (decide (app < 1)) (j := 6) (h' := [.box 23 [.sc (.int .i64 0), .sc (.int .i64 0)]]) (by kernel_rfl) (fun z => [(0, .sc (.int .i64 app)), (2, .ptr 0 0 none), (9, .sc (.bool (z || (decide (app > 8)))))]) ?J1 (fun hb J => ?ht1) (fun hb J => ?hf1)
  case ht1 =>
    exact DK.seg hG 3 [0, 2, 9] (by kernel_rfl) rfl J
  case hf1 =>
    exact DK.seg hG 3 [0, 2, 9] (by kernel_rfl) rfl J
  refine DK.done (by kernel_rfl) (by kernel_rfl) ?_
  refine AR.cond (.tmp 9) ((decide (app < 1)) || (decide (app > 8))) (by kernel_rfl) (by kernel_rfl) (fun hb => ?ht2) (fun hb => ?hf2)
  case ht2 =>
    replace H := cond_t hb H
    refine AR.seg hG hm 2 [2, 3] (k' := [.code [1, 0, 1, 0, 1], .code [1, 1]]) (t' := [(2, .ptr 0 0 none), (3, .sc (.bool false))]) (h' := [.box 23 [.sc (.int .i64 0), .sc (.int .i64 0)]]) (by kernel_rfl) ?_
    subst H
    exact AR.ret0 (fn := Try.f15) hG Try.func15 (by kernel_rfl) hc0 (r0 := .tup [.agg [.sc (.int .i64 0), .sc (.int .i64 0)], .sc (.bool false)]) (by kernel_rfl) (WkV.refl _)
  case hf2 =>
    replace H := cond_f hb H
    refine AR.seg hG hm 3 [2, 3] (k' := [.code [1, 1, 1]]) (t' := [(2, .ptr 0 0 none), (3, .sc (.bool true))]) (h' := [.box 23 [.sc (.int .i64 (IntKind.i64.wrap (app * 1000))), .sc (.int .i64 (IntKind.i64.wrap ((IntKind.i64.wrap ((IntKind.i64.wrap (app + 1)) * 1000)) - 1)))]]) (by kernel_rfl) ?_
    subst H
    exact AR.ret0 (fn := Try.f15) hG Try.func15 (by kernel_rfl) hc0 (r0 := .tup [.agg [.sc (.int .i64 (IntKind.i64.wrap (app * 1000))), .sc (.int .i64 (IntKind.i64.wrap ((IntKind.i64.wrap ((IntKind.i64.wrap (app + 1)) * 1000)) - 1)))], .sc (.bool true)]) (by kernel_rfl) (WkV.refl _)
theorem band_Of_calls (app : Int) : ACalls Try.prog tab.S 15 [.sc (.int .i64 app)] [] (.tup [Band.av ((band_Of app).1), .sc (.bool ((band_Of app).2))]) [] := band_Of_walk app _ rfl

/-! ### band.In: function 18 -/
noncomputable def band_In_F : Go.Sh.Fn := ⟨18, bodyOf Try.f18, 15⟩
def band_In_k0 : List Kd := [.pure, .pure, .read, .pure, .pure, .pure, .pure, .read, .pure, .pure, .pure]
def band_In (b : Band) (prio : Int) : Bool :=
  ((decide (prio ≥ b.Low)) && (decide (prio ≤ b.High)))
theorem band_In_walk (b : Band) (prio : Int) (r : Bool) (H : band_In b prio = r) :
    ACalls Try.prog tab.S 18 [Band.av b, .sc (.int .i64 prio)] [] (.sc (.bool r)) [] := by
  have hG := tab_ok
  have hm := mixed
  refine ACalls.of_AR (G := tab) band_In_F (fn := Try.f18) Try.func18 (by kernel_rfl) (by kernel_rfl) (by kernel_rfl) (Nat.le_of_ble_eq_true (by kernel_rfl)) ?_
  intro c0 hc0
  replace hc0 : c0.m.length = 0 := hc0
  rw [band_In] at H
  refine AR.seg hG hm 3 [1, 2] (k' := [.code [1, 0], .code [1, 1]]) (t' := [(1, .sc (.int .i64 prio)), (2, .ptr 0 0 none)]) (h' := [.box 23 [.sc (.int .i64 b.Low), .sc (.int .i64 b.High)]]) (by kernel_rfl) ?_
  refine AR.reg hm band_In_k0 (by kernel_rfl) ?_
  refine DK.seg hG 5 [1, 2, 9] (t' := [(1, .sc (.int .i64 prio)), (2, .ptr 0 0 none), (9, .sc (.bool (decide (prio ≥ b.Low))))]) (h' := [.box 23 [.sc (.int .i64 b.Low), .sc (.int .i64 b.High)]]) (by kernel_rfl) rfl ?_
  refine DK.mux 9 (decide (prio ≥ b.Low)) (j := 10) (h' := [.box 23 [.sc (.int .i64 b.Low), .sc (.int .i64 b.High)]]) (by kernel_rfl) (fun z => [(14, .sc (.bool (z && (decide (prio ≤ b.High)))))]) ?J1 (fun hb J => ?ht1) (fun hb J => ?hf1)
  case ht1 =>
    exact DK.seg hG 5 [14] (by kernel_rfl) rfl J
  case hf1 =>
    exact DK.seg hG 5 [14] (by kernel_rfl) rfl J
  refine DK.seg hG 1 [4] (t' := [(4, .sc (.bool ((decide (prio ≥ b.Low)) && (decide (prio ≤ b.High)))))]) (h' := [.box 23 [.sc (.int .i64 b.Low), .sc (.int .i64 b.High)]]) (by kernel_rfl) rfl ?_
  refine DK.done (by kernel_rfl) (by kernel_rfl) ?_
  subst H
  exact AR.ret0 (fn := Try.f18) hG Try.func18 (by kernel_rfl) hc0 (r0 := .sc (.bool ((decide (prio ≥ b.Low)) && (decide (prio ≤ b.High))))) (by kernel_rfl) (WkV.refl _)
theorem band_In_calls (b : Band) (prio : Int) : ACalls Try.prog tab.S 18 [Band.av b, .sc (.int .i64 prio)] [] (.sc (.bool (band_In b prio))) [] := band_In_walk b prio _ rfl

/-! ### band.Owner: function 17 -/
noncomputable def band_Owner_F : Go.Sh.Fn := ⟨17, bodyOf Try.f17, 24⟩
def band_Owner_k1 : List Kd := [.pure, .pure, .read, .pure, .pure, .pure]
def band_Owner_k0 : List Kd := [.pure, .pure, .pure, .pure, .pure, .pure, .loud, .loud, .pure]
def band_Owner_l0 (prio : Int) : Nat → Int → Option (Sum (Unit) (Int))
  | 0, _ => none
  | m + 1, t6 =>
    (bif (decide (t6 < 8)) then
    (bif ((band_Of (IntKind.i64.wrap (t6 + 1))).2 && (band_In ((band_Of (IntKind.i64.wrap (t6 + 1))).1) prio)) then
      some (.inr (IntKind.i64.wrap (t6 + 1)))
    else
      band_Owner_l0 prio m (IntKind.i64.wrap (t6 + 1)))
  else
    some (.inl ()))
theorem band_Owner_l0_walk (q0 : Nat) (prio : Int)  (r : Int) (c0 : Ctx) (hc0 : c0.m.length = 0) (res : Sum (Unit) (Int)) (J : ∀ w : Unit, res = .inl w → AR Try.prog tab band_Owner_F c0 (Rp tab.S c0 (.sc (.int .i64 r)) []) [.code [1, 1]] [] []) (Jr : ∀ w, res = .inr w → w = r) :
    ∀ (m : Nat) (t6 : Int) (H : band_Owner_l0 prio m t6 = some res), AR Try.prog tab band_Owner_F c0 (Rp tab.S c0 (.sc (.int .i64 r)) []) [.code [1, 0, 1, 0, 0], .loop [1, 0, 1, 0], .blk 0, .code [1, 1]] [(0, .sc (.int .i64 prio)), (6, .sc (.int .i64 t6))] [] := by
  have hG := tab_ok
  have hm := mixed
  intro m
  induction m with
  | zero => intro t6 H; cases H
  | succ m ih =>
    intro t6 H
    rw [band_Owner_l0] at H
    refine AR.seg hG hm 3 [0, 6, 7] (k' := [.code [1, 0, 1, 0, 0, 1, 0], .code [1, 0, 1, 0, 0, 1, 1], .loop [1, 0, 1, 0], .blk 0, .code [1, 1]]) (t' := [(0, .sc (.int .i64 prio)), (6, .sc (.int .i64 t6)), (7, .sc (.bool (decide (t6 < 8))))]) (h' := []) (by kernel_rfl) ?_
    refine AR.cond (.tmp 7) (decide (t6 < 8)) (by kernel_rfl) (by kernel_rfl) (fun hb => ?ht7) (fun hb => ?hf7)
    case ht7 =>
      replace H := cond_t hb H
      refine AR.seg hG hm 6 [0, 3, 6] (k' := [.code [1, 0, 1, 0, 0, 1, 1, 0, 0, 1, 0], .code [1, 0, 1, 0, 0, 1, 1, 0, 0, 1, 1], .blk 1, .code [1, 0, 1, 0, 0, 1, 1, 1], .loop [1, 0, 1, 0], .blk 0, .code [1, 1]]) (t' := [(0, .sc (.int .i64 prio)), (3, .sc (.int .i64 t6)), (6, .sc (.int .i64 t6))]) (h' := []) (by kernel_rfl) ?_
      refine AR.reg hm band_Owner_k0 (by kernel_rfl) ?_
      refine DK.seg hG 2 [0, 3, 6, 11] (t' := [(0, .sc (.int .i64 prio)), (3, .sc (.int .i64 t6)), (6, .sc (.int .i64 t6)), (11, .sc (.int .i64 (IntKind.i64.wrap (t6 + 1))))]) (h' := []) (by kernel_rfl) rfl ?_
      refine DK.op' [0, 3, 6, 12] (t' := [(0, .sc (.int .i64 prio)), (3, .sc (.int .i64 t6)), (6, .sc (.int .i64 t6)), (12, .tup [Band.av ((band_Of (IntKind.i64.wrap (t6 + 1))).1), .sc (.bool ((band_Of (IntKind.i64.wrap (t6 + 1))).2))])]) (h' := []) (LSpec.callP' (band_Of_calls (IntKind.i64.wrap (t6 + 1))) (by kernel_rfl)) (by kernel_rfl) rfl (by kernel_rfl) rfl ?_
      refine DK.seg hG 6 [0, 3, 4, 5, 6] (t' := [(0, .sc (.int .i64 prio)), (3, .sc (.int .i64 t6)), (4, .ptr 0 0 none), (5, .sc (.bool ((band_Of (IntKind.i64.wrap (t6 + 1))).2))), (6, .sc (.int .i64 t6))]) (h' := [.box 23 [.sc (.int .i64 (((band_Of (IntKind.i64.wrap (t6 + 1))).1).Low)), .sc (.int .i64 (((band_Of (IntKind.i64.wrap (t6 + 1))).1).High))]]) (by kernel_rfl) rfl ?_
      refine DK.done (by kernel_rfl) (by kernel_rfl) ?_
      refine AR.seg hG hm 1 [0, 3, 4, 5, 6] (k' := [.code [1, 0, 1, 0, 0, 1, 1, 0, 0, 1, 1, 0], .code [1, 0, 1, 0, 0, 1, 1, 0, 0, 1, 1, 1], .blk 1, .code [1, 0, 1, 0, 0, 1, 1, 1], .loop [1, 0, 1, 0], .blk 0, .code [1, 1]]) (t' := [(0, .sc (.int .i64 prio)), (3, .sc (.int .i64 t6)), (4, .ptr 0 0 none), (5, .sc (.bool ((band_Of (IntKind.i64.wrap (t6 + 1))).2))), (6, .sc (.int .i64 t6))]) (h' := [.box 23 [.sc (.int .i64 (((band_Of (IntKind.i64.wrap (t6 + 1))).1).Low)), .sc (.int .i64 (((band_Of (IntKind.i64.wrap (t6 + 1))).1).High))]]) (by kernel_rfl) ?_
      refine AR.reg hm band_Owner_k1 (by kernel_rfl) ?_
      refine DK.seg hG 2 [0, 3, 4, 6, 16] (t' := [(0, .sc (.int .i64 prio)), (3, .sc (.int .i64 t6)), (4, .ptr 0 0 none), (6, .sc (.int .i64 t6)), (16, .sc (.bool ((band_Of (IntKind.i64.wrap (t6 + 1))).2)))]) (h' := [.box 23 [.sc (.int .i64 (((band_Of (IntKind.i64.wrap (t6 + 1))).1).Low)), .sc (.int .i64 (((band_Of (IntKind.i64.wrap (t6 + 1))).1).High))]]) (by kernel_rfl) rfl ?_
      refine DK.mux 16 ((band_Of (IntKind.i64.wrap (t6 + 1))).2) (j := 6) (h' := [.box 23 [.sc (.int .i64 (((band_Of (IntKind.i64.wrap (t6 + 1))).1).Low)), .sc (.int .i64 (((band_Of (IntKind.i64.wrap (t6 + 1))).1).High))]]) (by kernel_rfl) (fun z => [(0, .sc (.int .i64 prio)), (3, .sc (.int .i64 t6)), (6, .sc (.int .i64 t6)), (20, .sc (.bool (z && (band_In ((band_Of (IntKind.i64.wrap (t6 + 1))).1) prio))))]) ?J8 (fun hb J => ?ht8) (fun hb J => ?hf8)
      case ht8 =>
        refine DK.seg hG 2 [0, 3, 6, 16, 17, 18] (t' := [(0, .sc (.int .i64 prio)), (3, .sc (.int .i64 t6)), (6, .sc (.int .i64 t6)), (16, .sc (.bool true)), (17, Band.av ((band_Of (IntKind.i64.wrap (t6 + 1))).1)), (18, .sc (.int .i64 prio))]) (h' := [.box 23 [.sc (.int .i64 (((band_Of (IntKind.i64.wrap (t6 + 1))).1).Low)), .sc (.int .i64 (((band_Of (IntKind.i64.wrap (t6 + 1))).1).High))]]) (by kernel_rfl) rfl ?_
        refine DK.op' [0, 3, 6, 16, 19] (t' := [(0, .sc (.int .i64 prio)), (3, .sc (.int .i64 t6)), (6, .sc (.int .i64 t6)), (16, .sc (.bool true)), (19, .sc (.bool (band_In ((band_Of (IntKind.i64.wrap (t6 + 1))).1) prio)))]) (h' := [.box 23 [.sc (.int .i64 (((band_Of (IntKind.i64.wrap (t6 + 1))).1).Low)), .sc (.int .i64 (((band_Of (IntKind.i64.wrap (t6 + 1))).1).High))]]) (LSpec.callP' (band_In_calls ((band_Of (IntKind.i64.wrap (t6 + 1))).1) prio) (by kernel_rfl)) (by kernel_rfl) rfl (by kernel_rfl) rfl ?_
        exact DK.seg hG 1 [0, 3, 6, 20] (by kernel_rfl) rfl J
      case hf8 =>
        exact DK.seg hG 4 [0, 3, 6, 20] (by kernel_rfl) rfl J
      refine DK.done (by kernel_rfl) (by kernel_rfl) ?_
      refine AR.cond (.tmp 20) ((band_Of (IntKind.i64.wrap (t6 + 1))).2 && (band_In ((band_Of (IntKind.i64.wrap (t6 + 1))).1) prio)) (by kernel_rfl) (by kernel_rfl) (fun hb => ?ht9) (fun hb => ?hf9)
      case ht9 =>
        replace H := cond_t hb H
        refine AR.seg hG hm 2 [2] (k' := [.code [1, 0, 1, 0, 0, 1, 1, 0, 0, 1, 1, 1, 0, 1], .blk 1, .code [1, 0, 1, 0, 0, 1, 1, 1], .loop [1, 0, 1, 0], .blk 0, .code [1, 1]]) (t' := [(2, .sc (.int .i64 (IntKind.i64.wrap (t6 + 1))))]) (h' := [.box 23 [.sc (.int .i64 (((band_Of (IntKind.i64.wrap (t6 + 1))).1).Low)), .sc (.int .i64 (((band_Of (IntKind.i64.wrap (t6 + 1))).1).High))]]) (by kernel_rfl) ?_
        obtain rfl := Option.some.inj H
        obtain rfl := Jr _ rfl
        exact AR.ret0 (fn := Try.f17) hG Try.func17 (by kernel_rfl) hc0 (r0 := .sc (.int .i64 (IntKind.i64.wrap (t6 + 1)))) (by kernel_rfl) (WkV.refl _)
      case hf9 =>
        replace H := cond_f hb H
        refine AR.seg hG hm 3 [0, 6] (k' := [.loop [1, 0, 1, 0], .blk 0, .code [1, 1]]) (t' := [(0, .sc (.int .i64 prio)), (6, .sc (.int .i64 (IntKind.i64.wrap (t6 + 1))))]) (h' := [.box 23 [.sc (.int .i64 (((band_Of (IntKind.i64.wrap (t6 + 1))).1).Low)), .sc (.int .i64 (((band_Of (IntKind.i64.wrap (t6 + 1))).1).High))]]) (by kernel_rfl) ?_
        refine AR.keep [0, 6] (t' := [(0, .sc (.int .i64 prio)), (6, .sc (.int .i64 (IntKind.i64.wrap (t6 + 1))))]) (by kernel_rfl) ?_
        refine AR.drop' 0 hc0 (t' := [(0, .sc (.int .i64 prio)), (6, .sc (.int .i64 (IntKind.i64.wrap (t6 + 1))))]) (h' := []) (by kernel_rfl) ?_
        refine AR.loop_round ?_
        exact ih (IntKind.i64.wrap (t6 + 1)) H
    case hf7 =>
      replace H := cond_f hb H
      refine AR.seg hG hm 1 [] (k' := [.code [1, 1]]) (t' := []) (h' := []) (by kernel_rfl) ?_
      refine AR.keep [] (t' := []) (by kernel_rfl) ?_
      exact J () (Option.some.inj H).symm
def band_Owner_raw (q0 : Nat) (prio : Int) : Option (Int) :=
  loopO (band_Owner_l0 prio q0 0) fun v =>
  some 0
theorem band_Owner_walk (q0 : Nat) (prio : Int) (r : Int) (H : band_Owner_raw q0 prio = some r) :
    ACalls Try.prog tab.S 17 [.sc (.int .i64 prio)] [] (.sc (.int .i64 r)) [] := by
  have hG := tab_ok
  have hm := mixed
  refine ACalls.of_AR (G := tab) band_Owner_F (fn := Try.f17) Try.func17 (by kernel_rfl) (by kernel_rfl) (by kernel_rfl) (Nat.le_of_ble_eq_true (by kernel_rfl)) ?_
  intro c0 hc0
  replace hc0 : c0.m.length = 0 := hc0
  rw [band_Owner_raw] at H
  refine AR.seg hG hm 6 [0, 6] (k' := [.code [1, 0, 1, 0], .blk 0, .code [1, 1]]) (t' := [(0, .sc (.int .i64 prio)), (6, .sc (.int .i64 0))]) (h' := []) (by kernel_rfl) ?_
  rcases loopO_some H with ⟨v, hv, H⟩ | hv
  case inr =>
    refine AR.into (by kernel_rfl) ?_
    exact band_Owner_l0_walk q0 prio r c0 hc0 (.inr r) (fun _ e => by cases e) (fun _ e => (Sum.inr.inj e).symm) q0 0 hv
  refine AR.into (by kernel_rfl) ?_
  refine band_Owner_l0_walk q0 prio r c0 hc0 (.inl v) (fun w e => ?_) (fun _ e => by cases e) q0 0 hv
  have e := Sum.inl.inj e
  subst e
  refine AR.seg hG hm 2 [2] (k' := [.code [1, 1, 1]]) (t' := [(2, .sc (.int .i64 0))]) (h' := []) (by kernel_rfl) ?_
  obtain rfl := Option.some.inj H
  exact AR.ret0 (fn := Try.f17) hG Try.func17 (by kernel_rfl) hc0 (r0 := .sc (.int .i64 0)) (by kernel_rfl) (WkV.refl _)

end Go.Proofs.Ytjchejmakdkioaa
