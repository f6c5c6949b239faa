import Derived.Test.YtjchejmakdkioaaR5
set_option linter.unusedVariables false
set_option maxRecDepth 100000
set_option maxHeartbeats 4000000
namespace Go.Proofs.Ytjchejmakdkioaa
open Go.Sh
/-! ### podestaref01.Cube: function 61 -/
noncomputable def podestaref01_Cube_F : Go.Sh.Fn := ⟨61, bodyOf Try.f61, 11⟩
def podestaref01_Cube_k0 : List Kd := [.read, .pure, .pure, .pure, .pure, .pure, .pure]
def podestaref01_Cube (c : Cube) : Bool :=
  (TextOf c).2
theorem podestaref01_Cube_walk (c : Cube) (r : Bool) (H : podestaref01_Cube c = r) :
    ACalls Try.prog tab.S 61 [Cube.av c] [] (.sc (.bool r)) [] := by
  have hG := tab_ok
  have hm := mixed
  refine ACalls.of_AR (G := tab) podestaref01_Cube_F (fn := Try.f61) Try.func61 (by kernel_rfl) (by kernel_rfl) (by kernel_rfl) (Nat.le_of_ble_eq_true (by kernel_rfl)) ?_
  intro c0 hc0
  replace hc0 : c0.m.length = 0 := hc0
  rw [podestaref01_Cube] at H
  refine AR.seg hG hm 3 [1] (k' := [.code [1, 0], .code [1, 1]]) (t' := [(1, .ptr 0 0 none)]) (h' := [.box 63 [.arr .u64 12 c.Value, .arr .u64 12 c.Care]]) (by kernel_rfl) ?_
  refine AR.reg hm podestaref01_Cube_k0 (by kernel_rfl) ?_
  refine DK.seg hG 1 [6] (t' := [(6, Cube.av c)]) (h' := [.box 63 [.arr .u64 12 c.Value, .arr .u64 12 c.Care]]) (by kernel_rfl) rfl ?_
  refine DK.op' [7] (t' := [(7, .tup [.sc (.string ((TextOf c).1)), .sc (.bool ((TextOf c).2))])]) (h' := [.box 63 [.arr .u64 12 c.Value, .arr .u64 12 c.Care]]) (LSpec.callP' (Text_calls c) (by kernel_rfl)) (by kernel_rfl) rfl (by kernel_rfl) rfl ?_
  refine DK.seg hG 5 [4] (t' := [(4, .sc (.bool ((TextOf c).2)))]) (h' := [.box 63 [.arr .u64 12 c.Value, .arr .u64 12 c.Care]]) (by kernel_rfl) rfl ?_
  refine DK.done (by kernel_rfl) (by kernel_rfl) ?_
  refine AR.seg hG hm 2 [2] (k' := [.code [1, 1, 1]]) (t' := [(2, .sc (.bool ((TextOf c).2)))]) (h' := [.box 63 [.arr .u64 12 c.Value, .arr .u64 12 c.Care]]) (by kernel_rfl) ?_
  subst H
  exact AR.ret0 (fn := Try.f61) hG Try.func61 (by kernel_rfl) hc0 (r0 := .sc (.bool ((TextOf c).2))) (by kernel_rfl) (WkV.refl _)
theorem podestaref01_Cube_calls (c : Cube) : ACalls Try.prog tab.S 61 [Cube.av c] [] (.sc (.bool (podestaref01_Cube c))) [] := podestaref01_Cube_walk c _ rfl

/-! ### podestaref01.Order: function 70 -/
noncomputable def podestaref01_Order_F : Go.Sh.Fn := ⟨70, bodyOf Try.f70, 24⟩
def podestaref01_Order_k1 : List Kd := [.pure, .pure, .read, .pure, .pure, .read, .pure]
def podestaref01_Order_k0 : List Kd := [.pure, .pure, .read, .pure, .pure, .read, .pure]
def podestaref01_Order_l0 (a : List Int) (b : List Int) : Nat → Int → Option (Sum (Unit) (Int))
  | 0, _ => none
  | m + 1, i =>
    (bif (decide (i < 12)) then
    reqO (decide (0 ≤ i) && decide (i < ((12 : Nat) : Int))) (
    reqO (decide (0 ≤ i) && decide (i < ((12 : Nat) : Int))) (
    (bif (decide ((a.getD (i.toNat) 0) < (b.getD (i.toNat) 0))) then
      some (.inr (-1))
    else
      reqO (decide (0 ≤ i) && decide (i < ((12 : Nat) : Int))) (
      reqO (decide (0 ≤ i) && decide (i < ((12 : Nat) : Int))) (
      (bif (decide ((a.getD (i.toNat) 0) > (b.getD (i.toNat) 0))) then
        some (.inr 1)
      else
        podestaref01_Order_l0 a b m (IntKind.i64.wrap (i + 1))))))))
  else
    some (.inl ()))
theorem podestaref01_Order_l0_walk (q0 : Nat) (a : List Int) (b : List Int)  (r : Int) (c0 : Ctx) (hc0 : c0.m.length = 0) (res : Sum (Unit) (Int)) (J : ∀ w : Unit, res = .inl w → AR Try.prog tab podestaref01_Order_F c0 (Rp tab.S c0 (.sc (.int .i64 r)) []) [.code [1, 1]] [] [.box 61 [.arr .u64 12 a], .box 61 [.arr .u64 12 b]]) (Jr : ∀ w, res = .inr w → w = r) :
    ∀ (m : Nat) (i : Int) (H : podestaref01_Order_l0 a b m i = some res), AR Try.prog tab podestaref01_Order_F c0 (Rp tab.S c0 (.sc (.int .i64 r)) []) [.code [1, 0, 1, 0, 0], .loop [1, 0, 1, 0], .blk 0, .code [1, 1]] [(2, .ptr 0 0 none), (3, .ptr 1 0 none), (5, .sc (.int .i64 i))] [.box 61 [.arr .u64 12 a], .box 61 [.arr .u64 12 b]] := by
  have hG := tab_ok
  have hm := mixed
  intro m
  induction m with
  | zero => intro i H; cases H
  | succ m ih =>
    intro i H
    rw [podestaref01_Order_l0] at H
    refine AR.seg hG hm 3 [2, 3, 5, 7] (k' := [.code [1, 0, 1, 0, 0, 0, 1], .code [1, 0, 1, 0, 0, 1], .loop [1, 0, 1, 0], .blk 0, .code [1, 1]]) (t' := [(2, .ptr 0 0 none), (3, .ptr 1 0 none), (5, .sc (.int .i64 i)), (7, .sc (.bool (decide (i < 12))))]) (h' := [.box 61 [.arr .u64 12 a], .box 61 [.arr .u64 12 b]]) (by kernel_rfl) ?_
    refine AR.cond (.tmp 7) (decide (i < 12)) (by kernel_rfl) (by kernel_rfl) (fun hb => ?ht7) (fun hb => ?hf7)
    case ht7 =>
      replace H := cond_t hb H
      refine AR.seg hG hm 5 [2, 3, 5] (k' := [.code [1, 0, 1, 0, 0, 1, 0, 0, 0, 0], .code [1, 0, 1, 0, 0, 1, 0, 0, 0, 1], .code [1, 0, 1, 0, 0, 1, 0, 0, 1], .blk 1, .code [1, 0, 1, 0, 0, 1, 1], .loop [1, 0, 1, 0], .blk 0, .code [1, 1]]) (t' := [(2, .ptr 0 0 none), (3, .ptr 1 0 none), (5, .sc (.int .i64 i))]) (h' := [.box 61 [.arr .u64 12 a], .box 61 [.arr .u64 12 b]]) (by kernel_rfl) ?_
      refine AR.reg hm podestaref01_Order_k0 (by kernel_rfl) ?_
      refine DK.seg hG 1 [2, 3, 5, 10] (t' := [(2, .ptr 0 0 none), (3, .ptr 1 0 none), (5, .sc (.int .i64 i)), (10, .sc (.int .i64 i))]) (h' := [.box 61 [.arr .u64 12 a], .box 61 [.arr .u64 12 b]]) (by kernel_rfl) rfl ?_
      obtain ⟨hreq, H⟩ := reqO_some H
      refine DK.op' [2, 3, 5, 11] (t' := [(2, .ptr 0 0 none), (3, .ptr 1 0 none), (5, .sc (.int .i64 i)), (11, .ptr 0 0 (some (i.toNat, 12)))]) (h' := [.box 61 [.arr .u64 12 a], .box 61 [.arr .u64 12 b]]) (LSpec.idxPtr (o := 0) (off := 0) (m := 12) (j := i) hG hreq (by kernel_rfl)) (by kernel_rfl) rfl (by kernel_rfl) rfl ?_
      refine DK.seg hG 2 [2, 3, 5, 12, 13] (t' := [(2, .ptr 0 0 none), (3, .ptr 1 0 none), (5, .sc (.int .i64 i)), (12, .sc (.int .u64 (a.getD (i.toNat) 0))), (13, .sc (.int .i64 i))]) (h' := [.box 61 [.arr .u64 12 a], .box 61 [.arr .u64 12 b]]) (by kernel_rfl) rfl ?_
      obtain ⟨hreq, H⟩ := reqO_some H
      refine DK.op' [2, 3, 5, 12, 14] (t' := [(2, .ptr 0 0 none), (3, .ptr 1 0 none), (5, .sc (.int .i64 i)), (12, .sc (.int .u64 (a.getD (i.toNat) 0))), (14, .ptr 1 0 (some (i.toNat, 12)))]) (h' := [.box 61 [.arr .u64 12 a], .box 61 [.arr .u64 12 b]]) (LSpec.idxPtr (o := 1) (off := 0) (m := 12) (j := i) hG hreq (by kernel_rfl)) (by kernel_rfl) rfl (by kernel_rfl) rfl ?_
      refine DK.seg hG 2 [2, 3, 5, 16] (t' := [(2, .ptr 0 0 none), (3, .ptr 1 0 none), (5, .sc (.int .i64 i)), (16, .sc (.bool (decide ((a.getD (i.toNat) 0) < (b.getD (i.toNat) 0)))))]) (h' := [.box 61 [.arr .u64 12 a], .box 61 [.arr .u64 12 b]]) (by kernel_rfl) rfl ?_
      refine DK.done (by kernel_rfl) (by kernel_rfl) ?_
      refine AR.cond (.tmp 16) (decide ((a.getD (i.toNat) 0) < (b.getD (i.toNat) 0))) (by kernel_rfl) (by kernel_rfl) (fun hb => ?ht8) (fun hb => ?hf8)
      case ht8 =>
        replace H := cond_t hb H
        refine AR.seg hG hm 2 [4] (k' := [.code [1, 0, 1, 0, 0, 1, 0, 0, 0, 1, 0, 1], .code [1, 0, 1, 0, 0, 1, 0, 0, 1], .blk 1, .code [1, 0, 1, 0, 0, 1, 1], .loop [1, 0, 1, 0], .blk 0, .code [1, 1]]) (t' := [(4, .sc (.int .i64 (-1)))]) (h' := [.box 61 [.arr .u64 12 a], .box 61 [.arr .u64 12 b]]) (by kernel_rfl) ?_
        obtain rfl := Option.some.inj H
        obtain rfl := Jr _ rfl
        exact AR.ret0 (fn := Try.f70) hG Try.func70 (by kernel_rfl) hc0 (r0 := .sc (.int .i64 (-1))) (by kernel_rfl) (WkV.refl _)
      case hf8 =>
        replace H := cond_f hb H
        refine AR.seg hG hm 2 [2, 3, 5] (k' := [.code [1, 0, 1, 0, 0, 1, 0, 0, 1, 0], .code [1, 0, 1, 0, 0, 1, 0, 0, 1, 1], .blk 1, .code [1, 0, 1, 0, 0, 1, 1], .loop [1, 0, 1, 0], .blk 0, .code [1, 1]]) (t' := [(2, .ptr 0 0 none), (3, .ptr 1 0 none), (5, .sc (.int .i64 i))]) (h' := [.box 61 [.arr .u64 12 a], .box 61 [.arr .u64 12 b]]) (by kernel_rfl) ?_
        refine AR.reg hm podestaref01_Order_k1 (by kernel_rfl) ?_
        refine DK.seg hG 1 [2, 3, 5, 17] (t' := [(2, .ptr 0 0 none), (3, .ptr 1 0 none), (5, .sc (.int .i64 i)), (17, .sc (.int .i64 i))]) (h' := [.box 61 [.arr .u64 12 a], .box 61 [.arr .u64 12 b]]) (by kernel_rfl) rfl ?_
        obtain ⟨hreq, H⟩ := reqO_some H
        refine DK.op' [2, 3, 5, 18] (t' := [(2, .ptr 0 0 none), (3, .ptr 1 0 none), (5, .sc (.int .i64 i)), (18, .ptr 0 0 (some (i.toNat, 12)))]) (h' := [.box 61 [.arr .u64 12 a], .box 61 [.arr .u64 12 b]]) (LSpec.idxPtr (o := 0) (off := 0) (m := 12) (j := i) hG hreq (by kernel_rfl)) (by kernel_rfl) rfl (by kernel_rfl) rfl ?_
        refine DK.seg hG 2 [2, 3, 5, 19, 20] (t' := [(2, .ptr 0 0 none), (3, .ptr 1 0 none), (5, .sc (.int .i64 i)), (19, .sc (.int .u64 (a.getD (i.toNat) 0))), (20, .sc (.int .i64 i))]) (h' := [.box 61 [.arr .u64 12 a], .box 61 [.arr .u64 12 b]]) (by kernel_rfl) rfl ?_
        obtain ⟨hreq, H⟩ := reqO_some H
        refine DK.op' [2, 3, 5, 19, 21] (t' := [(2, .ptr 0 0 none), (3, .ptr 1 0 none), (5, .sc (.int .i64 i)), (19, .sc (.int .u64 (a.getD (i.toNat) 0))), (21, .ptr 1 0 (some (i.toNat, 12)))]) (h' := [.box 61 [.arr .u64 12 a], .box 61 [.arr .u64 12 b]]) (LSpec.idxPtr (o := 1) (off := 0) (m := 12) (j := i) hG hreq (by kernel_rfl)) (by kernel_rfl) rfl (by kernel_rfl) rfl ?_
        refine DK.seg hG 2 [2, 3, 5, 23] (t' := [(2, .ptr 0 0 none), (3, .ptr 1 0 none), (5, .sc (.int .i64 i)), (23, .sc (.bool (decide ((a.getD (i.toNat) 0) > (b.getD (i.toNat) 0)))))]) (h' := [.box 61 [.arr .u64 12 a], .box 61 [.arr .u64 12 b]]) (by kernel_rfl) rfl ?_
        refine DK.done (by kernel_rfl) (by kernel_rfl) ?_
        refine AR.cond (.tmp 23) (decide ((a.getD (i.toNat) 0) > (b.getD (i.toNat) 0))) (by kernel_rfl) (by kernel_rfl) (fun hb => ?ht9) (fun hb => ?hf9)
        case ht9 =>
          replace H := cond_t hb H
          refine AR.seg hG hm 2 [4] (k' := [.code [1, 0, 1, 0, 0, 1, 0, 0, 1, 1, 0, 1], .blk 1, .code [1, 0, 1, 0, 0, 1, 1], .loop [1, 0, 1, 0], .blk 0, .code [1, 1]]) (t' := [(4, .sc (.int .i64 1))]) (h' := [.box 61 [.arr .u64 12 a], .box 61 [.arr .u64 12 b]]) (by kernel_rfl) ?_
          obtain rfl := Option.some.inj H
          obtain rfl := Jr _ rfl
          exact AR.ret0 (fn := Try.f70) hG Try.func70 (by kernel_rfl) hc0 (r0 := .sc (.int .i64 1)) (by kernel_rfl) (WkV.refl _)
        case hf9 =>
          replace H := cond_f hb H
          refine AR.seg hG hm 3 [2, 3, 5] (k' := [.loop [1, 0, 1, 0], .blk 0, .code [1, 1]]) (t' := [(2, .ptr 0 0 none), (3, .ptr 1 0 none), (5, .sc (.int .i64 (IntKind.i64.wrap (i + 1))))]) (h' := [.box 61 [.arr .u64 12 a], .box 61 [.arr .u64 12 b]]) (by kernel_rfl) ?_
          refine AR.keep [2, 3, 5] (t' := [(2, .ptr 0 0 none), (3, .ptr 1 0 none), (5, .sc (.int .i64 (IntKind.i64.wrap (i + 1))))]) (by kernel_rfl) ?_
          refine AR.loop_round ?_
          exact ih (IntKind.i64.wrap (i + 1)) H
    case hf7 =>
      replace H := cond_f hb H
      refine AR.seg hG hm 1 [] (k' := [.code [1, 1]]) (t' := []) (h' := [.box 61 [.arr .u64 12 a], .box 61 [.arr .u64 12 b]]) (by kernel_rfl) ?_
      refine AR.keep [] (t' := []) (by kernel_rfl) ?_
      exact J () (Option.some.inj H).symm
def podestaref01_Order_raw (q0 : Nat) (a : List Int) (b : List Int) : Option (Int) :=
  loopO (podestaref01_Order_l0 a b q0 0) fun v =>
  some 0
theorem podestaref01_Order_walk (q0 : Nat) (a : List Int) (b : List Int) (r : Int) (H : podestaref01_Order_raw q0 a b = some r) :
    ACalls Try.prog tab.S 70 [.arr .u64 12 a, .arr .u64 12 b] [] (.sc (.int .i64 r)) [] := by
  have hG := tab_ok
  have hm := mixed
  refine ACalls.of_AR (G := tab) podestaref01_Order_F (fn := Try.f70) Try.func70 (by kernel_rfl) (by kernel_rfl) (by kernel_rfl) (Nat.le_of_ble_eq_true (by kernel_rfl)) ?_
  intro c0 hc0
  replace hc0 : c0.m.length = 0 := hc0
  rw [podestaref01_Order_raw] at H
  refine AR.seg hG hm 6 [2, 3, 5] (k' := [.code [1, 0, 1, 0], .blk 0, .code [1, 1]]) (t' := [(2, .ptr 0 0 none), (3, .ptr 1 0 none), (5, .sc (.int .i64 0))]) (h' := [.box 61 [.arr .u64 12 a], .box 61 [.arr .u64 12 b]]) (by kernel_rfl) ?_
  rcases loopO_some H with ⟨v, hv, H⟩ | hv
  case inr =>
    refine AR.into (by kernel_rfl) ?_
    exact podestaref01_Order_l0_walk q0 a b r c0 hc0 (.inr r) (fun _ e => by cases e) (fun _ e => (Sum.inr.inj e).symm) q0 0 hv
  refine AR.into (by kernel_rfl) ?_
  refine podestaref01_Order_l0_walk q0 a b r c0 hc0 (.inl v) (fun w e => ?_) (fun _ e => by cases e) q0 0 hv
  have e := Sum.inl.inj e
  subst e
  refine AR.seg hG hm 2 [4] (k' := [.code [1, 1, 1]]) (t' := [(4, .sc (.int .i64 0))]) (h' := [.box 61 [.arr .u64 12 a], .box 61 [.arr .u64 12 b]]) (by kernel_rfl) ?_
  obtain rfl := Option.some.inj H
  exact AR.ret0 (fn := Try.f70) hG Try.func70 (by kernel_rfl) hc0 (r0 := .sc (.int .i64 0)) (by kernel_rfl) (WkV.refl _)

end Go.Proofs.Ytjchejmakdkioaa
