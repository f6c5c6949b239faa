import Derived.Test.YtjchejmakdkioaaR1
set_option linter.unusedVariables false
set_option maxRecDepth 100000
set_option maxHeartbeats 4000000
namespace Go.Proofs.Ytjchejmakdkioaa
open Go.Sh
/-! ### podestaref01.Head: function 71 -/
noncomputable def podestaref01_Head_F : Go.Sh.Fn := ⟨71, bodyOf Try.f71, 15⟩
def podestaref01_Head_k0 : List Kd := [.pure, .pure, .read, .pure, .pure, .pure, .pure]
def podestaref01_Head_l0 (h1 : List Int) : Nat → Int → Option (Sum (Unit) (Bool))
  | 0, _ => none
  | m + 1, i =>
    (bif (decide (i < 12)) then
    reqO (decide (0 ≤ i) && decide (i < ((12 : Nat) : Int))) (
    (bif (!(podestaref01_Fits (h1.getD (i.toNat) 0) (Size i))) then
      some (.inr false)
    else
      podestaref01_Head_l0 h1 m (IntKind.i64.wrap (i + 1))))
  else
    some (.inl ()))
theorem podestaref01_Head_l0_walk (q0 : Nat) (h1 : List Int)  (r : Bool) (c0 : Ctx) (hc0 : c0.m.length = 0) (res : Sum (Unit) (Bool)) (J : ∀ w : Unit, res = .inl w → AR Try.prog tab podestaref01_Head_F c0 (Rp tab.S c0 (.sc (.bool r)) []) [.code [1, 1]] [] [.box 61 [.arr .u64 12 h1]]) (Jr : ∀ w, res = .inr w → w = r) :
    ∀ (m : Nat) (i : Int) (H : podestaref01_Head_l0 h1 m i = some res), AR Try.prog tab podestaref01_Head_F c0 (Rp tab.S c0 (.sc (.bool r)) []) [.code [1, 0, 1, 0, 0], .loop [1, 0, 1, 0], .blk 0, .code [1, 1]] [(1, .ptr 0 0 none), (3, .sc (.int .i64 i))] [.box 61 [.arr .u64 12 h1]] := by
  have hG := tab_ok
  have hm := mixed
  intro m
  induction m with
  | zero => intro i H; cases H
  | succ m ih =>
    intro i H
    rw [podestaref01_Head_l0] at H
    refine AR.seg hG hm 3 [1, 3, 5] (k' := [.code [1, 0, 1, 0, 0, 0, 1], .code [1, 0, 1, 0, 0, 1], .loop [1, 0, 1, 0], .blk 0, .code [1, 1]]) (t' := [(1, .ptr 0 0 none), (3, .sc (.int .i64 i)), (5, .sc (.bool (decide (i < 12))))]) (h' := [.box 61 [.arr .u64 12 h1]]) (by kernel_rfl) ?_
    refine AR.cond (.tmp 5) (decide (i < 12)) (by kernel_rfl) (by kernel_rfl) (fun hb => ?ht5) (fun hb => ?hf5)
    case ht5 =>
      replace H := cond_t hb H
      refine AR.seg hG hm 4 [1, 3] (k' := [.code [1, 0, 1, 0, 0, 1, 0, 0, 0], .code [1, 0, 1, 0, 0, 1, 0, 0, 1], .blk 1, .code [1, 0, 1, 0, 0, 1, 1], .loop [1, 0, 1, 0], .blk 0, .code [1, 1]]) (t' := [(1, .ptr 0 0 none), (3, .sc (.int .i64 i))]) (h' := [.box 61 [.arr .u64 12 h1]]) (by kernel_rfl) ?_
      refine AR.reg hm podestaref01_Head_k0 (by kernel_rfl) ?_
      refine DK.seg hG 1 [1, 3, 8] (t' := [(1, .ptr 0 0 none), (3, .sc (.int .i64 i)), (8, .sc (.int .i64 i))]) (h' := [.box 61 [.arr .u64 12 h1]]) (by kernel_rfl) rfl ?_
      obtain ⟨hreq, H⟩ := reqO_some H
      refine DK.op' [1, 3, 9] (t' := [(1, .ptr 0 0 none), (3, .sc (.int .i64 i)), (9, .ptr 0 0 (some (i.toNat, 12)))]) (h' := [.box 61 [.arr .u64 12 h1]]) (LSpec.idxPtr (o := 0) (off := 0) (m := 12) (j := i) hG hreq (by kernel_rfl)) (by kernel_rfl) rfl (by kernel_rfl) rfl ?_
      refine DK.seg hG 2 [1, 3, 10, 11] (t' := [(1, .ptr 0 0 none), (3, .sc (.int .i64 i)), (10, .sc (.int .u64 (h1.getD (i.toNat) 0))), (11, .sc (.int .i64 i))]) (h' := [.box 61 [.arr .u64 12 h1]]) (by kernel_rfl) rfl ?_
      refine DK.op' [1, 3, 10, 12] (t' := [(1, .ptr 0 0 none), (3, .sc (.int .i64 i)), (10, .sc (.int .u64 (h1.getD (i.toNat) 0))), (12, .sc (.int .i64 (Size i)))]) (h' := [.box 61 [.arr .u64 12 h1]]) (LSpec.callP' (Size_calls i) (by kernel_rfl)) (by kernel_rfl) rfl (by kernel_rfl) rfl ?_
      refine DK.op' [1, 3, 13] (t' := [(1, .ptr 0 0 none), (3, .sc (.int .i64 i)), (13, .sc (.bool (podestaref01_Fits (h1.getD (i.toNat) 0) (Size i))))]) (h' := [.box 61 [.arr .u64 12 h1]]) (LSpec.callP' (podestaref01_Fits_calls (h1.getD (i.toNat) 0) (Size i)) (by kernel_rfl)) (by kernel_rfl) rfl (by kernel_rfl) rfl ?_
      refine DK.seg hG 1 [1, 3, 14] (t' := [(1, .ptr 0 0 none), (3, .sc (.int .i64 i)), (14, .sc (.bool (!(podestaref01_Fits (h1.getD (i.toNat) 0) (Size i)))))]) (h' := [.box 61 [.arr .u64 12 h1]]) (by kernel_rfl) rfl ?_
      refine DK.done (by kernel_rfl) (by kernel_rfl) ?_
      refine AR.cond (.tmp 14) (!(podestaref01_Fits (h1.getD (i.toNat) 0) (Size i))) (by kernel_rfl) (by kernel_rfl) (fun hb => ?ht6) (fun hb => ?hf6)
      case ht6 =>
        replace H := cond_t hb H
        refine AR.seg hG hm 2 [2] (k' := [.code [1, 0, 1, 0, 0, 1, 0, 0, 1, 0, 1], .blk 1, .code [1, 0, 1, 0, 0, 1, 1], .loop [1, 0, 1, 0], .blk 0, .code [1, 1]]) (t' := [(2, .sc (.bool false))]) (h' := [.box 61 [.arr .u64 12 h1]]) (by kernel_rfl) ?_
        obtain rfl := Option.some.inj H
        obtain rfl := Jr _ rfl
        exact AR.ret0 (fn := Try.f71) hG Try.func71 (by kernel_rfl) hc0 (r0 := .sc (.bool false)) (by kernel_rfl) (WkV.refl _)
      case hf6 =>
        replace H := cond_f hb H
        refine AR.seg hG hm 3 [1, 3] (k' := [.loop [1, 0, 1, 0], .blk 0, .code [1, 1]]) (t' := [(1, .ptr 0 0 none), (3, .sc (.int .i64 (IntKind.i64.wrap (i + 1))))]) (h' := [.box 61 [.arr .u64 12 h1]]) (by kernel_rfl) ?_
        refine AR.keep [1, 3] (t' := [(1, .ptr 0 0 none), (3, .sc (.int .i64 (IntKind.i64.wrap (i + 1))))]) (by kernel_rfl) ?_
        refine AR.loop_round ?_
        exact ih (IntKind.i64.wrap (i + 1)) H
    case hf5 =>
      replace H := cond_f hb H
      refine AR.seg hG hm 1 [] (k' := [.code [1, 1]]) (t' := []) (h' := [.box 61 [.arr .u64 12 h1]]) (by kernel_rfl) ?_
      refine AR.keep [] (t' := []) (by kernel_rfl) ?_
      exact J () (Option.some.inj H).symm
def podestaref01_Head_raw (q0 : Nat) (h1 : List Int) : Option (Bool) :=
  loopO (podestaref01_Head_l0 h1 q0 0) fun v =>
  some true
theorem podestaref01_Head_walk (q0 : Nat) (h1 : List Int) (r : Bool) (H : podestaref01_Head_raw q0 h1 = some r) :
    ACalls Try.prog tab.S 71 [.arr .u64 12 h1] [] (.sc (.bool r)) [] := by
  have hG := tab_ok
  have hm := mixed
  refine ACalls.of_AR (G := tab) podestaref01_Head_F (fn := Try.f71) Try.func71 (by kernel_rfl) (by kernel_rfl) (by kernel_rfl) (Nat.le_of_ble_eq_true (by kernel_rfl)) ?_
  intro c0 hc0
  replace hc0 : c0.m.length = 0 := hc0
  rw [podestaref01_Head_raw] at H
  refine AR.seg hG hm 6 [1, 3] (k' := [.code [1, 0, 1, 0], .blk 0, .code [1, 1]]) (t' := [(1, .ptr 0 0 none), (3, .sc (.int .i64 0))]) (h' := [.box 61 [.arr .u64 12 h1]]) (by kernel_rfl) ?_
  rcases loopO_some H with ⟨v, hv, H⟩ | hv
  case inr =>
    refine AR.into (by kernel_rfl) ?_
    exact podestaref01_Head_l0_walk q0 h1 r c0 hc0 (.inr r) (fun _ e => by cases e) (fun _ e => (Sum.inr.inj e).symm) q0 0 hv
  refine AR.into (by kernel_rfl) ?_
  refine podestaref01_Head_l0_walk q0 h1 r c0 hc0 (.inl v) (fun w e => ?_) (fun _ e => by cases e) q0 0 hv
  have e := Sum.inl.inj e
  subst e
  refine AR.seg hG hm 2 [2] (k' := [.code [1, 1, 1]]) (t' := [(2, .sc (.bool true))]) (h' := [.box 61 [.arr .u64 12 h1]]) (by kernel_rfl) ?_
  obtain rfl := Option.some.inj H
  exact AR.ret0 (fn := Try.f71) hG Try.func71 (by kernel_rfl) hc0 (r0 := .sc (.bool true)) (by kernel_rfl) (WkV.refl _)

end Go.Proofs.Ytjchejmakdkioaa
