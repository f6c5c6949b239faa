import Derived.Test.YtjchejmakdkioaaR3
set_option linter.unusedVariables false
set_option maxRecDepth 100000
set_option maxHeartbeats 4000000
namespace Go.Proofs.Ytjchejmakdkioaa
open Go.Sh
/-! ### podestaref01.Text: function 67 -/
noncomputable def podestaref01_Text_F : Go.Sh.Fn := ⟨67, bodyOf Try.f67, 70⟩
def podestaref01_Text_k4 : List Kd := [.pure, .pure, .loud, .pure]
def podestaref01_Text_k6 : List Kd := [.pure, .pure, .loud, .pure]
def podestaref01_Text_k7 : List Kd := [.pure, .pure, .loud, .pure]
def podestaref01_Text_k5 : List Kd := [.pure, .pure, .pure, .read, .pure]
def podestaref01_Text_k3 : List Kd := [.pure, .pure, .pure, .read, .pure, .pure]
def podestaref01_Text_k2 : List Kd := [.pure, .pure, .pure, .read, .pure, .pure, .pure, .pure, .pure, .pure, .read, .pure, .pure, .pure, .pure, .pure]
def podestaref01_Text_k1 : List Kd := [.pure, .pure, .pure, .read, .pure, .pure, .pure, .read, .pure, .pure]
def podestaref01_Text_k8 : List Kd := [.pure, .read, .pure, .pure, .pure]
def podestaref01_Text_k0 : List Kd := [.pure, .read, .pure, .pure]
def podestaref01_Text_l1 (x : (List Bool)) (x1 : (List Bool)) (ok1 : Bool) : Nat → Int → List Int → Option (Bool × (List Int))
  | 0, _, _ => none
  | m + 1, k1, out1 =>
    (bif (decide (k1 < (((List.map boolA x).length : Nat) : Int))) then
    (ixO x1 k1).bind fun x2 =>
    (bif (!x2) then
      fitO (out1.length + [120].length) 1 (
      podestaref01_Text_l1 x x1 ok1 m (IntKind.i64.wrap (k1 + 1)) (out1 ++ [120]))
    else
      (ixO x k1).bind fun x3 =>
      (bif x3 then
        fitO (out1.length + [49].length) 1 (
        podestaref01_Text_l1 x x1 ok1 m (IntKind.i64.wrap (k1 + 1)) (out1 ++ [49]))
      else
        fitO (out1.length + [48].length) 1 (
        podestaref01_Text_l1 x x1 ok1 m (IntKind.i64.wrap (k1 + 1)) (out1 ++ [48]))))
  else
    some (ok1, out1))
theorem podestaref01_Text_l1_walk (q0 : Nat) (q1 : Nat) (c : Cube) (ok : Bool) (i : Int) (out : List Int) (x : (List Bool)) (x1 : (List Bool)) (ok1 : Bool)  (r : ByteArray × Bool) (c0 : Ctx) (hc0 : c0.m.length = 0) (res : Bool × (List Int)) (J : AR Try.prog tab podestaref01_Text_F c0 (Rp tab.S c0 (.tup [.sc (.string r.1), .sc (.bool r.2)]) []) [.blk 1, .code [1, 1, 1, 0, 1, 0, 0, 1, 1], .loop [1, 1, 1, 0, 1, 0], .blk 0, .code [1, 1, 1, 1]] [(1, .ptr 0 0 none), (4, .own 1 0), (5, .sc (.bool res.1)), (6, .sc (.int .i64 i))] [.box 63 [.arr .u64 12 c.Value, .arr .u64 12 c.Care], .row 5 (List.map (intA .u8) res.2) 0 true]) :
    ∀ (m : Nat) (k1 : Int) (out1 : List Int) (H : podestaref01_Text_l1 x x1 ok1 m k1 out1 = some res), AR Try.prog tab podestaref01_Text_F c0 (Rp tab.S c0 (.tup [.sc (.string r.1), .sc (.bool r.2)]) []) [.code [1, 1, 1, 0, 1, 0, 0, 1, 0, 0, 1, 1, 1, 0, 0], .loop [1, 1, 1, 0, 1, 0, 0, 1, 0, 0, 1, 1, 1, 0], .blk 2, .blk 1, .code [1, 1, 1, 0, 1, 0, 0, 1, 1], .loop [1, 1, 1, 0, 1, 0], .blk 0, .code [1, 1, 1, 1]] [(1, .ptr 0 0 none), (4, .own 1 0), (5, .sc (.bool ok1)), (6, .sc (.int .i64 i)), (7, .sl 4 (List.map boolA x) false), (8, .sl 4 (List.map boolA x1) false), (9, .sc (.int .i64 k1))] [.box 63 [.arr .u64 12 c.Value, .arr .u64 12 c.Care], .row 5 (List.map (intA .u8) out1) 0 true] := by
  have hG := tab_ok
  have hm := mixed
  intro m
  induction m with
  | zero => intro k1 out1 H; cases H
  | succ m ih =>
    intro k1 out1 H
    rw [podestaref01_Text_l1] at H
    refine AR.seg hG hm 3 [1, 4, 5, 6, 7, 8, 9, 44] (k' := [.code [1, 1, 1, 0, 1, 0, 0, 1, 0, 0, 1, 1, 1, 0, 0, 0, 1], .code [1, 1, 1, 0, 1, 0, 0, 1, 0, 0, 1, 1, 1, 0, 0, 1], .loop [1, 1, 1, 0, 1, 0, 0, 1, 0, 0, 1, 1, 1, 0], .blk 2, .blk 1, .code [1, 1, 1, 0, 1, 0, 0, 1, 1], .loop [1, 1, 1, 0, 1, 0], .blk 0, .code [1, 1, 1, 1]]) (t' := [(1, .ptr 0 0 none), (4, .own 1 0), (5, .sc (.bool ok1)), (6, .sc (.int .i64 i)), (7, .sl 4 (List.map boolA x) false), (8, .sl 4 (List.map boolA x1) false), (9, .sc (.int .i64 k1)), (44, .sc (.bool (decide (k1 < (((List.map boolA x).length : Nat) : Int)))))]) (h' := [.box 63 [.arr .u64 12 c.Value, .arr .u64 12 c.Care], .row 5 (List.map (intA .u8) out1) 0 true]) (by kernel_rfl) ?_
    refine AR.cond (.tmp 44) (decide (k1 < (((List.map boolA x).length : Nat) : Int))) (by kernel_rfl) (by kernel_rfl) (fun hb => ?ht44) (fun hb => ?hf44)
    case ht44 =>
      replace H := cond_t hb H
      refine AR.seg hG hm 5 [1, 4, 5, 6, 7, 8, 9] (k' := [.code [1, 1, 1, 0, 1, 0, 0, 1, 0, 0, 1, 1, 1, 0, 0, 1, 0, 0, 0, 0], .code [1, 1, 1, 0, 1, 0, 0, 1, 0, 0, 1, 1, 1, 0, 0, 1, 0, 0, 0, 1], .blk 4, .blk 3, .code [1, 1, 1, 0, 1, 0, 0, 1, 0, 0, 1, 1, 1, 0, 0, 1, 1], .loop [1, 1, 1, 0, 1, 0, 0, 1, 0, 0, 1, 1, 1, 0], .blk 2, .blk 1, .code [1, 1, 1, 0, 1, 0, 0, 1, 1], .loop [1, 1, 1, 0, 1, 0], .blk 0, .code [1, 1, 1, 1]]) (t' := [(1, .ptr 0 0 none), (4, .own 1 0), (5, .sc (.bool ok1)), (6, .sc (.int .i64 i)), (7, .sl 4 (List.map boolA x) false), (8, .sl 4 (List.map boolA x1) false), (9, .sc (.int .i64 k1))]) (h' := [.box 63 [.arr .u64 12 c.Value, .arr .u64 12 c.Care], .row 5 (List.map (intA .u8) out1) 0 true]) (by kernel_rfl) ?_
      refine AR.reg hm podestaref01_Text_k3 (by kernel_rfl) ?_
      refine DK.seg hG 2 [1, 4, 5, 6, 7, 8, 9, 51, 52] (t' := [(1, .ptr 0 0 none), (4, .own 1 0), (5, .sc (.bool ok1)), (6, .sc (.int .i64 i)), (7, .sl 4 (List.map boolA x) false), (8, .sl 4 (List.map boolA x1) false), (9, .sc (.int .i64 k1)), (51, .sl 4 (List.map boolA x1) false), (52, .sc (.int .i64 k1))]) (h' := [.box 63 [.arr .u64 12 c.Value, .arr .u64 12 c.Care], .row 5 (List.map (intA .u8) out1) 0 true]) (by kernel_rfl) rfl ?_
      obtain ⟨x2, hv, H⟩ := Option.bind_eq_some_iff.1 H
      refine DK.op' [1, 4, 5, 6, 7, 8, 9, 53] (t' := [(1, .ptr 0 0 none), (4, .own 1 0), (5, .sc (.bool ok1)), (6, .sc (.int .i64 i)), (7, .sl 4 (List.map boolA x) false), (8, .sl 4 (List.map boolA x1) false), (9, .sc (.int .i64 k1)), (53, .ep [.sc (.bool x2)] 0 none)]) (h' := [.box 63 [.arr .u64 12 c.Value, .arr .u64 12 c.Care], .row 5 (List.map (intA .u8) out1) 0 true]) (LSpec.index' (r := .sc (.bool x2)) (fs := [.sc (.bool x2)]) hG (rows := List.map boolA x1) (j := k1) (by kernel_rfl) (ixO_map hv _) (by kernel_rfl)) (by kernel_rfl) rfl (by kernel_rfl) rfl ?_
      refine DK.seg hG 3 [1, 4, 5, 6, 7, 8, 9, 50] (t' := [(1, .ptr 0 0 none), (4, .own 1 0), (5, .sc (.bool ok1)), (6, .sc (.int .i64 i)), (7, .sl 4 (List.map boolA x) false), (8, .sl 4 (List.map boolA x1) false), (9, .sc (.int .i64 k1)), (50, .sc (.bool (!x2)))]) (h' := [.box 63 [.arr .u64 12 c.Value, .arr .u64 12 c.Care], .row 5 (List.map (intA .u8) out1) 0 true]) (by kernel_rfl) rfl ?_
      refine DK.done (by kernel_rfl) (by kernel_rfl) ?_
      refine AR.cond (.tmp 50) (!x2) (by kernel_rfl) (by kernel_rfl) (fun hb => ?ht45) (fun hb => ?hf45)
      case ht45 =>
        replace H := cond_t hb H
        refine AR.reg hm podestaref01_Text_k4 (by kernel_rfl) ?_
        refine DK.seg hG 2 [1, 5, 6, 7, 8, 9, 56, 57] (t' := [(1, .ptr 0 0 none), (5, .sc (.bool ok1)), (6, .sc (.int .i64 i)), (7, .sl 4 (List.map boolA x) false), (8, .sl 4 (List.map boolA x1) false), (9, .sc (.int .i64 k1)), (56, .own 1 0), (57, .sl 5 (List.map (intA .u8) [120]) true)]) (h' := [.box 63 [.arr .u64 12 c.Value, .arr .u64 12 c.Care], .row 5 (List.map (intA .u8) out1) 0 true]) (by kernel_rfl) rfl ?_
        obtain ⟨hfit, H⟩ := fitO_some H
        refine DK.op' [1, 5, 6, 7, 8, 9, 58] (t' := [(1, .ptr 0 0 none), (5, .sc (.bool ok1)), (6, .sc (.int .i64 i)), (7, .sl 4 (List.map boolA x) false), (8, .sl 4 (List.map boolA x1) false), (9, .sc (.int .i64 k1)), (58, .own 1 1)]) (h' := [.box 63 [.arr .u64 12 c.Value, .arr .u64 12 c.Care], .row 5 (List.map (intA .u8) (out1 ++ [120])) 1 true]) (LSpec.append' hG (intA .u8) out1 [120] 1 0 5 1 hfit (by kernel_rfl)) (by kernel_rfl) (by kernel_rfl) (by kernel_rfl) rfl ?_
        refine DK.seg hG 1 [1, 4, 5, 6, 7, 8, 9] (t' := [(1, .ptr 0 0 none), (4, .own 1 1), (5, .sc (.bool ok1)), (6, .sc (.int .i64 i)), (7, .sl 4 (List.map boolA x) false), (8, .sl 4 (List.map boolA x1) false), (9, .sc (.int .i64 k1))]) (h' := [.box 63 [.arr .u64 12 c.Value, .arr .u64 12 c.Care], .row 5 (List.map (intA .u8) (out1 ++ [120])) 1 true]) (by kernel_rfl) rfl ?_
        refine DK.done (by kernel_rfl) (by kernel_rfl) ?_
        refine AR.seg hG hm 3 [1, 4, 5, 6, 7, 8, 9] (k' := [.loop [1, 1, 1, 0, 1, 0, 0, 1, 0, 0, 1, 1, 1, 0], .blk 2, .blk 1, .code [1, 1, 1, 0, 1, 0, 0, 1, 1], .loop [1, 1, 1, 0, 1, 0], .blk 0, .code [1, 1, 1, 1]]) (t' := [(1, .ptr 0 0 none), (4, .own 1 1), (5, .sc (.bool ok1)), (6, .sc (.int .i64 i)), (7, .sl 4 (List.map boolA x) false), (8, .sl 4 (List.map boolA x1) false), (9, .sc (.int .i64 (IntKind.i64.wrap (k1 + 1))))]) (h' := [.box 63 [.arr .u64 12 c.Value, .arr .u64 12 c.Care], .row 5 (List.map (intA .u8) (out1 ++ [120])) 1 true]) (by kernel_rfl) ?_
        refine AR.keep [1, 4, 5, 6, 7, 8, 9] (t' := [(1, .ptr 0 0 none), (4, .own 1 1), (5, .sc (.bool ok1)), (6, .sc (.int .i64 i)), (7, .sl 4 (List.map boolA x) false), (8, .sl 4 (List.map boolA x1) false), (9, .sc (.int .i64 (IntKind.i64.wrap (k1 + 1))))]) (by kernel_rfl) ?_
        refine AR.norm' 1 hc0 (t' := [(1, .ptr 0 0 none), (4, .own 1 0), (5, .sc (.bool ok1)), (6, .sc (.int .i64 i)), (7, .sl 4 (List.map boolA x) false), (8, .sl 4 (List.map boolA x1) false), (9, .sc (.int .i64 (IntKind.i64.wrap (k1 + 1))))]) (h' := [.box 63 [.arr .u64 12 c.Value, .arr .u64 12 c.Care], .row 5 (List.map (intA .u8) (out1 ++ [120])) 0 true]) (by kernel_rfl) ?_
        refine AR.loop_round ?_
        exact ih (IntKind.i64.wrap (k1 + 1)) (out1 ++ [120]) H
      case hf45 =>
        replace H := cond_f hb H
        refine AR.seg hG hm 1 [1, 4, 5, 6, 7, 8, 9] (k' := [.code [1, 1, 1, 0, 1, 0, 0, 1, 0, 0, 1, 1, 1, 0, 0, 1, 0, 0, 0, 1, 1, 0], .code [1, 1, 1, 0, 1, 0, 0, 1, 0, 0, 1, 1, 1, 0, 0, 1, 0, 0, 0, 1, 1, 1], .blk 4, .blk 3, .code [1, 1, 1, 0, 1, 0, 0, 1, 0, 0, 1, 1, 1, 0, 0, 1, 1], .loop [1, 1, 1, 0, 1, 0, 0, 1, 0, 0, 1, 1, 1, 0], .blk 2, .blk 1, .code [1, 1, 1, 0, 1, 0, 0, 1, 1], .loop [1, 1, 1, 0, 1, 0], .blk 0, .code [1, 1, 1, 1]]) (t' := [(1, .ptr 0 0 none), (4, .own 1 0), (5, .sc (.bool ok1)), (6, .sc (.int .i64 i)), (7, .sl 4 (List.map boolA x) false), (8, .sl 4 (List.map boolA x1) false), (9, .sc (.int .i64 k1))]) (h' := [.box 63 [.arr .u64 12 c.Value, .arr .u64 12 c.Care], .row 5 (List.map (intA .u8) out1) 0 true]) (by kernel_rfl) ?_
        refine AR.reg hm podestaref01_Text_k5 (by kernel_rfl) ?_
        refine DK.seg hG 2 [1, 4, 5, 6, 7, 8, 9, 60, 61] (t' := [(1, .ptr 0 0 none), (4, .own 1 0), (5, .sc (.bool ok1)), (6, .sc (.int .i64 i)), (7, .sl 4 (List.map boolA x) false), (8, .sl 4 (List.map boolA x1) false), (9, .sc (.int .i64 k1)), (60, .sl 4 (List.map boolA x) false), (61, .sc (.int .i64 k1))]) (h' := [.box 63 [.arr .u64 12 c.Value, .arr .u64 12 c.Care], .row 5 (List.map (intA .u8) out1) 0 true]) (by kernel_rfl) rfl ?_
        obtain ⟨x3, hv, H⟩ := Option.bind_eq_some_iff.1 H
        refine DK.op' [1, 4, 5, 6, 7, 8, 9, 62] (t' := [(1, .ptr 0 0 none), (4, .own 1 0), (5, .sc (.bool ok1)), (6, .sc (.int .i64 i)), (7, .sl 4 (List.map boolA x) false), (8, .sl 4 (List.map boolA x1) false), (9, .sc (.int .i64 k1)), (62, .ep [.sc (.bool x3)] 0 none)]) (h' := [.box 63 [.arr .u64 12 c.Value, .arr .u64 12 c.Care], .row 5 (List.map (intA .u8) out1) 0 true]) (LSpec.index' (r := .sc (.bool x3)) (fs := [.sc (.bool x3)]) hG (rows := List.map boolA x) (j := k1) (by kernel_rfl) (ixO_map hv _) (by kernel_rfl)) (by kernel_rfl) rfl (by kernel_rfl) rfl ?_
        refine DK.seg hG 2 [1, 4, 5, 6, 7, 8, 9, 59] (t' := [(1, .ptr 0 0 none), (4, .own 1 0), (5, .sc (.bool ok1)), (6, .sc (.int .i64 i)), (7, .sl 4 (List.map boolA x) false), (8, .sl 4 (List.map boolA x1) false), (9, .sc (.int .i64 k1)), (59, .sc (.bool x3))]) (h' := [.box 63 [.arr .u64 12 c.Value, .arr .u64 12 c.Care], .row 5 (List.map (intA .u8) out1) 0 true]) (by kernel_rfl) rfl ?_
        refine DK.done (by kernel_rfl) (by kernel_rfl) ?_
        refine AR.cond (.tmp 59) x3 (by kernel_rfl) (by kernel_rfl) (fun hb => ?ht46) (fun hb => ?hf46)
        case ht46 =>
          replace H := cond_t hb H
          refine AR.reg hm podestaref01_Text_k6 (by kernel_rfl) ?_
          refine DK.seg hG 2 [1, 5, 6, 7, 8, 9, 64, 65] (t' := [(1, .ptr 0 0 none), (5, .sc (.bool ok1)), (6, .sc (.int .i64 i)), (7, .sl 4 (List.map boolA x) false), (8, .sl 4 (List.map boolA x1) false), (9, .sc (.int .i64 k1)), (64, .own 1 0), (65, .sl 5 (List.map (intA .u8) [49]) true)]) (h' := [.box 63 [.arr .u64 12 c.Value, .arr .u64 12 c.Care], .row 5 (List.map (intA .u8) out1) 0 true]) (by kernel_rfl) rfl ?_
          obtain ⟨hfit, H⟩ := fitO_some H
          refine DK.op' [1, 5, 6, 7, 8, 9, 66] (t' := [(1, .ptr 0 0 none), (5, .sc (.bool ok1)), (6, .sc (.int .i64 i)), (7, .sl 4 (List.map boolA x) false), (8, .sl 4 (List.map boolA x1) false), (9, .sc (.int .i64 k1)), (66, .own 1 1)]) (h' := [.box 63 [.arr .u64 12 c.Value, .arr .u64 12 c.Care], .row 5 (List.map (intA .u8) (out1 ++ [49])) 1 true]) (LSpec.append' hG (intA .u8) out1 [49] 1 0 5 1 hfit (by kernel_rfl)) (by kernel_rfl) (by kernel_rfl) (by kernel_rfl) rfl ?_
          refine DK.seg hG 1 [1, 4, 5, 6, 7, 8, 9] (t' := [(1, .ptr 0 0 none), (4, .own 1 1), (5, .sc (.bool ok1)), (6, .sc (.int .i64 i)), (7, .sl 4 (List.map boolA x) false), (8, .sl 4 (List.map boolA x1) false), (9, .sc (.int .i64 k1))]) (h' := [.box 63 [.arr .u64 12 c.Value, .arr .u64 12 c.Care], .row 5 (List.map (intA .u8) (out1 ++ [49])) 1 true]) (by kernel_rfl) rfl ?_
          refine DK.done (by kernel_rfl) (by kernel_rfl) ?_
          refine AR.seg hG hm 3 [1, 4, 5, 6, 7, 8, 9] (k' := [.loop [1, 1, 1, 0, 1, 0, 0, 1, 0, 0, 1, 1, 1, 0], .blk 2, .blk 1, .code [1, 1, 1, 0, 1, 0, 0, 1, 1], .loop [1, 1, 1, 0, 1, 0], .blk 0, .code [1, 1, 1, 1]]) (t' := [(1, .ptr 0 0 none), (4, .own 1 1), (5, .sc (.bool ok1)), (6, .sc (.int .i64 i)), (7, .sl 4 (List.map boolA x) false), (8, .sl 4 (List.map boolA x1) false), (9, .sc (.int .i64 (IntKind.i64.wrap (k1 + 1))))]) (h' := [.box 63 [.arr .u64 12 c.Value, .arr .u64 12 c.Care], .row 5 (List.map (intA .u8) (out1 ++ [49])) 1 true]) (by kernel_rfl) ?_
          refine AR.keep [1, 4, 5, 6, 7, 8, 9] (t' := [(1, .ptr 0 0 none), (4, .own 1 1), (5, .sc (.bool ok1)), (6, .sc (.int .i64 i)), (7, .sl 4 (List.map boolA x) false), (8, .sl 4 (List.map boolA x1) false), (9, .sc (.int .i64 (IntKind.i64.wrap (k1 + 1))))]) (by kernel_rfl) ?_
          refine AR.norm' 1 hc0 (t' := [(1, .ptr 0 0 none), (4, .own 1 0), (5, .sc (.bool ok1)), (6, .sc (.int .i64 i)), (7, .sl 4 (List.map boolA x) false), (8, .sl 4 (List.map boolA x1) false), (9, .sc (.int .i64 (IntKind.i64.wrap (k1 + 1))))]) (h' := [.box 63 [.arr .u64 12 c.Value, .arr .u64 12 c.Care], .row 5 (List.map (intA .u8) (out1 ++ [49])) 0 true]) (by kernel_rfl) ?_
          refine AR.loop_round ?_
          exact ih (IntKind.i64.wrap (k1 + 1)) (out1 ++ [49]) H
        case hf46 =>
          replace H := cond_f hb H
          refine AR.reg hm podestaref01_Text_k7 (by kernel_rfl) ?_
          refine DK.seg hG 2 [1, 5, 6, 7, 8, 9, 47, 48] (t' := [(1, .ptr 0 0 none), (5, .sc (.bool ok1)), (6, .sc (.int .i64 i)), (7, .sl 4 (List.map boolA x) false), (8, .sl 4 (List.map boolA x1) false), (9, .sc (.int .i64 k1)), (47, .own 1 0), (48, .sl 5 (List.map (intA .u8) [48]) true)]) (h' := [.box 63 [.arr .u64 12 c.Value, .arr .u64 12 c.Care], .row 5 (List.map (intA .u8) out1) 0 true]) (by kernel_rfl) rfl ?_
          obtain ⟨hfit, H⟩ := fitO_some H
          refine DK.op' [1, 5, 6, 7, 8, 9, 49] (t' := [(1, .ptr 0 0 none), (5, .sc (.bool ok1)), (6, .sc (.int .i64 i)), (7, .sl 4 (List.map boolA x) false), (8, .sl 4 (List.map boolA x1) false), (9, .sc (.int .i64 k1)), (49, .own 1 1)]) (h' := [.box 63 [.arr .u64 12 c.Value, .arr .u64 12 c.Care], .row 5 (List.map (intA .u8) (out1 ++ [48])) 1 true]) (LSpec.append' hG (intA .u8) out1 [48] 1 0 5 1 hfit (by kernel_rfl)) (by kernel_rfl) (by kernel_rfl) (by kernel_rfl) rfl ?_
          refine DK.seg hG 1 [1, 4, 5, 6, 7, 8, 9] (t' := [(1, .ptr 0 0 none), (4, .own 1 1), (5, .sc (.bool ok1)), (6, .sc (.int .i64 i)), (7, .sl 4 (List.map boolA x) false), (8, .sl 4 (List.map boolA x1) false), (9, .sc (.int .i64 k1))]) (h' := [.box 63 [.arr .u64 12 c.Value, .arr .u64 12 c.Care], .row 5 (List.map (intA .u8) (out1 ++ [48])) 1 true]) (by kernel_rfl) rfl ?_
          refine DK.done (by kernel_rfl) (by kernel_rfl) ?_
          refine AR.seg hG hm 3 [1, 4, 5, 6, 7, 8, 9] (k' := [.loop [1, 1, 1, 0, 1, 0, 0, 1, 0, 0, 1, 1, 1, 0], .blk 2, .blk 1, .code [1, 1, 1, 0, 1, 0, 0, 1, 1], .loop [1, 1, 1, 0, 1, 0], .blk 0, .code [1, 1, 1, 1]]) (t' := [(1, .ptr 0 0 none), (4, .own 1 1), (5, .sc (.bool ok1)), (6, .sc (.int .i64 i)), (7, .sl 4 (List.map boolA x) false), (8, .sl 4 (List.map boolA x1) false), (9, .sc (.int .i64 (IntKind.i64.wrap (k1 + 1))))]) (h' := [.box 63 [.arr .u64 12 c.Value, .arr .u64 12 c.Care], .row 5 (List.map (intA .u8) (out1 ++ [48])) 1 true]) (by kernel_rfl) ?_
          refine AR.keep [1, 4, 5, 6, 7, 8, 9] (t' := [(1, .ptr 0 0 none), (4, .own 1 1), (5, .sc (.bool ok1)), (6, .sc (.int .i64 i)), (7, .sl 4 (List.map boolA x) false), (8, .sl 4 (List.map boolA x1) false), (9, .sc (.int .i64 (IntKind.i64.wrap (k1 + 1))))]) (by kernel_rfl) ?_
          refine AR.norm' 1 hc0 (t' := [(1, .ptr 0 0 none), (4, .own 1 0), (5, .sc (.bool ok1)), (6, .sc (.int .i64 i)), (7, .sl 4 (List.map boolA x) false), (8, .sl 4 (List.map boolA x1) false), (9, .sc (.int .i64 (IntKind.i64.wrap (k1 + 1))))]) (h' := [.box 63 [.arr .u64 12 c.Value, .arr .u64 12 c.Care], .row 5 (List.map (intA .u8) (out1 ++ [48])) 0 true]) (by kernel_rfl) ?_
          refine AR.loop_round ?_
          exact ih (IntKind.i64.wrap (k1 + 1)) (out1 ++ [48]) H
    case hf44 =>
      replace H := cond_f hb H
      refine AR.seg hG hm 1 [1, 4, 5, 6] (k' := [.blk 1, .code [1, 1, 1, 0, 1, 0, 0, 1, 1], .loop [1, 1, 1, 0, 1, 0], .blk 0, .code [1, 1, 1, 1]]) (t' := [(1, .ptr 0 0 none), (4, .own 1 0), (5, .sc (.bool ok1)), (6, .sc (.int .i64 i))]) (h' := [.box 63 [.arr .u64 12 c.Value, .arr .u64 12 c.Care], .row 5 (List.map (intA .u8) out1) 0 true]) (by kernel_rfl) ?_
      refine AR.keep [1, 4, 5, 6] (t' := [(1, .ptr 0 0 none), (4, .own 1 0), (5, .sc (.bool ok1)), (6, .sc (.int .i64 i))]) (by kernel_rfl) ?_
      obtain rfl := Option.some.inj H
      exact J
def podestaref01_Text_l0 (q1 : Nat) (c : Cube) : Nat → Bool → Int → List Int → Option (Bool × (List Int))
  | 0, _, _, _ => none
  | m + 1, ok, i, out =>
    (bif (decide (i < 12)) then
    reqO (decide (0 ≤ i) && decide (i < ((12 : Nat) : Int))) (
    reqO (decide (0 ≤ i) && decide (i < ((12 : Nat) : Int))) (
    reqO (decide (0 ≤ i) && decide (i < ((12 : Nat) : Int))) (
    (BitsO (c.Value.getD (i.toNat) 0) (Size i)).bind fun x =>
    reqO (decide (0 ≤ i) && decide (i < ((12 : Nat) : Int))) (
    (BitsO (c.Care.getD (i.toNat) 0) (Size i)).bind fun x1 =>
    (podestaref01_Text_l1 x x1 (bif ((IntKind.u64.wrap ((BitVec.ofInt 64 (c.Value.getD (i.toNat) 0) &&& ~~~ (BitVec.ofInt 64 (c.Care.getD (i.toNat) 0))).toNat)) != 0) then false else ok) q1 0 out).bind fun v =>
    podestaref01_Text_l0 q1 c m v.1 (IntKind.i64.wrap (i + 1)) v.2))))
  else
    some (ok, out))
theorem podestaref01_Text_l0_walk (q0 : Nat) (q1 : Nat) (c : Cube)  (r : ByteArray × Bool) (c0 : Ctx) (hc0 : c0.m.length = 0) (res : Bool × (List Int)) (J : AR Try.prog tab podestaref01_Text_F c0 (Rp tab.S c0 (.tup [.sc (.string r.1), .sc (.bool r.2)]) []) [.code [1, 1, 1, 1]] [(4, .own 1 0), (5, .sc (.bool res.1))] [.box 63 [.arr .u64 12 c.Value, .arr .u64 12 c.Care], .row 5 (List.map (intA .u8) res.2) 0 true]) :
    ∀ (m : Nat) (ok : Bool) (i : Int) (out : List Int) (H : podestaref01_Text_l0 q1 c m ok i out = some res), AR Try.prog tab podestaref01_Text_F c0 (Rp tab.S c0 (.tup [.sc (.string r.1), .sc (.bool r.2)]) []) [.code [1, 1, 1, 0, 1, 0, 0], .loop [1, 1, 1, 0, 1, 0], .blk 0, .code [1, 1, 1, 1]] [(1, .ptr 0 0 none), (4, .own 1 0), (5, .sc (.bool ok)), (6, .sc (.int .i64 i))] [.box 63 [.arr .u64 12 c.Value, .arr .u64 12 c.Care], .row 5 (List.map (intA .u8) out) 0 true] := by
  have hG := tab_ok
  have hm := mixed
  intro m
  induction m with
  | zero => intro ok i out H; cases H
  | succ m ih =>
    intro ok i out H
    rw [podestaref01_Text_l0] at H
    refine AR.seg hG hm 3 [1, 4, 5, 6, 14] (k' := [.code [1, 1, 1, 0, 1, 0, 0, 0, 1], .code [1, 1, 1, 0, 1, 0, 0, 1], .loop [1, 1, 1, 0, 1, 0], .blk 0, .code [1, 1, 1, 1]]) (t' := [(1, .ptr 0 0 none), (4, .own 1 0), (5, .sc (.bool ok)), (6, .sc (.int .i64 i)), (14, .sc (.bool (decide (i < 12))))]) (h' := [.box 63 [.arr .u64 12 c.Value, .arr .u64 12 c.Care], .row 5 (List.map (intA .u8) out) 0 true]) (by kernel_rfl) ?_
    refine AR.cond (.tmp 14) (decide (i < 12)) (by kernel_rfl) (by kernel_rfl) (fun hb => ?ht33) (fun hb => ?hf33)
    case ht33 =>
      replace H := cond_t hb H
      refine AR.seg hG hm 5 [1, 4, 5, 6] (k' := [.code [1, 1, 1, 0, 1, 0, 0, 1, 0, 0, 0, 0], .code [1, 1, 1, 0, 1, 0, 0, 1, 0, 0, 0, 1], .code [1, 1, 1, 0, 1, 0, 0, 1, 0, 0, 1], .blk 1, .code [1, 1, 1, 0, 1, 0, 0, 1, 1], .loop [1, 1, 1, 0, 1, 0], .blk 0, .code [1, 1, 1, 1]]) (t' := [(1, .ptr 0 0 none), (4, .own 1 0), (5, .sc (.bool ok)), (6, .sc (.int .i64 i))]) (h' := [.box 63 [.arr .u64 12 c.Value, .arr .u64 12 c.Care], .row 5 (List.map (intA .u8) out) 0 true]) (by kernel_rfl) ?_
      refine AR.reg hm podestaref01_Text_k1 (by kernel_rfl) ?_
      refine DK.seg hG 2 [1, 4, 5, 6, 17, 18] (t' := [(1, .ptr 0 0 none), (4, .own 1 0), (5, .sc (.bool ok)), (6, .sc (.int .i64 i)), (17, .sc (.int .i64 i)), (18, .ptr 0 0 none)]) (h' := [.box 63 [.arr .u64 12 c.Value, .arr .u64 12 c.Care], .row 5 (List.map (intA .u8) out) 0 true]) (by kernel_rfl) rfl ?_
      obtain ⟨hreq, H⟩ := reqO_some H
      refine DK.op' [1, 4, 5, 6, 19] (t' := [(1, .ptr 0 0 none), (4, .own 1 0), (5, .sc (.bool ok)), (6, .sc (.int .i64 i)), (19, .ptr 0 0 (some (i.toNat, 12)))]) (h' := [.box 63 [.arr .u64 12 c.Value, .arr .u64 12 c.Care], .row 5 (List.map (intA .u8) out) 0 true]) (LSpec.idxPtr (o := 0) (off := 0) (m := 12) (j := i) hG hreq (by kernel_rfl)) (by kernel_rfl) rfl (by kernel_rfl) rfl ?_
      refine DK.seg hG 3 [1, 4, 5, 6, 20, 21, 22] (t' := [(1, .ptr 0 0 none), (4, .own 1 0), (5, .sc (.bool ok)), (6, .sc (.int .i64 i)), (20, .sc (.int .u64 (c.Value.getD (i.toNat) 0))), (21, .sc (.int .i64 i)), (22, .ptr 0 12 none)]) (h' := [.box 63 [.arr .u64 12 c.Value, .arr .u64 12 c.Care], .row 5 (List.map (intA .u8) out) 0 true]) (by kernel_rfl) rfl ?_
      obtain ⟨hreq, H⟩ := reqO_some H
      refine DK.op' [1, 4, 5, 6, 20, 23] (t' := [(1, .ptr 0 0 none), (4, .own 1 0), (5, .sc (.bool ok)), (6, .sc (.int .i64 i)), (20, .sc (.int .u64 (c.Value.getD (i.toNat) 0))), (23, .ptr 0 12 (some (i.toNat, 12)))]) (h' := [.box 63 [.arr .u64 12 c.Value, .arr .u64 12 c.Care], .row 5 (List.map (intA .u8) out) 0 true]) (LSpec.idxPtr (o := 0) (off := 12) (m := 12) (j := i) hG hreq (by kernel_rfl)) (by kernel_rfl) rfl (by kernel_rfl) rfl ?_
      refine DK.seg hG 3 [1, 4, 5, 6, 26] (t' := [(1, .ptr 0 0 none), (4, .own 1 0), (5, .sc (.bool ok)), (6, .sc (.int .i64 i)), (26, .sc (.bool ((IntKind.u64.wrap ((BitVec.ofInt 64 (c.Value.getD (i.toNat) 0) &&& ~~~ (BitVec.ofInt 64 (c.Care.getD (i.toNat) 0))).toNat)) != 0)))]) (h' := [.box 63 [.arr .u64 12 c.Value, .arr .u64 12 c.Care], .row 5 (List.map (intA .u8) out) 0 true]) (by kernel_rfl) rfl ?_
      refine DK.done (by kernel_rfl) (by kernel_rfl) ?_
      refine AR.join (.tmp 26) ((IntKind.u64.wrap ((BitVec.ofInt 64 (c.Value.getD (i.toNat) 0) &&& ~~~ (BitVec.ofInt 64 (c.Care.getD (i.toNat) 0))).toNat)) != 0) (k' := [.code [1, 1, 1, 0, 1, 0, 0, 1, 0, 0, 1], .blk 1, .code [1, 1, 1, 0, 1, 0, 0, 1, 1], .loop [1, 1, 1, 0, 1, 0], .blk 0, .code [1, 1, 1, 1]]) (h' := [.box 63 [.arr .u64 12 c.Value, .arr .u64 12 c.Care], .row 5 (List.map (intA .u8) out) 0 true]) (by kernel_rfl) (by kernel_rfl) (fun z => [(1, .ptr 0 0 none), (4, .own 1 0), (5, .sc (.bool (bif z then false else ok))), (6, .sc (.int .i64 i))]) ?J34 (fun hb J => ?ht34) (fun hb J => ?hf34)
      case ht34 =>
        exact AR.seg hG hm 1 [1, 4, 5, 6] (by kernel_rfl) J
      case hf34 =>
        exact AR.seg hG hm 1 [1, 4, 5, 6] (by kernel_rfl) J
      refine AR.seg hG hm 1 [1, 4, 5, 6] (k' := [.code [1, 1, 1, 0, 1, 0, 0, 1, 0, 0, 1, 0], .code [1, 1, 1, 0, 1, 0, 0, 1, 0, 0, 1, 1], .blk 1, .code [1, 1, 1, 0, 1, 0, 0, 1, 1], .loop [1, 1, 1, 0, 1, 0], .blk 0, .code [1, 1, 1, 1]]) (t' := [(1, .ptr 0 0 none), (4, .own 1 0), (5, .sc (.bool (bif ((IntKind.u64.wrap ((BitVec.ofInt 64 (c.Value.getD (i.toNat) 0) &&& ~~~ (BitVec.ofInt 64 (c.Care.getD (i.toNat) 0))).toNat)) != 0) then false else ok))), (6, .sc (.int .i64 i))]) (h' := [.box 63 [.arr .u64 12 c.Value, .arr .u64 12 c.Care], .row 5 (List.map (intA .u8) out) 0 true]) (by kernel_rfl) ?_
      refine AR.reg hm podestaref01_Text_k2 (by kernel_rfl) ?_
      refine DK.seg hG 2 [1, 4, 5, 6, 27, 28] (t' := [(1, .ptr 0 0 none), (4, .own 1 0), (5, .sc (.bool (bif ((IntKind.u64.wrap ((BitVec.ofInt 64 (c.Value.getD (i.toNat) 0) &&& ~~~ (BitVec.ofInt 64 (c.Care.getD (i.toNat) 0))).toNat)) != 0) then false else ok))), (6, .sc (.int .i64 i)), (27, .sc (.int .i64 i)), (28, .ptr 0 0 none)]) (h' := [.box 63 [.arr .u64 12 c.Value, .arr .u64 12 c.Care], .row 5 (List.map (intA .u8) out) 0 true]) (by kernel_rfl) rfl ?_
      obtain ⟨hreq, H⟩ := reqO_some H
      refine DK.op' [1, 4, 5, 6, 29] (t' := [(1, .ptr 0 0 none), (4, .own 1 0), (5, .sc (.bool (bif ((IntKind.u64.wrap ((BitVec.ofInt 64 (c.Value.getD (i.toNat) 0) &&& ~~~ (BitVec.ofInt 64 (c.Care.getD (i.toNat) 0))).toNat)) != 0) then false else ok))), (6, .sc (.int .i64 i)), (29, .ptr 0 0 (some (i.toNat, 12)))]) (h' := [.box 63 [.arr .u64 12 c.Value, .arr .u64 12 c.Care], .row 5 (List.map (intA .u8) out) 0 true]) (LSpec.idxPtr (o := 0) (off := 0) (m := 12) (j := i) hG hreq (by kernel_rfl)) (by kernel_rfl) rfl (by kernel_rfl) rfl ?_
      refine DK.seg hG 2 [1, 4, 5, 6, 30, 31] (t' := [(1, .ptr 0 0 none), (4, .own 1 0), (5, .sc (.bool (bif ((IntKind.u64.wrap ((BitVec.ofInt 64 (c.Value.getD (i.toNat) 0) &&& ~~~ (BitVec.ofInt 64 (c.Care.getD (i.toNat) 0))).toNat)) != 0) then false else ok))), (6, .sc (.int .i64 i)), (30, .sc (.int .u64 (c.Value.getD (i.toNat) 0))), (31, .sc (.int .i64 i))]) (h' := [.box 63 [.arr .u64 12 c.Value, .arr .u64 12 c.Care], .row 5 (List.map (intA .u8) out) 0 true]) (by kernel_rfl) rfl ?_
      refine DK.op' [1, 4, 5, 6, 30, 32] (t' := [(1, .ptr 0 0 none), (4, .own 1 0), (5, .sc (.bool (bif ((IntKind.u64.wrap ((BitVec.ofInt 64 (c.Value.getD (i.toNat) 0) &&& ~~~ (BitVec.ofInt 64 (c.Care.getD (i.toNat) 0))).toNat)) != 0) then false else ok))), (6, .sc (.int .i64 i)), (30, .sc (.int .u64 (c.Value.getD (i.toNat) 0))), (32, .sc (.int .i64 (Size i)))]) (h' := [.box 63 [.arr .u64 12 c.Value, .arr .u64 12 c.Care], .row 5 (List.map (intA .u8) out) 0 true]) (LSpec.callP' (Size_calls i) (by kernel_rfl)) (by kernel_rfl) rfl (by kernel_rfl) rfl ?_
      obtain ⟨x, hv, H⟩ := Option.bind_eq_some_iff.1 H
      refine DK.op' [1, 4, 5, 6, 33] (t' := [(1, .ptr 0 0 none), (4, .own 1 0), (5, .sc (.bool (bif ((IntKind.u64.wrap ((BitVec.ofInt 64 (c.Value.getD (i.toNat) 0) &&& ~~~ (BitVec.ofInt 64 (c.Care.getD (i.toNat) 0))).toNat)) != 0) then false else ok))), (6, .sc (.int .i64 i)), (33, .sl 4 (List.map boolA x) false)]) (h' := [.box 63 [.arr .u64 12 c.Value, .arr .u64 12 c.Care], .row 5 (List.map (intA .u8) out) 0 true]) (LSpec.callP' (Bits_calls (c.Value.getD (i.toNat) 0) (Size i) x hv) (by kernel_rfl)) (by kernel_rfl) rfl (by kernel_rfl) rfl ?_
      refine DK.seg hG 2 [1, 4, 5, 6, 33, 34, 35] (t' := [(1, .ptr 0 0 none), (4, .own 1 0), (5, .sc (.bool (bif ((IntKind.u64.wrap ((BitVec.ofInt 64 (c.Value.getD (i.toNat) 0) &&& ~~~ (BitVec.ofInt 64 (c.Care.getD (i.toNat) 0))).toNat)) != 0) then false else ok))), (6, .sc (.int .i64 i)), (33, .sl 4 (List.map boolA x) false), (34, .sc (.int .i64 i)), (35, .ptr 0 12 none)]) (h' := [.box 63 [.arr .u64 12 c.Value, .arr .u64 12 c.Care], .row 5 (List.map (intA .u8) out) 0 true]) (by kernel_rfl) rfl ?_
      obtain ⟨hreq, H⟩ := reqO_some H
      refine DK.op' [1, 4, 5, 6, 33, 36] (t' := [(1, .ptr 0 0 none), (4, .own 1 0), (5, .sc (.bool (bif ((IntKind.u64.wrap ((BitVec.ofInt 64 (c.Value.getD (i.toNat) 0) &&& ~~~ (BitVec.ofInt 64 (c.Care.getD (i.toNat) 0))).toNat)) != 0) then false else ok))), (6, .sc (.int .i64 i)), (33, .sl 4 (List.map boolA x) false), (36, .ptr 0 12 (some (i.toNat, 12)))]) (h' := [.box 63 [.arr .u64 12 c.Value, .arr .u64 12 c.Care], .row 5 (List.map (intA .u8) out) 0 true]) (LSpec.idxPtr (o := 0) (off := 12) (m := 12) (j := i) hG hreq (by kernel_rfl)) (by kernel_rfl) rfl (by kernel_rfl) rfl ?_
      refine DK.seg hG 2 [1, 4, 5, 6, 33, 37, 38] (t' := [(1, .ptr 0 0 none), (4, .own 1 0), (5, .sc (.bool (bif ((IntKind.u64.wrap ((BitVec.ofInt 64 (c.Value.getD (i.toNat) 0) &&& ~~~ (BitVec.ofInt 64 (c.Care.getD (i.toNat) 0))).toNat)) != 0) then false else ok))), (6, .sc (.int .i64 i)), (33, .sl 4 (List.map boolA x) false), (37, .sc (.int .u64 (c.Care.getD (i.toNat) 0))), (38, .sc (.int .i64 i))]) (h' := [.box 63 [.arr .u64 12 c.Value, .arr .u64 12 c.Care], .row 5 (List.map (intA .u8) out) 0 true]) (by kernel_rfl) rfl ?_
      refine DK.op' [1, 4, 5, 6, 33, 37, 39] (t' := [(1, .ptr 0 0 none), (4, .own 1 0), (5, .sc (.bool (bif ((IntKind.u64.wrap ((BitVec.ofInt 64 (c.Value.getD (i.toNat) 0) &&& ~~~ (BitVec.ofInt 64 (c.Care.getD (i.toNat) 0))).toNat)) != 0) then false else ok))), (6, .sc (.int .i64 i)), (33, .sl 4 (List.map boolA x) false), (37, .sc (.int .u64 (c.Care.getD (i.toNat) 0))), (39, .sc (.int .i64 (Size i)))]) (h' := [.box 63 [.arr .u64 12 c.Value, .arr .u64 12 c.Care], .row 5 (List.map (intA .u8) out) 0 true]) (LSpec.callP' (Size_calls i) (by kernel_rfl)) (by kernel_rfl) rfl (by kernel_rfl) rfl ?_
      obtain ⟨x1, hv, H⟩ := Option.bind_eq_some_iff.1 H
      refine DK.op' [1, 4, 5, 6, 33, 40] (t' := [(1, .ptr 0 0 none), (4, .own 1 0), (5, .sc (.bool (bif ((IntKind.u64.wrap ((BitVec.ofInt 64 (c.Value.getD (i.toNat) 0) &&& ~~~ (BitVec.ofInt 64 (c.Care.getD (i.toNat) 0))).toNat)) != 0) then false else ok))), (6, .sc (.int .i64 i)), (33, .sl 4 (List.map boolA x) false), (40, .sl 4 (List.map boolA x1) false)]) (h' := [.box 63 [.arr .u64 12 c.Value, .arr .u64 12 c.Care], .row 5 (List.map (intA .u8) out) 0 true]) (LSpec.callP' (Bits_calls (c.Care.getD (i.toNat) 0) (Size i) x1 hv) (by kernel_rfl)) (by kernel_rfl) rfl (by kernel_rfl) rfl ?_
      refine DK.seg hG 2 [1, 4, 5, 6, 7, 8] (t' := [(1, .ptr 0 0 none), (4, .own 1 0), (5, .sc (.bool (bif ((IntKind.u64.wrap ((BitVec.ofInt 64 (c.Value.getD (i.toNat) 0) &&& ~~~ (BitVec.ofInt 64 (c.Care.getD (i.toNat) 0))).toNat)) != 0) then false else ok))), (6, .sc (.int .i64 i)), (7, .sl 4 (List.map boolA x) false), (8, .sl 4 (List.map boolA x1) false)]) (h' := [.box 63 [.arr .u64 12 c.Value, .arr .u64 12 c.Care], .row 5 (List.map (intA .u8) out) 0 true]) (by kernel_rfl) rfl ?_
      refine DK.done (by kernel_rfl) (by kernel_rfl) ?_
      refine AR.seg hG hm 3 [1, 4, 5, 6, 7, 8, 9] (k' := [.code [1, 1, 1, 0, 1, 0, 0, 1, 0, 0, 1, 1, 1, 0], .blk 2, .blk 1, .code [1, 1, 1, 0, 1, 0, 0, 1, 1], .loop [1, 1, 1, 0, 1, 0], .blk 0, .code [1, 1, 1, 1]]) (t' := [(1, .ptr 0 0 none), (4, .own 1 0), (5, .sc (.bool (bif ((IntKind.u64.wrap ((BitVec.ofInt 64 (c.Value.getD (i.toNat) 0) &&& ~~~ (BitVec.ofInt 64 (c.Care.getD (i.toNat) 0))).toNat)) != 0) then false else ok))), (6, .sc (.int .i64 i)), (7, .sl 4 (List.map boolA x) false), (8, .sl 4 (List.map boolA x1) false), (9, .sc (.int .i64 0))]) (h' := [.box 63 [.arr .u64 12 c.Value, .arr .u64 12 c.Care], .row 5 (List.map (intA .u8) out) 0 true]) (by kernel_rfl) ?_
      obtain ⟨v, hv, H⟩ := Option.bind_eq_some_iff.1 H
      refine AR.into (by kernel_rfl) ?_
      refine podestaref01_Text_l1_walk q0 q1 c ok i out x x1 (bif ((IntKind.u64.wrap ((BitVec.ofInt 64 (c.Value.getD (i.toNat) 0) &&& ~~~ (BitVec.ofInt 64 (c.Care.getD (i.toNat) 0))).toNat)) != 0) then false else ok) r c0 hc0 v ?_ q1 0 out hv
      refine AR.seg hG hm 2 [1, 4, 5, 6] (k' := [.loop [1, 1, 1, 0, 1, 0], .blk 0, .code [1, 1, 1, 1]]) (t' := [(1, .ptr 0 0 none), (4, .own 1 0), (5, .sc (.bool v.1)), (6, .sc (.int .i64 (IntKind.i64.wrap (i + 1))))]) (h' := [.box 63 [.arr .u64 12 c.Value, .arr .u64 12 c.Care], .row 5 (List.map (intA .u8) v.2) 0 true]) (by kernel_rfl) ?_
      refine AR.keep [1, 4, 5, 6] (t' := [(1, .ptr 0 0 none), (4, .own 1 0), (5, .sc (.bool v.1)), (6, .sc (.int .i64 (IntKind.i64.wrap (i + 1))))]) (by kernel_rfl) ?_
      refine AR.loop_round ?_
      exact ih v.1 (IntKind.i64.wrap (i + 1)) v.2 H
    case hf33 =>
      replace H := cond_f hb H
      refine AR.seg hG hm 1 [4, 5] (k' := [.code [1, 1, 1, 1]]) (t' := [(4, .own 1 0), (5, .sc (.bool ok))]) (h' := [.box 63 [.arr .u64 12 c.Value, .arr .u64 12 c.Care], .row 5 (List.map (intA .u8) out) 0 true]) (by kernel_rfl) ?_
      refine AR.keep [4, 5] (t' := [(4, .own 1 0), (5, .sc (.bool ok))]) (by kernel_rfl) ?_
      obtain rfl := Option.some.inj H
      exact J
def podestaref01_Text_raw (q0 : Nat) (q1 : Nat) (c : Cube) : Option (ByteArray × Bool) :=
  (podestaref01_Text_l0 q1 c q0 (HeadOk c.Care) 0 ([] : List Int)).bind fun v =>
  some ((strOfNums v.2), v.1)
theorem podestaref01_Text_walk (q0 : Nat) (q1 : Nat) (c : Cube) (r : ByteArray × Bool) (H : podestaref01_Text_raw q0 q1 c = some r) :
    ACalls Try.prog tab.S 67 [Cube.av c] [] (.tup [.sc (.string r.1), .sc (.bool r.2)]) [] := by
  have hG := tab_ok
  have hm := mixed
  refine ACalls.of_AR (G := tab) podestaref01_Text_F (fn := Try.f67) Try.func67 (by kernel_rfl) (by kernel_rfl) (by kernel_rfl) (Nat.le_of_ble_eq_true (by kernel_rfl)) ?_
  intro c0 hc0
  replace hc0 : c0.m.length = 0 := hc0
  rw [podestaref01_Text_raw] at H
  refine AR.seg hG hm 5 [1, 4] (k' := [.code [1, 1, 0], .code [1, 1, 1]]) (t' := [(1, .ptr 0 0 none), (4, .sl 0 [] true)]) (h' := [.box 63 [.arr .u64 12 c.Value, .arr .u64 12 c.Care]]) (by kernel_rfl) ?_
  refine AR.reg hm podestaref01_Text_k0 (by kernel_rfl) ?_
  refine DK.seg hG 2 [1, 4, 11] (t' := [(1, .ptr 0 0 none), (4, .sl 0 [] true), (11, .arr .u64 12 c.Care)]) (h' := [.box 63 [.arr .u64 12 c.Value, .arr .u64 12 c.Care]]) (by kernel_rfl) rfl ?_
  refine DK.op' [1, 4, 12] (t' := [(1, .ptr 0 0 none), (4, .sl 0 [] true), (12, .sc (.bool (HeadOk c.Care)))]) (h' := [.box 63 [.arr .u64 12 c.Value, .arr .u64 12 c.Care]]) (LSpec.callP' (Head_calls c.Care) (by kernel_rfl)) (by kernel_rfl) rfl (by kernel_rfl) rfl ?_
  refine DK.seg hG 1 [1, 4, 5] (t' := [(1, .ptr 0 0 none), (4, .sl 0 [] true), (5, .sc (.bool (HeadOk c.Care)))]) (h' := [.box 63 [.arr .u64 12 c.Value, .arr .u64 12 c.Care]]) (by kernel_rfl) rfl ?_
  refine DK.done (by kernel_rfl) (by kernel_rfl) ?_
  refine AR.seg hG hm 4 [1, 4, 5, 6] (k' := [.code [1, 1, 1, 0, 1, 0], .blk 0, .code [1, 1, 1, 1]]) (t' := [(1, .ptr 0 0 none), (4, .sl 0 [] true), (5, .sc (.bool (HeadOk c.Care))), (6, .sc (.int .i64 0))]) (h' := [.box 63 [.arr .u64 12 c.Value, .arr .u64 12 c.Care]]) (by kernel_rfl) ?_
  refine AR.adopt' 4 5 (t' := [(4, .own 1 0), (1, .ptr 0 0 none), (5, .sc (.bool (HeadOk c.Care))), (6, .sc (.int .i64 0))]) (h' := [.box 63 [.arr .u64 12 c.Value, .arr .u64 12 c.Care], .row 5 (List.map (intA .u8) ([] : List Int)) 0 true]) (by kernel_rfl) ?_
  refine AR.keep [1, 4, 5, 6] (t' := [(1, .ptr 0 0 none), (4, .own 1 0), (5, .sc (.bool (HeadOk c.Care))), (6, .sc (.int .i64 0))]) (by kernel_rfl) ?_
  obtain ⟨v, hv, H⟩ := Option.bind_eq_some_iff.1 H
  refine AR.into (by kernel_rfl) ?_
  refine podestaref01_Text_l0_walk q0 q1 c r c0 hc0 v ?_ q0 (HeadOk c.Care) 0 ([] : List Int) hv
  refine AR.seg hG hm 1 [4, 5] (k' := [.code [1, 1, 1, 1, 0], .code [1, 1, 1, 1, 1]]) (t' := [(4, .own 1 0), (5, .sc (.bool v.1))]) (h' := [.box 63 [.arr .u64 12 c.Value, .arr .u64 12 c.Care], .row 5 (List.map (intA .u8) v.2) 0 true]) (by kernel_rfl) ?_
  refine AR.reg hm podestaref01_Text_k8 (by kernel_rfl) ?_
  refine DK.seg hG 1 [5, 67] (t' := [(5, .sc (.bool v.1)), (67, .own 1 0)]) (h' := [.box 63 [.arr .u64 12 c.Value, .arr .u64 12 c.Care], .row 5 (List.map (intA .u8) v.2) 0 true]) (by kernel_rfl) rfl ?_
  refine DK.op' [5, 68] (t' := [(5, .sc (.bool v.1)), (68, .sc (.string (strOfNums v.2)))]) (h' := [.box 63 [.arr .u64 12 c.Value, .arr .u64 12 c.Care], .row 5 (List.map (intA .u8) v.2) 0 true]) (LSpec.bytesStr hG v.2 (by kernel_rfl)) (by kernel_rfl) rfl (by kernel_rfl) rfl ?_
  refine DK.seg hG 3 [2, 3] (t' := [(2, .sc (.string (strOfNums v.2))), (3, .sc (.bool v.1))]) (h' := [.box 63 [.arr .u64 12 c.Value, .arr .u64 12 c.Care], .row 5 (List.map (intA .u8) v.2) 0 true]) (by kernel_rfl) rfl ?_
  refine DK.done (by kernel_rfl) (by kernel_rfl) ?_
  obtain rfl := Option.some.inj H
  exact AR.ret0 (fn := Try.f67) hG Try.func67 (by kernel_rfl) hc0 (r0 := .tup [.sc (.string (strOfNums v.2)), .sc (.bool v.1)]) (by kernel_rfl) (WkV.refl _)

end Go.Proofs.Ytjchejmakdkioaa
