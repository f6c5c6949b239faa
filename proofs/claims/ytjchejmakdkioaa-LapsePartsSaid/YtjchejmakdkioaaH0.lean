import Derived.Test.YtjchejmakdkioaaRb
set_option linter.unusedVariables false
set_option maxRecDepth 100000
set_option maxHeartbeats 4000000
namespace Go.Proofs.Ytjchejmakdkioaa
open Go.Sh
/-! ### podestalaw06.LapseStill: function 13 -/
noncomputable def podestalaw06_LapseStill_F : Go.Sh.Fn := ⟨13, bodyOf Try.f13, 61⟩
def podestalaw06_LapseStill_k1 : List Kd := [.pure, .pure]
def podestalaw06_LapseStill_k5 : List Kd := [.pure, .pure, .pure, .pure, .pure, .pure, .pure, .pure, .pure, .pure, .pure, .pure, .pure, .pure, .pure, .pure, .pure, .pure, .pure, .pure, .pure, .pure, .pure, .pure]
def podestalaw06_LapseStill_k4 : List Kd := [.pure, .pure, .pure, .pure, .pure, .pure, .pure]
def podestalaw06_LapseStill_k3 : List Kd := [.pure, .pure, .pure, .pure, .pure, .pure, .pure, .pure, .pure, .pure]
def podestalaw06_LapseStill_k2 : List Kd := [.pure, .pure, .pure, .pure, .pure, .pure, .pure]
def podestalaw06_LapseStill_k0 : List Kd := [.pure, .pure, .pure, .pure, .pure, .pure, .pure, .pure]
def podestalaw06_LapseStill (l : List Rule) (n : Int) : Bool :=
  (bif ((decide ((((List.map Rule.av l).length : Nat) : Int) > 40)) || (!(TableOk l))) then
    true
  else
    ((((((Tick l 0).1) == ((Tick l (IntKind.i64.wrap (0 - (IntKind.i64.wrap n)))).1)) && (((Tick l 0).2) == ((Tick l (IntKind.i64.wrap (0 - (IntKind.i64.wrap n)))).2))) && (((Tick l 0).1) == ((Tick l 0).1))) && ((((List.map Rule.av ((Tick l 0).2)).length : Nat) : Int) == (((List.map Rule.av ((Tick l 0).2)).length : Nat) : Int))))
theorem podestalaw06_LapseStill_walk (l : List Rule) (n : Int) (f_l : Bool) (r : Bool) (H : podestalaw06_LapseStill l n = r) :
    ACalls Try.prog tab.S 13 [.sl 66 (List.map Rule.av l) f_l, .sc (.int .u16 n)] [] (.sc (.bool r)) [] := by
  have hG := tab_ok
  have hm := mixed
  refine ACalls.of_AR (G := tab) podestalaw06_LapseStill_F (fn := Try.f13) Try.func13 (by kernel_rfl) (by kernel_rfl) (by kernel_rfl) (Nat.le_of_ble_eq_true (by kernel_rfl)) ?_
  intro c0 hc0
  replace hc0 : c0.m.length = 0 := hc0
  rw [podestalaw06_LapseStill] at H
  refine AR.seg hG hm 4 [0, 1] (k' := [.code [1, 0, 0], .code [1, 0, 1], .code [1, 1]]) (t' := [(0, .sl 66 (List.map Rule.av l) f_l), (1, .sc (.int .u16 n))]) (h' := []) (by kernel_rfl) ?_
  refine AR.reg hm podestalaw06_LapseStill_k0 (by kernel_rfl) ?_
  refine DK.seg hG 4 [0, 1, 14] (t' := [(0, .sl 66 (List.map Rule.av l) f_l), (1, .sc (.int .u16 n)), (14, .sc (.bool (decide ((((List.map Rule.av l).length : Nat) : Int) > 40))))]) (h' := []) (by kernel_rfl) rfl ?_
  refine DK.mux 14 (decide ((((List.map Rule.av l).length : Nat) : Int) > 40)) (j := 8) (h' := []) (by kernel_rfl) (fun z => [(0, .sl 66 (List.map Rule.av l) f_l), (1, .sc (.int .u16 n)), (18, .sc (.bool (z || (!(TableOk l)))))]) ?J1 (fun hb J => ?ht1) (fun hb J => ?hf1)
  case ht1 =>
    exact DK.seg hG 4 [0, 1, 18] (by kernel_rfl) rfl J
  case hf1 =>
    refine DK.seg hG 1 [0, 1, 14, 15] (t' := [(0, .sl 66 (List.map Rule.av l) f_l), (1, .sc (.int .u16 n)), (14, .sc (.bool false)), (15, .sl 66 (List.map Rule.av l) f_l)]) (h' := []) (by kernel_rfl) rfl ?_
    refine DK.op' [0, 1, 14, 16] (t' := [(0, .sl 66 (List.map Rule.av l) f_l), (1, .sc (.int .u16 n)), (14, .sc (.bool false)), (16, .sc (.bool (TableOk l)))]) (h' := []) (LSpec.callP' (Table_calls l f_l) (by kernel_rfl)) (by kernel_rfl) rfl (by kernel_rfl) rfl ?_
    exact DK.seg hG 2 [0, 1, 18] (by kernel_rfl) rfl J
  refine DK.done (by kernel_rfl) (by kernel_rfl) ?_
  refine AR.cond (.tmp 18) ((decide ((((List.map Rule.av l).length : Nat) : Int) > 40)) || (!(TableOk l))) (by kernel_rfl) (by kernel_rfl) (fun hb => ?ht2) (fun hb => ?hf2)
  case ht2 =>
    replace H := cond_t hb H
    refine AR.seg hG hm 1 [] (k' := [.code [1, 0, 1, 0, 0], .code [1, 0, 1, 0, 1], .code [1, 1]]) (t' := []) (h' := []) (by kernel_rfl) ?_
    refine AR.reg hm podestalaw06_LapseStill_k1 (by kernel_rfl) ?_
    refine DK.op' [19] (t' := [(19, .sc (.bool true))]) (h' := []) (LSpec.callP' (answers06_calls) (by kernel_rfl)) (by kernel_rfl) rfl (by kernel_rfl) rfl ?_
    refine DK.seg hG 1 [4] (t' := [(4, .sc (.bool true))]) (h' := []) (by kernel_rfl) rfl ?_
    refine DK.done (by kernel_rfl) (by kernel_rfl) ?_
    subst H
    exact AR.ret0 (fn := Try.f13) hG Try.func13 (by kernel_rfl) hc0 (r0 := .sc (.bool true)) (by kernel_rfl) (WkV.refl _)
  case hf2 =>
    replace H := cond_f hb H
    refine AR.seg hG hm 2 [0, 1] (k' := [.code [1, 1, 0], .code [1, 1, 1]]) (t' := [(0, .sl 66 (List.map Rule.av l) f_l), (1, .sc (.int .u16 n))]) (h' := []) (by kernel_rfl) ?_
    refine AR.reg hm podestalaw06_LapseStill_k2 (by kernel_rfl) ?_
    refine DK.seg hG 1 [0, 1, 21] (t' := [(0, .sl 66 (List.map Rule.av l) f_l), (1, .sc (.int .u16 n)), (21, .sl 66 (List.map Rule.av l) f_l)]) (h' := []) (by kernel_rfl) rfl ?_
    refine DK.op' [0, 1, 22] (t' := [(0, .sl 66 (List.map Rule.av l) f_l), (1, .sc (.int .u16 n)), (22, .tup [.sl 66 (List.map Rule.av ((Tick l 0).1)) false, .sl 66 (List.map Rule.av ((Tick l 0).2)) false])]) (h' := []) (LSpec.callP' (Tick_calls l 0 f_l) (by kernel_rfl)) (by kernel_rfl) rfl (by kernel_rfl) rfl ?_
    refine DK.seg hG 5 [0, 1, 5, 6] (t' := [(0, .sl 66 (List.map Rule.av l) f_l), (1, .sc (.int .u16 n)), (5, .sl 66 (List.map Rule.av ((Tick l 0).1)) false), (6, .sl 66 (List.map Rule.av ((Tick l 0).2)) false)]) (h' := []) (by kernel_rfl) rfl ?_
    refine DK.done (by kernel_rfl) (by kernel_rfl) ?_
    refine AR.seg hG hm 1 [0, 1, 5, 6] (k' := [.code [1, 1, 1, 0], .code [1, 1, 1, 1]]) (t' := [(0, .sl 66 (List.map Rule.av l) f_l), (1, .sc (.int .u16 n)), (5, .sl 66 (List.map Rule.av ((Tick l 0).1)) false), (6, .sl 66 (List.map Rule.av ((Tick l 0).2)) false)]) (h' := []) (by kernel_rfl) ?_
    refine AR.reg hm podestalaw06_LapseStill_k3 (by kernel_rfl) ?_
    refine DK.seg hG 4 [0, 5, 6, 26, 29] (t' := [(0, .sl 66 (List.map Rule.av l) f_l), (5, .sl 66 (List.map Rule.av ((Tick l 0).1)) false), (6, .sl 66 (List.map Rule.av ((Tick l 0).2)) false), (26, .sl 66 (List.map Rule.av l) f_l), (29, .sc (.int .i64 (IntKind.i64.wrap (0 - (IntKind.i64.wrap n)))))]) (h' := []) (by kernel_rfl) rfl ?_
    refine DK.op' [0, 5, 6, 30] (t' := [(0, .sl 66 (List.map Rule.av l) f_l), (5, .sl 66 (List.map Rule.av ((Tick l 0).1)) false), (6, .sl 66 (List.map Rule.av ((Tick l 0).2)) false), (30, .tup [.sl 66 (List.map Rule.av ((Tick l (IntKind.i64.wrap (0 - (IntKind.i64.wrap n)))).1)) false, .sl 66 (List.map Rule.av ((Tick l (IntKind.i64.wrap (0 - (IntKind.i64.wrap n)))).2)) false])]) (h' := []) (LSpec.callP' (Tick_calls l (IntKind.i64.wrap (0 - (IntKind.i64.wrap n))) f_l) (by kernel_rfl)) (by kernel_rfl) rfl (by kernel_rfl) rfl ?_
    refine DK.seg hG 5 [0, 5, 6, 7, 8] (t' := [(0, .sl 66 (List.map Rule.av l) f_l), (5, .sl 66 (List.map Rule.av ((Tick l 0).1)) false), (6, .sl 66 (List.map Rule.av ((Tick l 0).2)) false), (7, .sl 66 (List.map Rule.av ((Tick l (IntKind.i64.wrap (0 - (IntKind.i64.wrap n)))).1)) false), (8, .sl 66 (List.map Rule.av ((Tick l (IntKind.i64.wrap (0 - (IntKind.i64.wrap n)))).2)) false)]) (h' := []) (by kernel_rfl) rfl ?_
    refine DK.done (by kernel_rfl) (by kernel_rfl) ?_
    refine AR.seg hG hm 1 [0, 5, 6, 7, 8] (k' := [.code [1, 1, 1, 1, 0], .code [1, 1, 1, 1, 1]]) (t' := [(0, .sl 66 (List.map Rule.av l) f_l), (5, .sl 66 (List.map Rule.av ((Tick l 0).1)) false), (6, .sl 66 (List.map Rule.av ((Tick l 0).2)) false), (7, .sl 66 (List.map Rule.av ((Tick l (IntKind.i64.wrap (0 - (IntKind.i64.wrap n)))).1)) false), (8, .sl 66 (List.map Rule.av ((Tick l (IntKind.i64.wrap (0 - (IntKind.i64.wrap n)))).2)) false)]) (h' := []) (by kernel_rfl) ?_
    refine AR.reg hm podestalaw06_LapseStill_k4 (by kernel_rfl) ?_
    refine DK.seg hG 1 [5, 6, 7, 8, 34] (t' := [(5, .sl 66 (List.map Rule.av ((Tick l 0).1)) false), (6, .sl 66 (List.map Rule.av ((Tick l 0).2)) false), (7, .sl 66 (List.map Rule.av ((Tick l (IntKind.i64.wrap (0 - (IntKind.i64.wrap n)))).1)) false), (8, .sl 66 (List.map Rule.av ((Tick l (IntKind.i64.wrap (0 - (IntKind.i64.wrap n)))).2)) false), (34, .sl 66 (List.map Rule.av l) f_l)]) (h' := []) (by kernel_rfl) rfl ?_
    refine DK.op' [5, 6, 7, 8, 35] (t' := [(5, .sl 66 (List.map Rule.av ((Tick l 0).1)) false), (6, .sl 66 (List.map Rule.av ((Tick l 0).2)) false), (7, .sl 66 (List.map Rule.av ((Tick l (IntKind.i64.wrap (0 - (IntKind.i64.wrap n)))).1)) false), (8, .sl 66 (List.map Rule.av ((Tick l (IntKind.i64.wrap (0 - (IntKind.i64.wrap n)))).2)) false), (35, .tup [.sl 66 (List.map Rule.av ((Tick l 0).1)) false, .sl 66 (List.map Rule.av ((Tick l 0).2)) false])]) (h' := []) (LSpec.callP' (ref_Tick_calls l 0 f_l) (by kernel_rfl)) (by kernel_rfl) rfl (by kernel_rfl) rfl ?_
    refine DK.seg hG 5 [5, 6, 7, 8, 9, 10] (t' := [(5, .sl 66 (List.map Rule.av ((Tick l 0).1)) false), (6, .sl 66 (List.map Rule.av ((Tick l 0).2)) false), (7, .sl 66 (List.map Rule.av ((Tick l (IntKind.i64.wrap (0 - (IntKind.i64.wrap n)))).1)) false), (8, .sl 66 (List.map Rule.av ((Tick l (IntKind.i64.wrap (0 - (IntKind.i64.wrap n)))).2)) false), (9, .sl 66 (List.map Rule.av ((Tick l 0).1)) false), (10, .sl 66 (List.map Rule.av ((Tick l 0).2)) false)]) (h' := []) (by kernel_rfl) rfl ?_
    refine DK.done (by kernel_rfl) (by kernel_rfl) ?_
    refine AR.seg hG hm 1 [5, 6, 7, 8, 9, 10] (k' := [.code [1, 1, 1, 1, 1, 0], .code [1, 1, 1, 1, 1, 1]]) (t' := [(5, .sl 66 (List.map Rule.av ((Tick l 0).1)) false), (6, .sl 66 (List.map Rule.av ((Tick l 0).2)) false), (7, .sl 66 (List.map Rule.av ((Tick l (IntKind.i64.wrap (0 - (IntKind.i64.wrap n)))).1)) false), (8, .sl 66 (List.map Rule.av ((Tick l (IntKind.i64.wrap (0 - (IntKind.i64.wrap n)))).2)) false), (9, .sl 66 (List.map Rule.av ((Tick l 0).1)) false), (10, .sl 66 (List.map Rule.av ((Tick l 0).2)) false)]) (h' := []) (by kernel_rfl) ?_
    refine AR.reg hm podestalaw06_LapseStill_k5 (by kernel_rfl) ?_
    refine DK.op' [5, 6, 7, 8, 9, 10, 38] (t' := [(5, .sl 66 (List.map Rule.av ((Tick l 0).1)) false), (6, .sl 66 (List.map Rule.av ((Tick l 0).2)) false), (7, .sl 66 (List.map Rule.av ((Tick l (IntKind.i64.wrap (0 - (IntKind.i64.wrap n)))).1)) false), (8, .sl 66 (List.map Rule.av ((Tick l (IntKind.i64.wrap (0 - (IntKind.i64.wrap n)))).2)) false), (9, .sl 66 (List.map Rule.av ((Tick l 0).1)) false), (10, .sl 66 (List.map Rule.av ((Tick l 0).2)) false), (38, .sc (.bool true))]) (h' := []) (LSpec.callP' (answers06_calls) (by kernel_rfl)) (by kernel_rfl) rfl (by kernel_rfl) rfl ?_
    refine DK.seg hG 3 [5, 6, 8, 9, 10, 39, 40, 41] (t' := [(5, .sl 66 (List.map Rule.av ((Tick l 0).1)) false), (6, .sl 66 (List.map Rule.av ((Tick l 0).2)) false), (8, .sl 66 (List.map Rule.av ((Tick l (IntKind.i64.wrap (0 - (IntKind.i64.wrap n)))).2)) false), (9, .sl 66 (List.map Rule.av ((Tick l 0).1)) false), (10, .sl 66 (List.map Rule.av ((Tick l 0).2)) false), (39, .sc (.bool true)), (40, .sl 66 (List.map Rule.av ((Tick l 0).1)) false), (41, .sl 66 (List.map Rule.av ((Tick l (IntKind.i64.wrap (0 - (IntKind.i64.wrap n)))).1)) false)]) (h' := []) (by kernel_rfl) rfl ?_
    refine DK.op' [5, 6, 8, 9, 10, 39, 42] (t' := [(5, .sl 66 (List.map Rule.av ((Tick l 0).1)) false), (6, .sl 66 (List.map Rule.av ((Tick l 0).2)) false), (8, .sl 66 (List.map Rule.av ((Tick l (IntKind.i64.wrap (0 - (IntKind.i64.wrap n)))).2)) false), (9, .sl 66 (List.map Rule.av ((Tick l 0).1)) false), (10, .sl 66 (List.map Rule.av ((Tick l 0).2)) false), (39, .sc (.bool true)), (42, .sc (.bool (((Tick l 0).1) == ((Tick l (IntKind.i64.wrap (0 - (IntKind.i64.wrap n)))).1))))]) (h' := []) (LSpec.callP' (Same_calls ((Tick l 0).1) ((Tick l (IntKind.i64.wrap (0 - (IntKind.i64.wrap n)))).1) false false) (by kernel_rfl)) (by kernel_rfl) rfl (by kernel_rfl) rfl ?_
    refine DK.seg hG 2 [5, 6, 8, 9, 10, 44] (t' := [(5, .sl 66 (List.map Rule.av ((Tick l 0).1)) false), (6, .sl 66 (List.map Rule.av ((Tick l 0).2)) false), (8, .sl 66 (List.map Rule.av ((Tick l (IntKind.i64.wrap (0 - (IntKind.i64.wrap n)))).2)) false), (9, .sl 66 (List.map Rule.av ((Tick l 0).1)) false), (10, .sl 66 (List.map Rule.av ((Tick l 0).2)) false), (44, .sc (.bool (((Tick l 0).1) == ((Tick l (IntKind.i64.wrap (0 - (IntKind.i64.wrap n)))).1))))]) (h' := []) (by kernel_rfl) rfl ?_
    refine DK.mux 44 (((Tick l 0).1) == ((Tick l (IntKind.i64.wrap (0 - (IntKind.i64.wrap n)))).1)) (j := 11) (h' := []) (by kernel_rfl) (fun z => [(5, .sl 66 (List.map Rule.av ((Tick l 0).1)) false), (6, .sl 66 (List.map Rule.av ((Tick l 0).2)) false), (9, .sl 66 (List.map Rule.av ((Tick l 0).1)) false), (10, .sl 66 (List.map Rule.av ((Tick l 0).2)) false), (48, .sc (.bool (z && (((Tick l 0).2) == ((Tick l (IntKind.i64.wrap (0 - (IntKind.i64.wrap n)))).2)))))]) ?J3 (fun hb J => ?ht3) (fun hb J => ?hf3)
    case ht3 =>
      refine DK.seg hG 2 [5, 6, 9, 10, 44, 45, 46] (t' := [(5, .sl 66 (List.map Rule.av ((Tick l 0).1)) false), (6, .sl 66 (List.map Rule.av ((Tick l 0).2)) false), (9, .sl 66 (List.map Rule.av ((Tick l 0).1)) false), (10, .sl 66 (List.map Rule.av ((Tick l 0).2)) false), (44, .sc (.bool true)), (45, .sl 66 (List.map Rule.av ((Tick l 0).2)) false), (46, .sl 66 (List.map Rule.av ((Tick l (IntKind.i64.wrap (0 - (IntKind.i64.wrap n)))).2)) false)]) (h' := []) (by kernel_rfl) rfl ?_
      refine DK.op' [5, 6, 9, 10, 44, 47] (t' := [(5, .sl 66 (List.map Rule.av ((Tick l 0).1)) false), (6, .sl 66 (List.map Rule.av ((Tick l 0).2)) false), (9, .sl 66 (List.map Rule.av ((Tick l 0).1)) false), (10, .sl 66 (List.map Rule.av ((Tick l 0).2)) false), (44, .sc (.bool true)), (47, .sc (.bool (((Tick l 0).2) == ((Tick l (IntKind.i64.wrap (0 - (IntKind.i64.wrap n)))).2))))]) (h' := []) (LSpec.callP' (Same_calls ((Tick l 0).2) ((Tick l (IntKind.i64.wrap (0 - (IntKind.i64.wrap n)))).2) false false) (by kernel_rfl)) (by kernel_rfl) rfl (by kernel_rfl) rfl ?_
      exact DK.seg hG 1 [5, 6, 9, 10, 48] (by kernel_rfl) rfl J
    case hf3 =>
      exact DK.seg hG 4 [5, 6, 9, 10, 48] (by kernel_rfl) rfl J
    refine DK.seg hG 1 [5, 6, 9, 10, 49] (t' := [(5, .sl 66 (List.map Rule.av ((Tick l 0).1)) false), (6, .sl 66 (List.map Rule.av ((Tick l 0).2)) false), (9, .sl 66 (List.map Rule.av ((Tick l 0).1)) false), (10, .sl 66 (List.map Rule.av ((Tick l 0).2)) false), (49, .sc (.bool ((((Tick l 0).1) == ((Tick l (IntKind.i64.wrap (0 - (IntKind.i64.wrap n)))).1)) && (((Tick l 0).2) == ((Tick l (IntKind.i64.wrap (0 - (IntKind.i64.wrap n)))).2)))))]) (h' := []) (by kernel_rfl) rfl ?_
    refine DK.mux 49 ((((Tick l 0).1) == ((Tick l (IntKind.i64.wrap (0 - (IntKind.i64.wrap n)))).1)) && (((Tick l 0).2) == ((Tick l (IntKind.i64.wrap (0 - (IntKind.i64.wrap n)))).2))) (j := 16) (h' := []) (by kernel_rfl) (fun z => [(6, .sl 66 (List.map Rule.av ((Tick l 0).2)) false), (10, .sl 66 (List.map Rule.av ((Tick l 0).2)) false), (53, .sc (.bool (z && (((Tick l 0).1) == ((Tick l 0).1)))))]) ?J4 (fun hb J => ?ht4) (fun hb J => ?hf4)
    case ht4 =>
      refine DK.seg hG 2 [6, 10, 49, 50, 51] (t' := [(6, .sl 66 (List.map Rule.av ((Tick l 0).2)) false), (10, .sl 66 (List.map Rule.av ((Tick l 0).2)) false), (49, .sc (.bool true)), (50, .sl 66 (List.map Rule.av ((Tick l 0).1)) false), (51, .sl 66 (List.map Rule.av ((Tick l 0).1)) false)]) (h' := []) (by kernel_rfl) rfl ?_
      refine DK.op' [6, 10, 49, 52] (t' := [(6, .sl 66 (List.map Rule.av ((Tick l 0).2)) false), (10, .sl 66 (List.map Rule.av ((Tick l 0).2)) false), (49, .sc (.bool true)), (52, .sc (.bool (((Tick l 0).1) == ((Tick l 0).1))))]) (h' := []) (LSpec.callP' (Same_calls ((Tick l 0).1) ((Tick l 0).1) false false) (by kernel_rfl)) (by kernel_rfl) rfl (by kernel_rfl) rfl ?_
      exact DK.seg hG 1 [6, 10, 53] (by kernel_rfl) rfl J
    case hf4 =>
      exact DK.seg hG 4 [6, 10, 53] (by kernel_rfl) rfl J
    refine DK.seg hG 1 [6, 10, 54] (t' := [(6, .sl 66 (List.map Rule.av ((Tick l 0).2)) false), (10, .sl 66 (List.map Rule.av ((Tick l 0).2)) false), (54, .sc (.bool (((((Tick l 0).1) == ((Tick l (IntKind.i64.wrap (0 - (IntKind.i64.wrap n)))).1)) && (((Tick l 0).2) == ((Tick l (IntKind.i64.wrap (0 - (IntKind.i64.wrap n)))).2))) && (((Tick l 0).1) == ((Tick l 0).1)))))]) (h' := []) (by kernel_rfl) rfl ?_
    refine DK.mux 54 (((((Tick l 0).1) == ((Tick l (IntKind.i64.wrap (0 - (IntKind.i64.wrap n)))).1)) && (((Tick l 0).2) == ((Tick l (IntKind.i64.wrap (0 - (IntKind.i64.wrap n)))).2))) && (((Tick l 0).1) == ((Tick l 0).1))) (j := 23) (h' := []) (by kernel_rfl) (fun z => [(60, .sc (.bool (z && ((((List.map Rule.av ((Tick l 0).2)).length : Nat) : Int) == (((List.map Rule.av ((Tick l 0).2)).length : Nat) : Int)))))]) ?J5 (fun hb J => ?ht5) (fun hb J => ?hf5)
    case ht5 =>
      exact DK.seg hG 6 [60] (by kernel_rfl) rfl J
    case hf5 =>
      exact DK.seg hG 6 [60] (by kernel_rfl) rfl J
    refine DK.seg hG 1 [4] (t' := [(4, .sc (.bool ((((((Tick l 0).1) == ((Tick l (IntKind.i64.wrap (0 - (IntKind.i64.wrap n)))).1)) && (((Tick l 0).2) == ((Tick l (IntKind.i64.wrap (0 - (IntKind.i64.wrap n)))).2))) && (((Tick l 0).1) == ((Tick l 0).1))) && ((((List.map Rule.av ((Tick l 0).2)).length : Nat) : Int) == (((List.map Rule.av ((Tick l 0).2)).length : Nat) : Int)))))]) (h' := []) (by kernel_rfl) rfl ?_
    refine DK.done (by kernel_rfl) (by kernel_rfl) ?_
    subst H
    exact AR.ret0 (fn := Try.f13) hG Try.func13 (by kernel_rfl) hc0 (r0 := .sc (.bool ((((((Tick l 0).1) == ((Tick l (IntKind.i64.wrap (0 - (IntKind.i64.wrap n)))).1)) && (((Tick l 0).2) == ((Tick l (IntKind.i64.wrap (0 - (IntKind.i64.wrap n)))).2))) && (((Tick l 0).1) == ((Tick l 0).1))) && ((((List.map Rule.av ((Tick l 0).2)).length : Nat) : Int) == (((List.map Rule.av ((Tick l 0).2)).length : Nat) : Int))))) (by kernel_rfl) (WkV.refl _)
theorem podestalaw06_LapseStill_calls (l : List Rule) (n : Int) (f_l : Bool) : ACalls Try.prog tab.S 13 [.sl 66 (List.map Rule.av l) f_l, .sc (.int .u16 n)] [] (.sc (.bool (podestalaw06_LapseStill l n))) [] := podestalaw06_LapseStill_walk l n f_l _ rfl

end Go.Proofs.Ytjchejmakdkioaa
