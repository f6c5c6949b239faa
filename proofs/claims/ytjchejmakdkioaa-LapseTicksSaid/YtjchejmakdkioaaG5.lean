import Derived.Test.YtjchejmakdkioaaS4
set_option linter.unusedVariables false
set_option maxRecDepth 100000
set_option maxHeartbeats 4000000
namespace Go.Proofs.Ytjchejmakdkioaa
open Go.Sh
/-! ### podestalaw06.LapseTicks: function 11 -/
noncomputable def podestalaw06_LapseTicks_F : Go.Sh.Fn := ⟨11, bodyOf Try.f11, 48⟩
def podestalaw06_LapseTicks_k0 : List Kd := [.pure, .pure]
def podestalaw06_LapseTicks_k3 : List Kd := [.pure, .pure, .pure, .pure, .pure, .pure, .pure, .pure, .pure, .pure, .pure, .pure, .pure, .pure, .pure, .pure, .pure, .pure, .pure, .pure, .pure, .pure]
def podestalaw06_LapseTicks_k2 : List Kd := [.pure, .pure, .pure, .pure, .pure, .pure, .pure, .pure]
def podestalaw06_LapseTicks_k1 : List Kd := [.pure, .pure, .loud, .pure, .loud, .pure, .pure, .pure, .pure, .pure]
def podestalaw06_LapseTicks_raw (l : List Rule) (n : Int) : Option (Bool) :=
  (bif (decide ((((List.map Rule.av l).length : Nat) : Int) > 60)) then
    some true
  else
    fitO (([] : List Rule).length + l.length) 272 (
    some (((((Tick (([] : List Rule) ++ l) n).1) == ((Tick l n).1)) && (((Tick (([] : List Rule) ++ l) n).2) == ((Tick l n).2))) && ((IntKind.i64.wrap ((((List.map Rule.av ((Tick (([] : List Rule) ++ l) n).1)).length : Nat) : Int) + (((List.map Rule.av ((Tick (([] : List Rule) ++ l) n).2)).length : Nat) : Int))) == (((List.map Rule.av l).length : Nat) : Int)))))
theorem podestalaw06_LapseTicks_walk (l : List Rule) (n : Int) (f_l : Bool) (r : Bool) (H : podestalaw06_LapseTicks_raw l n = some r) :
    ACalls Try.prog tab.S 11 [.sl 66 (List.map Rule.av l) f_l, .sc (.int .i64 n)] [] (.sc (.bool r)) [] := by
  have hG := tab_ok
  have hm := mixed
  refine ACalls.of_AR (G := tab) podestalaw06_LapseTicks_F (fn := Try.f11) Try.func11 (by kernel_rfl) (by kernel_rfl) (by kernel_rfl) (Nat.le_of_ble_eq_true (by kernel_rfl)) ?_
  intro c0 hc0
  replace hc0 : c0.m.length = 0 := hc0
  rw [podestalaw06_LapseTicks_raw] at H
  refine AR.seg hG hm 5 [0, 1, 11] (k' := [.code [1, 0, 1], .code [1, 1]]) (t' := [(0, .sl 66 (List.map Rule.av l) f_l), (1, .sc (.int .i64 n)), (11, .sc (.bool (decide ((((List.map Rule.av l).length : Nat) : Int) > 60))))]) (h' := []) (by kernel_rfl) ?_
  refine AR.cond (.tmp 11) (decide ((((List.map Rule.av l).length : Nat) : Int) > 60)) (by kernel_rfl) (by kernel_rfl) (fun hb => ?ht1) (fun hb => ?hf1)
  case ht1 =>
    replace H := cond_t hb H
    refine AR.seg hG hm 1 [] (k' := [.code [1, 0, 1, 0, 0], .code [1, 0, 1, 0, 1], .code [1, 1]]) (t' := []) (h' := []) (by kernel_rfl) ?_
    refine AR.reg hm podestalaw06_LapseTicks_k0 (by kernel_rfl) ?_
    refine DK.op' [12] (t' := [(12, .sc (.bool true))]) (h' := []) (LSpec.callP' (answers06_calls) (by kernel_rfl)) (by kernel_rfl) rfl (by kernel_rfl) rfl ?_
    refine DK.seg hG 1 [4] (t' := [(4, .sc (.bool true))]) (h' := []) (by kernel_rfl) rfl ?_
    refine DK.done (by kernel_rfl) (by kernel_rfl) ?_
    obtain rfl := Option.some.inj H
    exact AR.ret0 (fn := Try.f11) hG Try.func11 (by kernel_rfl) hc0 (r0 := .sc (.bool true)) (by kernel_rfl) (WkV.refl _)
  case hf1 =>
    replace H := cond_f hb H
    refine AR.seg hG hm 2 [0, 1] (k' := [.code [1, 1, 0], .code [1, 1, 1]]) (t' := [(0, .sl 66 (List.map Rule.av l) f_l), (1, .sc (.int .i64 n))]) (h' := []) (by kernel_rfl) ?_
    refine AR.reg hm podestalaw06_LapseTicks_k1 (by kernel_rfl) ?_
    refine DK.seg hG 2 [0, 1, 14, 15] (t' := [(0, .sl 66 (List.map Rule.av l) f_l), (1, .sc (.int .i64 n)), (14, .sl 66 (List.map Rule.av []) true), (15, .sl 66 (List.map Rule.av l) f_l)]) (h' := []) (by kernel_rfl) rfl ?_
    obtain ⟨hfit, H⟩ := fitO_some H
    refine DK.op' [0, 1, 16] (t' := [(0, .sl 66 (List.map Rule.av l) f_l), (1, .sc (.int .i64 n)), (16, .own 0 1)]) (h' := [.row 66 (List.map Rule.av (([] : List Rule) ++ l)) 1 true]) (LSpec.appendN hG Rule.av ([] : List Rule) l 66 272 hfit (by kernel_rfl)) (by kernel_rfl) (by kernel_rfl) (by kernel_rfl) rfl ?_
    refine DK.seg hG 1 [0, 1, 16, 17] (t' := [(0, .sl 66 (List.map Rule.av l) f_l), (1, .sc (.int .i64 n)), (16, .own 0 1), (17, .sc (.int .i64 n))]) (h' := [.row 66 (List.map Rule.av (([] : List Rule) ++ l)) 1 true]) (by kernel_rfl) rfl ?_
    refine DK.op' [0, 1, 18] (t' := [(0, .sl 66 (List.map Rule.av l) f_l), (1, .sc (.int .i64 n)), (18, .tup [.sl 66 (List.map Rule.av ((Tick (([] : List Rule) ++ l) n).1)) false, .sl 66 (List.map Rule.av ((Tick (([] : List Rule) ++ l) n).2)) false])]) (h' := [.row 66 (List.map Rule.av (([] : List Rule) ++ l)) 1 false]) (LSpec.callC' [0] (Tick_calls (([] : List Rule) ++ l) n false) (by kernel_rfl) (by kernel_rfl)) (by kernel_rfl) (by kernel_rfl) (by kernel_rfl) rfl ?_
    refine DK.seg hG 5 [0, 1, 5, 6] (t' := [(0, .sl 66 (List.map Rule.av l) f_l), (1, .sc (.int .i64 n)), (5, .sl 66 (List.map Rule.av ((Tick (([] : List Rule) ++ l) n).1)) false), (6, .sl 66 (List.map Rule.av ((Tick (([] : List Rule) ++ l) n).2)) false)]) (h' := [.row 66 (List.map Rule.av (([] : List Rule) ++ l)) 1 false]) (by kernel_rfl) rfl ?_
    refine DK.done (by kernel_rfl) (by kernel_rfl) ?_
    refine AR.seg hG hm 1 [0, 1, 5, 6] (k' := [.code [1, 1, 1, 0], .code [1, 1, 1, 1]]) (t' := [(0, .sl 66 (List.map Rule.av l) f_l), (1, .sc (.int .i64 n)), (5, .sl 66 (List.map Rule.av ((Tick (([] : List Rule) ++ l) n).1)) false), (6, .sl 66 (List.map Rule.av ((Tick (([] : List Rule) ++ l) n).2)) false)]) (h' := [.row 66 (List.map Rule.av (([] : List Rule) ++ l)) 1 false]) (by kernel_rfl) ?_
    refine AR.reg hm podestalaw06_LapseTicks_k2 (by kernel_rfl) ?_
    refine DK.seg hG 2 [0, 5, 6, 22, 23] (t' := [(0, .sl 66 (List.map Rule.av l) f_l), (5, .sl 66 (List.map Rule.av ((Tick (([] : List Rule) ++ l) n).1)) false), (6, .sl 66 (List.map Rule.av ((Tick (([] : List Rule) ++ l) n).2)) false), (22, .sl 66 (List.map Rule.av l) f_l), (23, .sc (.int .i64 n))]) (h' := [.row 66 (List.map Rule.av (([] : List Rule) ++ l)) 1 false]) (by kernel_rfl) rfl ?_
    refine DK.op' [0, 5, 6, 24] (t' := [(0, .sl 66 (List.map Rule.av l) f_l), (5, .sl 66 (List.map Rule.av ((Tick (([] : List Rule) ++ l) n).1)) false), (6, .sl 66 (List.map Rule.av ((Tick (([] : List Rule) ++ l) n).2)) false), (24, .tup [.sl 66 (List.map Rule.av ((Tick l n).1)) false, .sl 66 (List.map Rule.av ((Tick l n).2)) false])]) (h' := [.row 66 (List.map Rule.av (([] : List Rule) ++ l)) 1 false]) (LSpec.callP' (ref_Tick_calls l n f_l) (by kernel_rfl)) (by kernel_rfl) rfl (by kernel_rfl) rfl ?_
    refine DK.seg hG 5 [0, 5, 6, 7, 8] (t' := [(0, .sl 66 (List.map Rule.av l) f_l), (5, .sl 66 (List.map Rule.av ((Tick (([] : List Rule) ++ l) n).1)) false), (6, .sl 66 (List.map Rule.av ((Tick (([] : List Rule) ++ l) n).2)) false), (7, .sl 66 (List.map Rule.av ((Tick l n).1)) false), (8, .sl 66 (List.map Rule.av ((Tick l n).2)) false)]) (h' := [.row 66 (List.map Rule.av (([] : List Rule) ++ l)) 1 false]) (by kernel_rfl) rfl ?_
    refine DK.done (by kernel_rfl) (by kernel_rfl) ?_
    refine AR.seg hG hm 1 [0, 5, 6, 7, 8] (k' := [.code [1, 1, 1, 1, 0], .code [1, 1, 1, 1, 1]]) (t' := [(0, .sl 66 (List.map Rule.av l) f_l), (5, .sl 66 (List.map Rule.av ((Tick (([] : List Rule) ++ l) n).1)) false), (6, .sl 66 (List.map Rule.av ((Tick (([] : List Rule) ++ l) n).2)) false), (7, .sl 66 (List.map Rule.av ((Tick l n).1)) false), (8, .sl 66 (List.map Rule.av ((Tick l n).2)) false)]) (h' := [.row 66 (List.map Rule.av (([] : List Rule) ++ l)) 1 false]) (by kernel_rfl) ?_
    refine AR.reg hm podestalaw06_LapseTicks_k3 (by kernel_rfl) ?_
    refine DK.op' [0, 5, 6, 7, 8, 27] (t' := [(0, .sl 66 (List.map Rule.av l) f_l), (5, .sl 66 (List.map Rule.av ((Tick (([] : List Rule) ++ l) n).1)) false), (6, .sl 66 (List.map Rule.av ((Tick (([] : List Rule) ++ l) n).2)) false), (7, .sl 66 (List.map Rule.av ((Tick l n).1)) false), (8, .sl 66 (List.map Rule.av ((Tick l n).2)) false), (27, .sc (.bool true))]) (h' := [.row 66 (List.map Rule.av (([] : List Rule) ++ l)) 1 false]) (LSpec.callP' (answers06_calls) (by kernel_rfl)) (by kernel_rfl) rfl (by kernel_rfl) rfl ?_
    refine DK.seg hG 3 [0, 5, 6, 8, 28, 29, 30] (t' := [(0, .sl 66 (List.map Rule.av l) f_l), (5, .sl 66 (List.map Rule.av ((Tick (([] : List Rule) ++ l) n).1)) false), (6, .sl 66 (List.map Rule.av ((Tick (([] : List Rule) ++ l) n).2)) false), (8, .sl 66 (List.map Rule.av ((Tick l n).2)) false), (28, .sc (.bool true)), (29, .sl 66 (List.map Rule.av ((Tick (([] : List Rule) ++ l) n).1)) false), (30, .sl 66 (List.map Rule.av ((Tick l n).1)) false)]) (h' := [.row 66 (List.map Rule.av (([] : List Rule) ++ l)) 1 false]) (by kernel_rfl) rfl ?_
    refine DK.op' [0, 5, 6, 8, 28, 31] (t' := [(0, .sl 66 (List.map Rule.av l) f_l), (5, .sl 66 (List.map Rule.av ((Tick (([] : List Rule) ++ l) n).1)) false), (6, .sl 66 (List.map Rule.av ((Tick (([] : List Rule) ++ l) n).2)) false), (8, .sl 66 (List.map Rule.av ((Tick l n).2)) false), (28, .sc (.bool true)), (31, .sc (.bool (((Tick (([] : List Rule) ++ l) n).1) == ((Tick l n).1))))]) (h' := [.row 66 (List.map Rule.av (([] : List Rule) ++ l)) 1 false]) (LSpec.callP' (Same_calls ((Tick (([] : List Rule) ++ l) n).1) ((Tick l n).1) false false) (by kernel_rfl)) (by kernel_rfl) rfl (by kernel_rfl) rfl ?_
    refine DK.seg hG 2 [0, 5, 6, 8, 33] (t' := [(0, .sl 66 (List.map Rule.av l) f_l), (5, .sl 66 (List.map Rule.av ((Tick (([] : List Rule) ++ l) n).1)) false), (6, .sl 66 (List.map Rule.av ((Tick (([] : List Rule) ++ l) n).2)) false), (8, .sl 66 (List.map Rule.av ((Tick l n).2)) false), (33, .sc (.bool (((Tick (([] : List Rule) ++ l) n).1) == ((Tick l n).1))))]) (h' := [.row 66 (List.map Rule.av (([] : List Rule) ++ l)) 1 false]) (by kernel_rfl) rfl ?_
    refine DK.mux 33 (((Tick (([] : List Rule) ++ l) n).1) == ((Tick l n).1)) (j := 11) (h' := [.row 66 (List.map Rule.av (([] : List Rule) ++ l)) 1 false]) (by kernel_rfl) (fun z => [(0, .sl 66 (List.map Rule.av l) f_l), (5, .sl 66 (List.map Rule.av ((Tick (([] : List Rule) ++ l) n).1)) false), (6, .sl 66 (List.map Rule.av ((Tick (([] : List Rule) ++ l) n).2)) false), (37, .sc (.bool (z && (((Tick (([] : List Rule) ++ l) n).2) == ((Tick l n).2)))))]) ?J2 (fun hb J => ?ht2) (fun hb J => ?hf2)
    case ht2 =>
      refine DK.seg hG 2 [0, 5, 6, 33, 34, 35] (t' := [(0, .sl 66 (List.map Rule.av l) f_l), (5, .sl 66 (List.map Rule.av ((Tick (([] : List Rule) ++ l) n).1)) false), (6, .sl 66 (List.map Rule.av ((Tick (([] : List Rule) ++ l) n).2)) false), (33, .sc (.bool true)), (34, .sl 66 (List.map Rule.av ((Tick (([] : List Rule) ++ l) n).2)) false), (35, .sl 66 (List.map Rule.av ((Tick l n).2)) false)]) (h' := [.row 66 (List.map Rule.av (([] : List Rule) ++ l)) 1 false]) (by kernel_rfl) rfl ?_
      refine DK.op' [0, 5, 6, 33, 36] (t' := [(0, .sl 66 (List.map Rule.av l) f_l), (5, .sl 66 (List.map Rule.av ((Tick (([] : List Rule) ++ l) n).1)) false), (6, .sl 66 (List.map Rule.av ((Tick (([] : List Rule) ++ l) n).2)) false), (33, .sc (.bool true)), (36, .sc (.bool (((Tick (([] : List Rule) ++ l) n).2) == ((Tick l n).2))))]) (h' := [.row 66 (List.map Rule.av (([] : List Rule) ++ l)) 1 false]) (LSpec.callP' (Same_calls ((Tick (([] : List Rule) ++ l) n).2) ((Tick l n).2) false false) (by kernel_rfl)) (by kernel_rfl) rfl (by kernel_rfl) rfl ?_
      exact DK.seg hG 1 [0, 5, 6, 37] (by kernel_rfl) rfl J
    case hf2 =>
      exact DK.seg hG 4 [0, 5, 6, 37] (by kernel_rfl) rfl J
    refine DK.seg hG 1 [0, 5, 6, 38] (t' := [(0, .sl 66 (List.map Rule.av l) f_l), (5, .sl 66 (List.map Rule.av ((Tick (([] : List Rule) ++ l) n).1)) false), (6, .sl 66 (List.map Rule.av ((Tick (([] : List Rule) ++ l) n).2)) false), (38, .sc (.bool ((((Tick (([] : List Rule) ++ l) n).1) == ((Tick l n).1)) && (((Tick (([] : List Rule) ++ l) n).2) == ((Tick l n).2)))))]) (h' := [.row 66 (List.map Rule.av (([] : List Rule) ++ l)) 1 false]) (by kernel_rfl) rfl ?_
    refine DK.mux 38 ((((Tick (([] : List Rule) ++ l) n).1) == ((Tick l n).1)) && (((Tick (([] : List Rule) ++ l) n).2) == ((Tick l n).2))) (j := 21) (h' := [.row 66 (List.map Rule.av (([] : List Rule) ++ l)) 1 false]) (by kernel_rfl) (fun z => [(47, .sc (.bool (z && ((IntKind.i64.wrap ((((List.map Rule.av ((Tick (([] : List Rule) ++ l) n).1)).length : Nat) : Int) + (((List.map Rule.av ((Tick (([] : List Rule) ++ l) n).2)).length : Nat) : Int))) == (((List.map Rule.av l).length : Nat) : Int)))))]) ?J3 (fun hb J => ?ht3) (fun hb J => ?hf3)
    case ht3 =>
      exact DK.seg hG 9 [47] (by kernel_rfl) rfl J
    case hf3 =>
      exact DK.seg hG 9 [47] (by kernel_rfl) rfl J
    refine DK.seg hG 1 [4] (t' := [(4, .sc (.bool (((((Tick (([] : List Rule) ++ l) n).1) == ((Tick l n).1)) && (((Tick (([] : List Rule) ++ l) n).2) == ((Tick l n).2))) && ((IntKind.i64.wrap ((((List.map Rule.av ((Tick (([] : List Rule) ++ l) n).1)).length : Nat) : Int) + (((List.map Rule.av ((Tick (([] : List Rule) ++ l) n).2)).length : Nat) : Int))) == (((List.map Rule.av l).length : Nat) : Int)))))]) (h' := [.row 66 (List.map Rule.av (([] : List Rule) ++ l)) 1 false]) (by kernel_rfl) rfl ?_
    refine DK.done (by kernel_rfl) (by kernel_rfl) ?_
    obtain rfl := Option.some.inj H
    exact AR.ret0 (fn := Try.f11) hG Try.func11 (by kernel_rfl) hc0 (r0 := .sc (.bool (((((Tick (([] : List Rule) ++ l) n).1) == ((Tick l n).1)) && (((Tick (([] : List Rule) ++ l) n).2) == ((Tick l n).2))) && ((IntKind.i64.wrap ((((List.map Rule.av ((Tick (([] : List Rule) ++ l) n).1)).length : Nat) : Int) + (((List.map Rule.av ((Tick (([] : List Rule) ++ l) n).2)).length : Nat) : Int))) == (((List.map Rule.av l).length : Nat) : Int))))) (by kernel_rfl) (WkV.refl _)

end Go.Proofs.Ytjchejmakdkioaa
