import Derived.Test.YtockmihfoppkpaaM4ModsRoom
set_option linter.unusedVariables false
set_option linter.unusedSimpArgs false
set_option maxRecDepth 100000
set_option maxHeartbeats 4000000
namespace Go.Proofs.Ytockmihfoppkpaa
open Go.Sh
/-! ### podestalaw07.answers: function 11 -/
noncomputable def podestalaw07_answers_F : Go.Sh.Fn := ⟨11, bodyOf Try.f11, 45⟩
def podestalaw07_answers_k2 : List Kd := [.pure, .pure, .pure, .pure, .pure, .pure, .pure, .pure, .pure, .pure, .pure, .pure, .pure, .pure, .pure, .pure, .pure, .pure, .pure, .pure, .pure, .pure, .pure, .pure, .read, .pure, .pure, .pure]
def podestalaw07_answers_k1 : List Kd := [.pure, .pure, .pure, .pure, .pure, .pure, .pure, .pure]
def podestalaw07_answers_k0 : List Kd := [.read, .pure, .pure, .pure, .pure, .pure, .pure]
def podestalaw07_answers_raw : Option (Bool) :=
  (applyO [] ({ Kind := 1, Match := ({ Value := [0, 0, 0, 0, 0, 0, 0, 0, 0, 0, 0, 0], Care := [0, 0, 0, 0, 0, 0, 0, 0, 0, 0, 0, 0] } : Cube), Prio := 7, Acts := [], Idle := 0, Hard := 0, Owner := 1, Check := false } : Mod) 1).bind fun x =>
  (applyO x.1 ({ Kind := 3, Match := ({ Value := [0, 0, 0, 0, 0, 0, 0, 0, 0, 0, 0, 0], Care := [0, 0, 0, 0, 0, 0, 0, 0, 0, 0, 0, 0] } : Cube), Prio := 0, Acts := [], Idle := 0, Hard := 0, Owner := 1, Check := false } : Mod) 0).bind fun x1 =>
  (bif (((x.2 == 0) && (x1.2 == 0)) && ((((List.map Rule.av x.1).length : Nat) : Int) == 1)) then
    (ixO x.1 0).bind fun x2 =>
    some (((x2.Prio == 7) && ((((List.map Rule.av x1.1).length : Nat) : Int) == 0)) && (mods_Sound ({ Kind := 1, Match := ({ Value := [0, 0, 0, 0, 0, 0, 0, 0, 0, 0, 0, 0], Care := [0, 0, 0, 0, 0, 0, 0, 0, 0, 0, 0, 0] } : Cube), Prio := 7, Acts := [], Idle := 0, Hard := 0, Owner := 1, Check := false } : Mod)))
  else
    some false)
theorem podestalaw07_answers_walk (r : Bool) (H : podestalaw07_answers_raw = some r) :
    ACalls Try.prog tab.S 11 [] [] (.sc (.bool r)) [] := by
  have hG := tab_ok
  have hm := mixed
  refine ACalls.of_AR (G := tab) podestalaw07_answers_F (fn := Try.f11) Try.func11 (by kernel_rfl) (by kernel_rfl) (by kernel_rfl) (Nat.le_of_ble_eq_true (by kernel_rfl)) ?_
  intro c0 hc0
  replace hc0 : c0.m.length = 0 := hc0
  rw [podestalaw07_answers_raw] at H
  refine AR.seg hG hm 5 [1] (k' := [.code [1, 1, 0], .code [1, 1, 1]]) (t' := [(1, .ptr 0 0 none)]) (h' := [.box 30 [.sc (.int .i64 1), .arr .u64 12 [0, 0, 0, 0, 0, 0, 0, 0, 0, 0, 0, 0], .arr .u64 12 [0, 0, 0, 0, 0, 0, 0, 0, 0, 0, 0, 0], .sc (.int .i64 7), .sl 0 [] true, .sc (.int .i64 0), .sc (.int .i64 0), .sc (.int .i64 1), .sc (.bool false)]]) (by kernel_rfl) ?_
  refine AR.reg hm podestalaw07_answers_k0 (by kernel_rfl) ?_
  refine DK.seg hG 1 [1, 8] (t' := [(1, .ptr 0 0 none), (8, .agg [.sc (.int .i64 1), .arr .u64 12 [0, 0, 0, 0, 0, 0, 0, 0, 0, 0, 0, 0], .arr .u64 12 [0, 0, 0, 0, 0, 0, 0, 0, 0, 0, 0, 0], .sc (.int .i64 7), .sl 0 [] true, .sc (.int .i64 0), .sc (.int .i64 0), .sc (.int .i64 1), .sc (.bool false)])]) (h' := [.box 30 [.sc (.int .i64 1), .arr .u64 12 [0, 0, 0, 0, 0, 0, 0, 0, 0, 0, 0, 0], .arr .u64 12 [0, 0, 0, 0, 0, 0, 0, 0, 0, 0, 0, 0], .sc (.int .i64 7), .sl 0 [] true, .sc (.int .i64 0), .sc (.int .i64 0), .sc (.int .i64 1), .sc (.bool false)]]) (by kernel_rfl) rfl ?_
  obtain ⟨x, hv, H⟩ := Option.bind_eq_some_iff.1 H
  refine DK.op' [1, 9] (t' := [(1, .ptr 0 0 none), (9, .tup [.sl 40 (List.map Rule.av x.1) false, .sc (.int .i64 x.2)])]) (h' := [.box 30 [.sc (.int .i64 1), .arr .u64 12 [0, 0, 0, 0, 0, 0, 0, 0, 0, 0, 0, 0], .arr .u64 12 [0, 0, 0, 0, 0, 0, 0, 0, 0, 0, 0, 0], .sc (.int .i64 7), .sl 0 [] true, .sc (.int .i64 0), .sc (.int .i64 0), .sc (.int .i64 1), .sc (.bool false)]]) (LSpec.callP' (ACalls.wk (aas := [.sl 0 [] true, .agg [.sc (.int .i64 1), .arr .u64 12 [0, 0, 0, 0, 0, 0, 0, 0, 0, 0, 0, 0], .arr .u64 12 [0, 0, 0, 0, 0, 0, 0, 0, 0, 0, 0, 0], .sc (.int .i64 7), .sl 0 [] true, .sc (.int .i64 0), .sc (.int .i64 0), .sc (.int .i64 1), .sc (.bool false)], .sc (.int .i64 1)]) (Wks.cons (WkV.sl (Wk1.nil 40 true)) trivial trivial (Wks.cons (WkV.agg (WkL.cons (Wk1.refl _) (WkL.cons (Wk1.refl _) (WkL.cons (Wk1.refl _) (WkL.cons (Wk1.refl _) (WkL.cons (Wk1.nil 48 false) (WkL.cons (Wk1.refl _) (WkL.cons (Wk1.refl _) (WkL.cons (Wk1.refl _) (WkL.cons (Wk1.refl _) WkL.nil)))))))))) trivial trivial (Wks.cons (WkV.refl _) trivial trivial Wks.nil))) (mods_Apply_ok [] ({ Kind := 1, Match := ({ Value := [0, 0, 0, 0, 0, 0, 0, 0, 0, 0, 0, 0], Care := [0, 0, 0, 0, 0, 0, 0, 0, 0, 0, 0, 0] } : Cube), Prio := 7, Acts := [], Idle := 0, Hard := 0, Owner := 1, Check := false } : Mod) 1 true x hv)) (by kernel_rfl)) (by kernel_rfl) rfl (by kernel_rfl) rfl ?_
  refine DK.seg hG 5 [1, 2, 3] (t' := [(1, .ptr 0 0 none), (2, .sl 40 (List.map Rule.av x.1) false), (3, .sc (.int .i64 x.2))]) (h' := [.box 30 [.sc (.int .i64 1), .arr .u64 12 [0, 0, 0, 0, 0, 0, 0, 0, 0, 0, 0, 0], .arr .u64 12 [0, 0, 0, 0, 0, 0, 0, 0, 0, 0, 0, 0], .sc (.int .i64 7), .sl 0 [] true, .sc (.int .i64 0), .sc (.int .i64 0), .sc (.int .i64 1), .sc (.bool false)]]) (by kernel_rfl) rfl ?_
  refine DK.done (by kernel_rfl) (by kernel_rfl) ?_
  refine AR.seg hG hm 1 [1, 2, 3] (k' := [.code [1, 1, 1, 0], .code [1, 1, 1, 1]]) (t' := [(1, .ptr 0 0 none), (2, .sl 40 (List.map Rule.av x.1) false), (3, .sc (.int .i64 x.2))]) (h' := [.box 30 [.sc (.int .i64 1), .arr .u64 12 [0, 0, 0, 0, 0, 0, 0, 0, 0, 0, 0, 0], .arr .u64 12 [0, 0, 0, 0, 0, 0, 0, 0, 0, 0, 0, 0], .sc (.int .i64 7), .sl 0 [] true, .sc (.int .i64 0), .sc (.int .i64 0), .sc (.int .i64 1), .sc (.bool false)]]) (by kernel_rfl) ?_
  refine AR.reg hm podestalaw07_answers_k1 (by kernel_rfl) ?_
  refine DK.seg hG 2 [1, 2, 3, 13, 14] (t' := [(1, .ptr 0 0 none), (2, .sl 40 (List.map Rule.av x.1) false), (3, .sc (.int .i64 x.2)), (13, .sl 40 (List.map Rule.av x.1) false), (14, .agg [.sc (.int .i64 3), .arr .u64 12 [0, 0, 0, 0, 0, 0, 0, 0, 0, 0, 0, 0], .arr .u64 12 [0, 0, 0, 0, 0, 0, 0, 0, 0, 0, 0, 0], .sc (.int .i64 0), .sl 0 [] true, .sc (.int .i64 0), .sc (.int .i64 0), .sc (.int .i64 1), .sc (.bool false)])]) (h' := [.box 30 [.sc (.int .i64 1), .arr .u64 12 [0, 0, 0, 0, 0, 0, 0, 0, 0, 0, 0, 0], .arr .u64 12 [0, 0, 0, 0, 0, 0, 0, 0, 0, 0, 0, 0], .sc (.int .i64 7), .sl 0 [] true, .sc (.int .i64 0), .sc (.int .i64 0), .sc (.int .i64 1), .sc (.bool false)]]) (by kernel_rfl) rfl ?_
  obtain ⟨x1, hv, H⟩ := Option.bind_eq_some_iff.1 H
  refine DK.op' [1, 2, 3, 15] (t' := [(1, .ptr 0 0 none), (2, .sl 40 (List.map Rule.av x.1) false), (3, .sc (.int .i64 x.2)), (15, .tup [.sl 40 (List.map Rule.av x1.1) false, .sc (.int .i64 x1.2)])]) (h' := [.box 30 [.sc (.int .i64 1), .arr .u64 12 [0, 0, 0, 0, 0, 0, 0, 0, 0, 0, 0, 0], .arr .u64 12 [0, 0, 0, 0, 0, 0, 0, 0, 0, 0, 0, 0], .sc (.int .i64 7), .sl 0 [] true, .sc (.int .i64 0), .sc (.int .i64 0), .sc (.int .i64 1), .sc (.bool false)]]) (LSpec.callP' (ACalls.wk (aas := [.sl 40 (List.map Rule.av x.1) false, .agg [.sc (.int .i64 3), .arr .u64 12 [0, 0, 0, 0, 0, 0, 0, 0, 0, 0, 0, 0], .arr .u64 12 [0, 0, 0, 0, 0, 0, 0, 0, 0, 0, 0, 0], .sc (.int .i64 0), .sl 0 [] true, .sc (.int .i64 0), .sc (.int .i64 0), .sc (.int .i64 1), .sc (.bool false)], .sc (.int .i64 0)]) (Wks.cons (WkV.refl _) trivial trivial (Wks.cons (WkV.agg (WkL.cons (Wk1.refl _) (WkL.cons (Wk1.refl _) (WkL.cons (Wk1.refl _) (WkL.cons (Wk1.refl _) (WkL.cons (Wk1.nil 48 false) (WkL.cons (Wk1.refl _) (WkL.cons (Wk1.refl _) (WkL.cons (Wk1.refl _) (WkL.cons (Wk1.refl _) WkL.nil)))))))))) trivial trivial (Wks.cons (WkV.refl _) trivial trivial Wks.nil))) (mods_Apply_ok x.1 ({ Kind := 3, Match := ({ Value := [0, 0, 0, 0, 0, 0, 0, 0, 0, 0, 0, 0], Care := [0, 0, 0, 0, 0, 0, 0, 0, 0, 0, 0, 0] } : Cube), Prio := 0, Acts := [], Idle := 0, Hard := 0, Owner := 1, Check := false } : Mod) 0 false x1 hv)) (by kernel_rfl)) (by kernel_rfl) rfl (by kernel_rfl) rfl ?_
  refine DK.seg hG 5 [1, 2, 3, 4, 5] (t' := [(1, .ptr 0 0 none), (2, .sl 40 (List.map Rule.av x.1) false), (3, .sc (.int .i64 x.2)), (4, .sl 40 (List.map Rule.av x1.1) false), (5, .sc (.int .i64 x1.2))]) (h' := [.box 30 [.sc (.int .i64 1), .arr .u64 12 [0, 0, 0, 0, 0, 0, 0, 0, 0, 0, 0, 0], .arr .u64 12 [0, 0, 0, 0, 0, 0, 0, 0, 0, 0, 0, 0], .sc (.int .i64 7), .sl 0 [] true, .sc (.int .i64 0), .sc (.int .i64 0), .sc (.int .i64 1), .sc (.bool false)]]) (by kernel_rfl) rfl ?_
  refine DK.done (by kernel_rfl) (by kernel_rfl) ?_
  refine AR.seg hG hm 1 [1, 2, 3, 4, 5] (k' := [.code [1, 1, 1, 1, 0], .code [1, 1, 1, 1, 1]]) (t' := [(1, .ptr 0 0 none), (2, .sl 40 (List.map Rule.av x.1) false), (3, .sc (.int .i64 x.2)), (4, .sl 40 (List.map Rule.av x1.1) false), (5, .sc (.int .i64 x1.2))]) (h' := [.box 30 [.sc (.int .i64 1), .arr .u64 12 [0, 0, 0, 0, 0, 0, 0, 0, 0, 0, 0, 0], .arr .u64 12 [0, 0, 0, 0, 0, 0, 0, 0, 0, 0, 0, 0], .sc (.int .i64 7), .sl 0 [] true, .sc (.int .i64 0), .sc (.int .i64 0), .sc (.int .i64 1), .sc (.bool false)]]) (by kernel_rfl) ?_
  refine AR.reg hm podestalaw07_answers_k2 (by kernel_rfl) ?_
  refine DK.seg hG 3 [1, 2, 4, 5, 20] (t' := [(1, .ptr 0 0 none), (2, .sl 40 (List.map Rule.av x.1) false), (4, .sl 40 (List.map Rule.av x1.1) false), (5, .sc (.int .i64 x1.2)), (20, .sc (.bool (x.2 == 0)))]) (h' := [.box 30 [.sc (.int .i64 1), .arr .u64 12 [0, 0, 0, 0, 0, 0, 0, 0, 0, 0, 0, 0], .arr .u64 12 [0, 0, 0, 0, 0, 0, 0, 0, 0, 0, 0, 0], .sc (.int .i64 7), .sl 0 [] true, .sc (.int .i64 0), .sc (.int .i64 0), .sc (.int .i64 1), .sc (.bool false)]]) (by kernel_rfl) rfl ?_
  refine DK.mux 20 (x.2 == 0) (j := 6) (h' := [.box 30 [.sc (.int .i64 1), .arr .u64 12 [0, 0, 0, 0, 0, 0, 0, 0, 0, 0, 0, 0], .arr .u64 12 [0, 0, 0, 0, 0, 0, 0, 0, 0, 0, 0, 0], .sc (.int .i64 7), .sl 0 [] true, .sc (.int .i64 0), .sc (.int .i64 0), .sc (.int .i64 1), .sc (.bool false)]]) (by kernel_rfl) (fun z => [(1, .ptr 0 0 none), (2, .sl 40 (List.map Rule.av x.1) false), (4, .sl 40 (List.map Rule.av x1.1) false), (23, .sc (.bool (z && (x1.2 == 0))))]) ?J1 (fun hb J => ?ht1) (fun hb J => ?hf1)
  case ht1 =>
    exact DK.seg hG 3 [1, 2, 4, 23] (by kernel_rfl) rfl J
  case hf1 =>
    exact DK.seg hG 3 [1, 2, 4, 23] (by kernel_rfl) rfl J
  refine DK.seg hG 1 [1, 2, 4, 24] (t' := [(1, .ptr 0 0 none), (2, .sl 40 (List.map Rule.av x.1) false), (4, .sl 40 (List.map Rule.av x1.1) false), (24, .sc (.bool ((x.2 == 0) && (x1.2 == 0))))]) (h' := [.box 30 [.sc (.int .i64 1), .arr .u64 12 [0, 0, 0, 0, 0, 0, 0, 0, 0, 0, 0, 0], .arr .u64 12 [0, 0, 0, 0, 0, 0, 0, 0, 0, 0, 0, 0], .sc (.int .i64 7), .sl 0 [] true, .sc (.int .i64 0), .sc (.int .i64 0), .sc (.int .i64 1), .sc (.bool false)]]) (by kernel_rfl) rfl ?_
  refine DK.mux 24 ((x.2 == 0) && (x1.2 == 0)) (j := 11) (h' := [.box 30 [.sc (.int .i64 1), .arr .u64 12 [0, 0, 0, 0, 0, 0, 0, 0, 0, 0, 0, 0], .arr .u64 12 [0, 0, 0, 0, 0, 0, 0, 0, 0, 0, 0, 0], .sc (.int .i64 7), .sl 0 [] true, .sc (.int .i64 0), .sc (.int .i64 0), .sc (.int .i64 1), .sc (.bool false)]]) (by kernel_rfl) (fun z => [(1, .ptr 0 0 none), (2, .sl 40 (List.map Rule.av x.1) false), (4, .sl 40 (List.map Rule.av x1.1) false), (28, .sc (.bool (z && ((((List.map Rule.av x.1).length : Nat) : Int) == 1))))]) ?J2 (fun hb J => ?ht2) (fun hb J => ?hf2)
  case ht2 =>
    exact DK.seg hG 4 [1, 2, 4, 28] (by kernel_rfl) rfl J
  case hf2 =>
    exact DK.seg hG 4 [1, 2, 4, 28] (by kernel_rfl) rfl J
  refine DK.seg hG 1 [1, 2, 4, 29] (t' := [(1, .ptr 0 0 none), (2, .sl 40 (List.map Rule.av x.1) false), (4, .sl 40 (List.map Rule.av x1.1) false), (29, .sc (.bool (((x.2 == 0) && (x1.2 == 0)) && ((((List.map Rule.av x.1).length : Nat) : Int) == 1))))]) (h' := [.box 30 [.sc (.int .i64 1), .arr .u64 12 [0, 0, 0, 0, 0, 0, 0, 0, 0, 0, 0, 0], .arr .u64 12 [0, 0, 0, 0, 0, 0, 0, 0, 0, 0, 0, 0], .sc (.int .i64 7), .sl 0 [] true, .sc (.int .i64 0), .sc (.int .i64 0), .sc (.int .i64 1), .sc (.bool false)]]) (by kernel_rfl) rfl ?_
  refine DK.split 29 (((x.2 == 0) && (x1.2 == 0)) && ((((List.map Rule.av x.1).length : Nat) : Int) == 1)) (by kernel_rfl) (fun hb => ?ht3) (fun hb => ?hf3)
  case ht3 =>
    replace H := cond_t hb H
    refine DK.seg hG 1 [1, 4, 29, 30] (t' := [(1, .ptr 0 0 none), (4, .sl 40 (List.map Rule.av x1.1) false), (29, .sc (.bool true)), (30, .sl 40 (List.map Rule.av x.1) false)]) (h' := [.box 30 [.sc (.int .i64 1), .arr .u64 12 [0, 0, 0, 0, 0, 0, 0, 0, 0, 0, 0, 0], .arr .u64 12 [0, 0, 0, 0, 0, 0, 0, 0, 0, 0, 0, 0], .sc (.int .i64 7), .sl 0 [] true, .sc (.int .i64 0), .sc (.int .i64 0), .sc (.int .i64 1), .sc (.bool false)]]) (by kernel_rfl) rfl ?_
    obtain ⟨x2, hv, H⟩ := Option.bind_eq_some_iff.1 H
    refine DK.op' [1, 4, 29, 31] (t' := [(1, .ptr 0 0 none), (4, .sl 40 (List.map Rule.av x1.1) false), (29, .sc (.bool true)), (31, .ep [.arr .u64 12 x2.Match.Value, .arr .u64 12 x2.Match.Care, .sc (.int .i64 x2.Prio), .sl 48 (List.map Act.av x2.Acts) false, .sc (.int .i64 x2.Idle), .sc (.int .i64 x2.Hard), .sc (.int .i64 x2.Owner), .sc (.int .i64 x2.Hits), .sc (.int .i64 x2.Quiet), .sc (.int .i64 x2.Age)] 0 none)]) (h' := [.box 30 [.sc (.int .i64 1), .arr .u64 12 [0, 0, 0, 0, 0, 0, 0, 0, 0, 0, 0, 0], .arr .u64 12 [0, 0, 0, 0, 0, 0, 0, 0, 0, 0, 0, 0], .sc (.int .i64 7), .sl 0 [] true, .sc (.int .i64 0), .sc (.int .i64 0), .sc (.int .i64 1), .sc (.bool false)]]) (LSpec.index' (r := Rule.av x2) (fs := [.arr .u64 12 x2.Match.Value, .arr .u64 12 x2.Match.Care, .sc (.int .i64 x2.Prio), .sl 48 (List.map Act.av x2.Acts) false, .sc (.int .i64 x2.Idle), .sc (.int .i64 x2.Hard), .sc (.int .i64 x2.Owner), .sc (.int .i64 x2.Hits), .sc (.int .i64 x2.Quiet), .sc (.int .i64 x2.Age)]) hG (rows := List.map Rule.av x.1) (j := 0) (by kernel_rfl) (ixO_map hv _) (by kernel_rfl)) (by kernel_rfl) rfl (by kernel_rfl) rfl ?_
    refine DK.seg hG 5 [1, 4, 36] (t' := [(1, .ptr 0 0 none), (4, .sl 40 (List.map Rule.av x1.1) false), (36, .sc (.bool (x2.Prio == 7)))]) (h' := [.box 30 [.sc (.int .i64 1), .arr .u64 12 [0, 0, 0, 0, 0, 0, 0, 0, 0, 0, 0, 0], .arr .u64 12 [0, 0, 0, 0, 0, 0, 0, 0, 0, 0, 0, 0], .sc (.int .i64 7), .sl 0 [] true, .sc (.int .i64 0), .sc (.int .i64 0), .sc (.int .i64 1), .sc (.bool false)]]) (by kernel_rfl) rfl ?_
    refine DK.mux 36 (x2.Prio == 7) (j := 23) (h' := [.box 30 [.sc (.int .i64 1), .arr .u64 12 [0, 0, 0, 0, 0, 0, 0, 0, 0, 0, 0, 0], .arr .u64 12 [0, 0, 0, 0, 0, 0, 0, 0, 0, 0, 0, 0], .sc (.int .i64 7), .sl 0 [] true, .sc (.int .i64 0), .sc (.int .i64 0), .sc (.int .i64 1), .sc (.bool false)]]) (by kernel_rfl) (fun z => [(1, .ptr 0 0 none), (40, .sc (.bool (z && ((((List.map Rule.av x1.1).length : Nat) : Int) == 0))))]) ?J4 (fun hb J => ?ht4) (fun hb J => ?hf4)
    case ht4 =>
      exact DK.seg hG 4 [1, 40] (by kernel_rfl) rfl J
    case hf4 =>
      exact DK.seg hG 4 [1, 40] (by kernel_rfl) rfl J
    refine DK.seg hG 1 [1, 41] (t' := [(1, .ptr 0 0 none), (41, .sc (.bool ((x2.Prio == 7) && ((((List.map Rule.av x1.1).length : Nat) : Int) == 0))))]) (h' := [.box 30 [.sc (.int .i64 1), .arr .u64 12 [0, 0, 0, 0, 0, 0, 0, 0, 0, 0, 0, 0], .arr .u64 12 [0, 0, 0, 0, 0, 0, 0, 0, 0, 0, 0, 0], .sc (.int .i64 7), .sl 0 [] true, .sc (.int .i64 0), .sc (.int .i64 0), .sc (.int .i64 1), .sc (.bool false)]]) (by kernel_rfl) rfl ?_
    refine DK.mux 41 ((x2.Prio == 7) && ((((List.map Rule.av x1.1).length : Nat) : Int) == 0)) (j := 27) (h' := [.box 30 [.sc (.int .i64 1), .arr .u64 12 [0, 0, 0, 0, 0, 0, 0, 0, 0, 0, 0, 0], .arr .u64 12 [0, 0, 0, 0, 0, 0, 0, 0, 0, 0, 0, 0], .sc (.int .i64 7), .sl 0 [] true, .sc (.int .i64 0), .sc (.int .i64 0), .sc (.int .i64 1), .sc (.bool false)]]) (by kernel_rfl) (fun z => [(44, .sc (.bool (z && (mods_Sound ({ Kind := 1, Match := ({ Value := [0, 0, 0, 0, 0, 0, 0, 0, 0, 0, 0, 0], Care := [0, 0, 0, 0, 0, 0, 0, 0, 0, 0, 0, 0] } : Cube), Prio := 7, Acts := [], Idle := 0, Hard := 0, Owner := 1, Check := false } : Mod)))))]) ?J5 (fun hb J => ?ht5) (fun hb J => ?hf5)
    case ht5 =>
      refine DK.seg hG 1 [41, 42] (t' := [(41, .sc (.bool true)), (42, .agg [.sc (.int .i64 1), .arr .u64 12 [0, 0, 0, 0, 0, 0, 0, 0, 0, 0, 0, 0], .arr .u64 12 [0, 0, 0, 0, 0, 0, 0, 0, 0, 0, 0, 0], .sc (.int .i64 7), .sl 0 [] true, .sc (.int .i64 0), .sc (.int .i64 0), .sc (.int .i64 1), .sc (.bool false)])]) (h' := [.box 30 [.sc (.int .i64 1), .arr .u64 12 [0, 0, 0, 0, 0, 0, 0, 0, 0, 0, 0, 0], .arr .u64 12 [0, 0, 0, 0, 0, 0, 0, 0, 0, 0, 0, 0], .sc (.int .i64 7), .sl 0 [] true, .sc (.int .i64 0), .sc (.int .i64 0), .sc (.int .i64 1), .sc (.bool false)]]) (by kernel_rfl) rfl ?_
      refine DK.op' [41, 43] (t' := [(41, .sc (.bool true)), (43, .sc (.bool (mods_Sound ({ Kind := 1, Match := ({ Value := [0, 0, 0, 0, 0, 0, 0, 0, 0, 0, 0, 0], Care := [0, 0, 0, 0, 0, 0, 0, 0, 0, 0, 0, 0] } : Cube), Prio := 7, Acts := [], Idle := 0, Hard := 0, Owner := 1, Check := false } : Mod))))]) (h' := [.box 30 [.sc (.int .i64 1), .arr .u64 12 [0, 0, 0, 0, 0, 0, 0, 0, 0, 0, 0, 0], .arr .u64 12 [0, 0, 0, 0, 0, 0, 0, 0, 0, 0, 0, 0], .sc (.int .i64 7), .sl 0 [] true, .sc (.int .i64 0), .sc (.int .i64 0), .sc (.int .i64 1), .sc (.bool false)]]) (LSpec.callP' (ACalls.wk (aas := [.agg [.sc (.int .i64 1), .arr .u64 12 [0, 0, 0, 0, 0, 0, 0, 0, 0, 0, 0, 0], .arr .u64 12 [0, 0, 0, 0, 0, 0, 0, 0, 0, 0, 0, 0], .sc (.int .i64 7), .sl 0 [] true, .sc (.int .i64 0), .sc (.int .i64 0), .sc (.int .i64 1), .sc (.bool false)]]) (Wks.cons (WkV.agg (WkL.cons (Wk1.refl _) (WkL.cons (Wk1.refl _) (WkL.cons (Wk1.refl _) (WkL.cons (Wk1.refl _) (WkL.cons (Wk1.nil 48 false) (WkL.cons (Wk1.refl _) (WkL.cons (Wk1.refl _) (WkL.cons (Wk1.refl _) (WkL.cons (Wk1.refl _) WkL.nil)))))))))) trivial trivial Wks.nil) (mods_Sound_calls ({ Kind := 1, Match := ({ Value := [0, 0, 0, 0, 0, 0, 0, 0, 0, 0, 0, 0], Care := [0, 0, 0, 0, 0, 0, 0, 0, 0, 0, 0, 0] } : Cube), Prio := 7, Acts := [], Idle := 0, Hard := 0, Owner := 1, Check := false } : Mod))) (by kernel_rfl)) (by kernel_rfl) rfl (by kernel_rfl) rfl ?_
      exact DK.seg hG 1 [44] (by kernel_rfl) rfl J
    case hf5 =>
      exact DK.seg hG 3 [44] (by kernel_rfl) rfl J
    refine DK.seg hG 1 [0] (t' := [(0, .sc (.bool (((x2.Prio == 7) && ((((List.map Rule.av x1.1).length : Nat) : Int) == 0)) && (mods_Sound ({ Kind := 1, Match := ({ Value := [0, 0, 0, 0, 0, 0, 0, 0, 0, 0, 0, 0], Care := [0, 0, 0, 0, 0, 0, 0, 0, 0, 0, 0, 0] } : Cube), Prio := 7, Acts := [], Idle := 0, Hard := 0, Owner := 1, Check := false } : Mod)))))]) (h' := [.box 30 [.sc (.int .i64 1), .arr .u64 12 [0, 0, 0, 0, 0, 0, 0, 0, 0, 0, 0, 0], .arr .u64 12 [0, 0, 0, 0, 0, 0, 0, 0, 0, 0, 0, 0], .sc (.int .i64 7), .sl 0 [] true, .sc (.int .i64 0), .sc (.int .i64 0), .sc (.int .i64 1), .sc (.bool false)]]) (by kernel_rfl) rfl ?_
    refine DK.done (by kernel_rfl) (by kernel_rfl) ?_
    obtain rfl := Option.some.inj H
    exact AR.ret0 (fn := Try.f11) hG Try.func11 (by kernel_rfl) hc0 (r0 := .sc (.bool (((x2.Prio == 7) && ((((List.map Rule.av x1.1).length : Nat) : Int) == 0)) && (mods_Sound ({ Kind := 1, Match := ({ Value := [0, 0, 0, 0, 0, 0, 0, 0, 0, 0, 0, 0], Care := [0, 0, 0, 0, 0, 0, 0, 0, 0, 0, 0, 0] } : Cube), Prio := 7, Acts := [], Idle := 0, Hard := 0, Owner := 1, Check := false } : Mod))))) (by kernel_rfl) (WkV.refl _)
  case hf3 =>
    replace H := cond_f hb H
    refine DK.seg hG 16 [0] (t' := [(0, .sc (.bool false))]) (h' := [.box 30 [.sc (.int .i64 1), .arr .u64 12 [0, 0, 0, 0, 0, 0, 0, 0, 0, 0, 0, 0], .arr .u64 12 [0, 0, 0, 0, 0, 0, 0, 0, 0, 0, 0, 0], .sc (.int .i64 7), .sl 0 [] true, .sc (.int .i64 0), .sc (.int .i64 0), .sc (.int .i64 1), .sc (.bool false)]]) (by kernel_rfl) rfl ?_
    refine DK.done (by kernel_rfl) (by kernel_rfl) ?_
    obtain rfl := Option.some.inj H
    exact AR.ret0 (fn := Try.f11) hG Try.func11 (by kernel_rfl) hc0 (r0 := .sc (.bool false)) (by kernel_rfl) (WkV.refl _)

theorem podestalaw07_answers_ok : ACalls Try.prog tab.S 11 [] [] (.sc (.bool true)) [] := podestalaw07_answers_walk true (by kernel_rfl)
end Go.Proofs.Ytockmihfoppkpaa

set_option linter.unusedVariables false
set_option linter.unusedSimpArgs false
set_option maxRecDepth 100000
set_option maxHeartbeats 4000000
namespace Go.Proofs.Ytockmihfoppkpaa
open Go.Sh
/-! ### podestalaw07.ModsRoom: function 7 -/
noncomputable def podestalaw07_ModsRoom_F : Go.Sh.Fn := ⟨7, bodyOf Try.f7, 102⟩
def podestalaw07_ModsRoom_k1 : List Kd := [.pure, .pure]
def podestalaw07_ModsRoom_k5 : List Kd := [.pure, .pure, .pure, .pure, .pure, .pure, .pure, .pure, .read, .pure, .pure, .pure, .pure, .pure, .pure, .pure, .pure, .read, .pure, .pure, .pure, .pure]
def podestalaw07_ModsRoom_k6 : List Kd := [.pure, .pure, .pure, .pure, .pure, .pure, .pure]
def podestalaw07_ModsRoom_k7 : List Kd := [.pure, .pure, .pure, .pure, .pure, .pure, .pure, .pure, .pure, .pure, .pure, .pure, .pure, .pure, .pure, .pure, .pure, .pure, .pure, .pure, .pure, .pure, .pure]
def podestalaw07_ModsRoom_k4 : List Kd := [.pure, .read, .pure, .pure, .pure, .pure, .pure, .pure, .pure]
def podestalaw07_ModsRoom_k3 : List Kd := [.pure, .read, .pure, .pure, .pure, .pure, .pure, .pure]
def podestalaw07_ModsRoom_k2 : List Kd := [.pure, .pure, .pure, .pure]
def podestalaw07_ModsRoom_k0 : List Kd := [.pure, .pure, .pure, .pure, .pure, .read, .pure, .pure, .pure, .pure, .pure, .read, .pure, .pure]
def podestalaw07_ModsRoom_l0s (m1 : Mod) (n : Int) : List Rule → Bool → Int × Bool
  | [], there =>
    (n, there)
  | x2 :: rest, there =>
    podestalaw07_ModsRoom_l0s m1 n rest (there || (((x2.Match.Value == m1.Match.Value) && (x2.Match.Care == m1.Match.Care)) && (x2.Prio == m1.Prio)))
theorem podestalaw07_ModsRoom_l0_walk (l : List Rule) (m1 : Mod) (room : Int) (x : (List Rule) × Int) (x1 : (List Rule) × Int) (n : Int) (f_l : Bool) (r : Bool) (c0 : Ctx) (hc0 : c0.m.length = 0) (res : Int × Bool) (J : AR Try.prog tab podestalaw07_ModsRoom_F c0 (Rp tab.S c0 (.sc (.bool r)) []) [.code [1, 1, 1, 1, 1, 1, 1]] [(0, .sl 40 (List.map Rule.av l) f_l), (7, .sc (.int .i64 res.1)), (9, .sc (.int .i64 x.2)), (11, .sc (.int .i64 x1.2)), (12, .sc (.bool res.2))] [.box 30 [.sc (.int .i64 m1.Kind), .arr .u64 12 m1.Match.Value, .arr .u64 12 m1.Match.Care, .sc (.int .i64 m1.Prio), .sl 48 (List.map Act.av m1.Acts) false, .sc (.int .i64 m1.Idle), .sc (.int .i64 m1.Hard), .sc (.int .i64 m1.Owner), .sc (.bool m1.Check)]]) :
    ∀ (rest : List Rule) (i : Nat) (hd : l.drop i = rest) (there : Bool) (H : podestalaw07_ModsRoom_l0s m1 n rest there = res), AR Try.prog tab podestalaw07_ModsRoom_F c0 (Rp tab.S c0 (.sc (.bool r)) []) [.code [1, 1, 1, 1, 1, 1, 0, 1, 0, 0], .loop [1, 1, 1, 1, 1, 1, 0, 1, 0], .blk 0, .code [1, 1, 1, 1, 1, 1, 1]] [(0, .sl 40 (List.map Rule.av l) f_l), (4, .ptr 0 0 none), (7, .sc (.int .i64 n)), (9, .sc (.int .i64 x.2)), (11, .sc (.int .i64 x1.2)), (12, .sc (.bool there)), (13, .sc (.int .i64 ((i : Nat) : Int)))] [.box 30 [.sc (.int .i64 m1.Kind), .arr .u64 12 m1.Match.Value, .arr .u64 12 m1.Match.Care, .sc (.int .i64 m1.Prio), .sl 48 (List.map Act.av m1.Acts) false, .sc (.int .i64 m1.Idle), .sc (.int .i64 m1.Hard), .sc (.int .i64 m1.Owner), .sc (.bool m1.Check)]] := by
  have hG := tab_ok
  have hm := mixed
  intro rest
  induction rest with
  | nil =>
    intro i hd there H
    rw [podestalaw07_ModsRoom_l0s] at H
    refine AR.facts 0 rfl fun hf => ?_
    have hlen : l.length ≤ 9223372036854775807 := by have hq := len_ok hf.2.1; rw [List.length_map] at hq; exact hq
    have hge : l.length ≤ i := List.drop_eq_nil_iff.1 hd
    have hc : (decide (((i : Nat) : Int) < (((List.map Rule.av l).length : Nat) : Int))) = false := by rw [List.length_map]; exact decide_eq_false (by omega)
    refine AR.seg hG hm 3 [0, 4, 7, 9, 11, 12, 13, 48] (k' := [.code [1, 1, 1, 1, 1, 1, 0, 1, 0, 0, 0, 1], .code [1, 1, 1, 1, 1, 1, 0, 1, 0, 0, 1], .loop [1, 1, 1, 1, 1, 1, 0, 1, 0], .blk 0, .code [1, 1, 1, 1, 1, 1, 1]]) (t' := [(0, .sl 40 (List.map Rule.av l) f_l), (4, .ptr 0 0 none), (7, .sc (.int .i64 n)), (9, .sc (.int .i64 x.2)), (11, .sc (.int .i64 x1.2)), (12, .sc (.bool there)), (13, .sc (.int .i64 ((i : Nat) : Int))), (48, .sc (.bool (decide (((i : Nat) : Int) < (((List.map Rule.av l).length : Nat) : Int)))))]) (h' := [.box 30 [.sc (.int .i64 m1.Kind), .arr .u64 12 m1.Match.Value, .arr .u64 12 m1.Match.Care, .sc (.int .i64 m1.Prio), .sl 48 (List.map Act.av m1.Acts) false, .sc (.int .i64 m1.Idle), .sc (.int .i64 m1.Hard), .sc (.int .i64 m1.Owner), .sc (.bool m1.Check)]]) (by kernel_rfl) ?_
    refine AR.cond (.tmp 48) (decide (((i : Nat) : Int) < (((List.map Rule.av l).length : Nat) : Int))) (by kernel_rfl) (by kernel_rfl) (fun hb => ?ht16) (fun hb => ?hf16)
    case ht16 => exact absurd (hb.symm.trans hc) (by decide)
    case hf16 =>
      refine AR.seg hG hm 1 [0, 7, 9, 11, 12] (k' := [.code [1, 1, 1, 1, 1, 1, 1]]) (t' := [(0, .sl 40 (List.map Rule.av l) f_l), (7, .sc (.int .i64 n)), (9, .sc (.int .i64 x.2)), (11, .sc (.int .i64 x1.2)), (12, .sc (.bool there))]) (h' := [.box 30 [.sc (.int .i64 m1.Kind), .arr .u64 12 m1.Match.Value, .arr .u64 12 m1.Match.Care, .sc (.int .i64 m1.Prio), .sl 48 (List.map Act.av m1.Acts) false, .sc (.int .i64 m1.Idle), .sc (.int .i64 m1.Hard), .sc (.int .i64 m1.Owner), .sc (.bool m1.Check)]]) (by kernel_rfl) ?_
      refine AR.keep [0, 7, 9, 11, 12] (t' := [(0, .sl 40 (List.map Rule.av l) f_l), (7, .sc (.int .i64 n)), (9, .sc (.int .i64 x.2)), (11, .sc (.int .i64 x1.2)), (12, .sc (.bool there))]) (by kernel_rfl) ?_
      subst H
      exact J
  | cons x2 rest ih =>
    intro i hd there H
    rw [podestalaw07_ModsRoom_l0s] at H
    refine AR.facts 0 rfl fun hf => ?_
    have hlen : l.length ≤ 9223372036854775807 := by have hq := len_ok hf.2.1; rw [List.length_map] at hq; exact hq
    obtain ⟨hlt, hv_i, hd2⟩ := drop_cons hd
    have hc : (decide (((i : Nat) : Int) < (((List.map Rule.av l).length : Nat) : Int))) = true := by rw [List.length_map]; exact decide_eq_true (by omega)
    have hw : IntKind.i64.wrap (((i : Nat) : Int) + 1) = ((i + 1 : Nat) : Int) := wrapI_succ (by omega)
    refine AR.seg hG hm 3 [0, 4, 7, 9, 11, 12, 13, 48] (k' := [.code [1, 1, 1, 1, 1, 1, 0, 1, 0, 0, 0, 1], .code [1, 1, 1, 1, 1, 1, 0, 1, 0, 0, 1], .loop [1, 1, 1, 1, 1, 1, 0, 1, 0], .blk 0, .code [1, 1, 1, 1, 1, 1, 1]]) (t' := [(0, .sl 40 (List.map Rule.av l) f_l), (4, .ptr 0 0 none), (7, .sc (.int .i64 n)), (9, .sc (.int .i64 x.2)), (11, .sc (.int .i64 x1.2)), (12, .sc (.bool there)), (13, .sc (.int .i64 ((i : Nat) : Int))), (48, .sc (.bool (decide (((i : Nat) : Int) < (((List.map Rule.av l).length : Nat) : Int)))))]) (h' := [.box 30 [.sc (.int .i64 m1.Kind), .arr .u64 12 m1.Match.Value, .arr .u64 12 m1.Match.Care, .sc (.int .i64 m1.Prio), .sl 48 (List.map Act.av m1.Acts) false, .sc (.int .i64 m1.Idle), .sc (.int .i64 m1.Hard), .sc (.int .i64 m1.Owner), .sc (.bool m1.Check)]]) (by kernel_rfl) ?_
    refine AR.cond (.tmp 48) (decide (((i : Nat) : Int) < (((List.map Rule.av l).length : Nat) : Int))) (by kernel_rfl) (by kernel_rfl) (fun hb => ?ht17) (fun hb => ?hf17)
    case ht17 =>
      refine AR.seg hG hm 3 [0, 4, 7, 9, 11, 12, 13] (k' := [.code [1, 1, 1, 1, 1, 1, 0, 1, 0, 0, 1, 0, 0], .blk 1, .code [1, 1, 1, 1, 1, 1, 0, 1, 0, 0, 1, 1], .loop [1, 1, 1, 1, 1, 1, 0, 1, 0], .blk 0, .code [1, 1, 1, 1, 1, 1, 1]]) (t' := [(0, .sl 40 (List.map Rule.av l) f_l), (4, .ptr 0 0 none), (7, .sc (.int .i64 n)), (9, .sc (.int .i64 x.2)), (11, .sc (.int .i64 x1.2)), (12, .sc (.bool there)), (13, .sc (.int .i64 ((i : Nat) : Int)))]) (h' := [.box 30 [.sc (.int .i64 m1.Kind), .arr .u64 12 m1.Match.Value, .arr .u64 12 m1.Match.Care, .sc (.int .i64 m1.Prio), .sl 48 (List.map Act.av m1.Acts) false, .sc (.int .i64 m1.Idle), .sc (.int .i64 m1.Hard), .sc (.int .i64 m1.Owner), .sc (.bool m1.Check)]]) (by kernel_rfl) ?_
      refine AR.reg hm podestalaw07_ModsRoom_k5 (by kernel_rfl) ?_
      refine DK.seg hG 2 [0, 4, 7, 9, 11, 13, 52] (t' := [(0, .sl 40 (List.map Rule.av l) f_l), (4, .ptr 0 0 none), (7, .sc (.int .i64 n)), (9, .sc (.int .i64 x.2)), (11, .sc (.int .i64 x1.2)), (13, .sc (.int .i64 ((i : Nat) : Int))), (52, .sc (.bool there))]) (h' := [.box 30 [.sc (.int .i64 m1.Kind), .arr .u64 12 m1.Match.Value, .arr .u64 12 m1.Match.Care, .sc (.int .i64 m1.Prio), .sl 48 (List.map Act.av m1.Acts) false, .sc (.int .i64 m1.Idle), .sc (.int .i64 m1.Hard), .sc (.int .i64 m1.Owner), .sc (.bool m1.Check)]]) (by kernel_rfl) rfl ?_
      refine DK.mux 52 there (j := 21) (h' := [.box 30 [.sc (.int .i64 m1.Kind), .arr .u64 12 m1.Match.Value, .arr .u64 12 m1.Match.Care, .sc (.int .i64 m1.Prio), .sl 48 (List.map Act.av m1.Acts) false, .sc (.int .i64 m1.Idle), .sc (.int .i64 m1.Hard), .sc (.int .i64 m1.Owner), .sc (.bool m1.Check)]]) (by kernel_rfl) (fun z => [(0, .sl 40 (List.map Rule.av l) f_l), (4, .ptr 0 0 none), (7, .sc (.int .i64 n)), (9, .sc (.int .i64 x.2)), (11, .sc (.int .i64 x1.2)), (13, .sc (.int .i64 ((i : Nat) : Int))), (71, .sc (.bool (z || (((x2.Match.Value == m1.Match.Value) && (x2.Match.Care == m1.Match.Care)) && (x2.Prio == m1.Prio)))))]) ?J19 (fun hb J => ?ht19) (fun hb J => ?hf19)
      case ht19 =>
        exact DK.seg hG 19 [0, 4, 7, 9, 11, 13, 71] (by kernel_rfl) rfl J
      case hf19 =>
        refine DK.seg hG 2 [0, 4, 7, 9, 11, 13, 52, 53, 54] (t' := [(0, .sl 40 (List.map Rule.av l) f_l), (4, .ptr 0 0 none), (7, .sc (.int .i64 n)), (9, .sc (.int .i64 x.2)), (11, .sc (.int .i64 x1.2)), (13, .sc (.int .i64 ((i : Nat) : Int))), (52, .sc (.bool false)), (53, .sl 40 (List.map Rule.av l) f_l), (54, .sc (.int .i64 ((i : Nat) : Int)))]) (h' := [.box 30 [.sc (.int .i64 m1.Kind), .arr .u64 12 m1.Match.Value, .arr .u64 12 m1.Match.Care, .sc (.int .i64 m1.Prio), .sl 48 (List.map Act.av m1.Acts) false, .sc (.int .i64 m1.Idle), .sc (.int .i64 m1.Hard), .sc (.int .i64 m1.Owner), .sc (.bool m1.Check)]]) (by kernel_rfl) rfl ?_
        refine DK.op' [0, 4, 7, 9, 11, 13, 52, 55] (t' := [(0, .sl 40 (List.map Rule.av l) f_l), (4, .ptr 0 0 none), (7, .sc (.int .i64 n)), (9, .sc (.int .i64 x.2)), (11, .sc (.int .i64 x1.2)), (13, .sc (.int .i64 ((i : Nat) : Int))), (52, .sc (.bool false)), (55, .ep [.arr .u64 12 x2.Match.Value, .arr .u64 12 x2.Match.Care, .sc (.int .i64 x2.Prio), .sl 48 (List.map Act.av x2.Acts) false, .sc (.int .i64 x2.Idle), .sc (.int .i64 x2.Hard), .sc (.int .i64 x2.Owner), .sc (.int .i64 x2.Hits), .sc (.int .i64 x2.Quiet), .sc (.int .i64 x2.Age)] 0 none)]) (h' := [.box 30 [.sc (.int .i64 m1.Kind), .arr .u64 12 m1.Match.Value, .arr .u64 12 m1.Match.Care, .sc (.int .i64 m1.Prio), .sl 48 (List.map Act.av m1.Acts) false, .sc (.int .i64 m1.Idle), .sc (.int .i64 m1.Hard), .sc (.int .i64 m1.Owner), .sc (.bool m1.Check)]]) (LSpec.index' (r := Rule.av x2) (fs := [.arr .u64 12 x2.Match.Value, .arr .u64 12 x2.Match.Care, .sc (.int .i64 x2.Prio), .sl 48 (List.map Act.av x2.Acts) false, .sc (.int .i64 x2.Idle), .sc (.int .i64 x2.Hard), .sc (.int .i64 x2.Owner), .sc (.int .i64 x2.Hits), .sc (.int .i64 x2.Quiet), .sc (.int .i64 x2.Age)]) hG (rows := List.map Rule.av l) (j := ((i : Nat) : Int)) (by kernel_rfl) (ixO_map hv_i _) (by kernel_rfl)) (by kernel_rfl) rfl (by kernel_rfl) rfl ?_
        refine DK.seg hG 4 [0, 4, 7, 9, 11, 13, 52, 57, 59] (t' := [(0, .sl 40 (List.map Rule.av l) f_l), (4, .ptr 0 0 none), (7, .sc (.int .i64 n)), (9, .sc (.int .i64 x.2)), (11, .sc (.int .i64 x1.2)), (13, .sc (.int .i64 ((i : Nat) : Int))), (52, .sc (.bool false)), (57, Cube.av x2.Match), (59, Cube.av m1.Match)]) (h' := [.box 30 [.sc (.int .i64 m1.Kind), .arr .u64 12 m1.Match.Value, .arr .u64 12 m1.Match.Care, .sc (.int .i64 m1.Prio), .sl 48 (List.map Act.av m1.Acts) false, .sc (.int .i64 m1.Idle), .sc (.int .i64 m1.Hard), .sc (.int .i64 m1.Owner), .sc (.bool m1.Check)]]) (by kernel_rfl) rfl ?_
        refine DK.op' [0, 4, 7, 9, 11, 13, 52, 60] (t' := [(0, .sl 40 (List.map Rule.av l) f_l), (4, .ptr 0 0 none), (7, .sc (.int .i64 n)), (9, .sc (.int .i64 x.2)), (11, .sc (.int .i64 x1.2)), (13, .sc (.int .i64 ((i : Nat) : Int))), (52, .sc (.bool false)), (60, .sc (.bool ((x2.Match.Value == m1.Match.Value) && (x2.Match.Care == m1.Match.Care))))]) (h' := [.box 30 [.sc (.int .i64 m1.Kind), .arr .u64 12 m1.Match.Value, .arr .u64 12 m1.Match.Care, .sc (.int .i64 m1.Prio), .sl 48 (List.map Act.av m1.Acts) false, .sc (.int .i64 m1.Idle), .sc (.int .i64 m1.Hard), .sc (.int .i64 m1.Owner), .sc (.bool m1.Check)]]) (LSpec.eq' 9 (r := ((x2.Match.Value == m1.Match.Value) && (x2.Match.Care == m1.Match.Care))) (by kernel_rfl)) (by kernel_rfl) rfl (by kernel_rfl) rfl ?_
        refine DK.seg hG 1 [0, 4, 7, 9, 11, 13, 52, 61] (t' := [(0, .sl 40 (List.map Rule.av l) f_l), (4, .ptr 0 0 none), (7, .sc (.int .i64 n)), (9, .sc (.int .i64 x.2)), (11, .sc (.int .i64 x1.2)), (13, .sc (.int .i64 ((i : Nat) : Int))), (52, .sc (.bool false)), (61, .sc (.bool ((x2.Match.Value == m1.Match.Value) && (x2.Match.Care == m1.Match.Care))))]) (h' := [.box 30 [.sc (.int .i64 m1.Kind), .arr .u64 12 m1.Match.Value, .arr .u64 12 m1.Match.Care, .sc (.int .i64 m1.Prio), .sl 48 (List.map Act.av m1.Acts) false, .sc (.int .i64 m1.Idle), .sc (.int .i64 m1.Hard), .sc (.int .i64 m1.Owner), .sc (.bool m1.Check)]]) (by kernel_rfl) rfl ?_
        refine DK.mux 61 ((x2.Match.Value == m1.Match.Value) && (x2.Match.Care == m1.Match.Care)) (j := 20) (h' := [.box 30 [.sc (.int .i64 m1.Kind), .arr .u64 12 m1.Match.Value, .arr .u64 12 m1.Match.Care, .sc (.int .i64 m1.Prio), .sl 48 (List.map Act.av m1.Acts) false, .sc (.int .i64 m1.Idle), .sc (.int .i64 m1.Hard), .sc (.int .i64 m1.Owner), .sc (.bool m1.Check)]]) (by kernel_rfl) (fun z => [(0, .sl 40 (List.map Rule.av l) f_l), (4, .ptr 0 0 none), (7, .sc (.int .i64 n)), (9, .sc (.int .i64 x.2)), (11, .sc (.int .i64 x1.2)), (13, .sc (.int .i64 ((i : Nat) : Int))), (52, .sc (.bool false)), (70, .sc (.bool (z && (x2.Prio == m1.Prio))))]) ?J20 (fun hb J => ?ht20) (fun hb J => ?hf20)
        case ht20 =>
          refine DK.seg hG 2 [0, 4, 7, 9, 11, 13, 52, 61, 62, 63] (t' := [(0, .sl 40 (List.map Rule.av l) f_l), (4, .ptr 0 0 none), (7, .sc (.int .i64 n)), (9, .sc (.int .i64 x.2)), (11, .sc (.int .i64 x1.2)), (13, .sc (.int .i64 ((i : Nat) : Int))), (52, .sc (.bool false)), (61, .sc (.bool true)), (62, .sl 40 (List.map Rule.av l) f_l), (63, .sc (.int .i64 ((i : Nat) : Int)))]) (h' := [.box 30 [.sc (.int .i64 m1.Kind), .arr .u64 12 m1.Match.Value, .arr .u64 12 m1.Match.Care, .sc (.int .i64 m1.Prio), .sl 48 (List.map Act.av m1.Acts) false, .sc (.int .i64 m1.Idle), .sc (.int .i64 m1.Hard), .sc (.int .i64 m1.Owner), .sc (.bool m1.Check)]]) (by kernel_rfl) rfl ?_
          refine DK.op' [0, 4, 7, 9, 11, 13, 52, 61, 64] (t' := [(0, .sl 40 (List.map Rule.av l) f_l), (4, .ptr 0 0 none), (7, .sc (.int .i64 n)), (9, .sc (.int .i64 x.2)), (11, .sc (.int .i64 x1.2)), (13, .sc (.int .i64 ((i : Nat) : Int))), (52, .sc (.bool false)), (61, .sc (.bool true)), (64, .ep [.arr .u64 12 x2.Match.Value, .arr .u64 12 x2.Match.Care, .sc (.int .i64 x2.Prio), .sl 48 (List.map Act.av x2.Acts) false, .sc (.int .i64 x2.Idle), .sc (.int .i64 x2.Hard), .sc (.int .i64 x2.Owner), .sc (.int .i64 x2.Hits), .sc (.int .i64 x2.Quiet), .sc (.int .i64 x2.Age)] 0 none)]) (h' := [.box 30 [.sc (.int .i64 m1.Kind), .arr .u64 12 m1.Match.Value, .arr .u64 12 m1.Match.Care, .sc (.int .i64 m1.Prio), .sl 48 (List.map Act.av m1.Acts) false, .sc (.int .i64 m1.Idle), .sc (.int .i64 m1.Hard), .sc (.int .i64 m1.Owner), .sc (.bool m1.Check)]]) (LSpec.index' (r := Rule.av x2) (fs := [.arr .u64 12 x2.Match.Value, .arr .u64 12 x2.Match.Care, .sc (.int .i64 x2.Prio), .sl 48 (List.map Act.av x2.Acts) false, .sc (.int .i64 x2.Idle), .sc (.int .i64 x2.Hard), .sc (.int .i64 x2.Owner), .sc (.int .i64 x2.Hits), .sc (.int .i64 x2.Quiet), .sc (.int .i64 x2.Age)]) hG (rows := List.map Rule.av l) (j := ((i : Nat) : Int)) (by kernel_rfl) (ixO_map hv_i _) (by kernel_rfl)) (by kernel_rfl) rfl (by kernel_rfl) rfl ?_
          exact DK.seg hG 6 [0, 4, 7, 9, 11, 13, 52, 70] (by kernel_rfl) rfl J
        case hf20 =>
          exact DK.seg hG 9 [0, 4, 7, 9, 11, 13, 52, 70] (by kernel_rfl) rfl J
        exact DK.seg hG 1 [0, 4, 7, 9, 11, 13, 71] (by kernel_rfl) rfl J
      refine DK.seg hG 1 [0, 4, 7, 9, 11, 12, 13] (t' := [(0, .sl 40 (List.map Rule.av l) f_l), (4, .ptr 0 0 none), (7, .sc (.int .i64 n)), (9, .sc (.int .i64 x.2)), (11, .sc (.int .i64 x1.2)), (12, .sc (.bool (there || (((x2.Match.Value == m1.Match.Value) && (x2.Match.Care == m1.Match.Care)) && (x2.Prio == m1.Prio))))), (13, .sc (.int .i64 ((i : Nat) : Int)))]) (h' := [.box 30 [.sc (.int .i64 m1.Kind), .arr .u64 12 m1.Match.Value, .arr .u64 12 m1.Match.Care, .sc (.int .i64 m1.Prio), .sl 48 (List.map Act.av m1.Acts) false, .sc (.int .i64 m1.Idle), .sc (.int .i64 m1.Hard), .sc (.int .i64 m1.Owner), .sc (.bool m1.Check)]]) (by kernel_rfl) rfl ?_
      refine DK.done (by kernel_rfl) (by kernel_rfl) ?_
      refine AR.seg hG hm 2 [0, 4, 7, 9, 11, 12, 13] (k' := [.loop [1, 1, 1, 1, 1, 1, 0, 1, 0], .blk 0, .code [1, 1, 1, 1, 1, 1, 1]]) (t' := [(0, .sl 40 (List.map Rule.av l) f_l), (4, .ptr 0 0 none), (7, .sc (.int .i64 n)), (9, .sc (.int .i64 x.2)), (11, .sc (.int .i64 x1.2)), (12, .sc (.bool (there || (((x2.Match.Value == m1.Match.Value) && (x2.Match.Care == m1.Match.Care)) && (x2.Prio == m1.Prio))))), (13, .sc (.int .i64 (IntKind.i64.wrap (((i : Nat) : Int) + 1))))]) (h' := [.box 30 [.sc (.int .i64 m1.Kind), .arr .u64 12 m1.Match.Value, .arr .u64 12 m1.Match.Care, .sc (.int .i64 m1.Prio), .sl 48 (List.map Act.av m1.Acts) false, .sc (.int .i64 m1.Idle), .sc (.int .i64 m1.Hard), .sc (.int .i64 m1.Owner), .sc (.bool m1.Check)]]) (by kernel_rfl) ?_
      refine AR.keep [0, 4, 7, 9, 11, 12, 13] (t' := [(0, .sl 40 (List.map Rule.av l) f_l), (4, .ptr 0 0 none), (7, .sc (.int .i64 n)), (9, .sc (.int .i64 x.2)), (11, .sc (.int .i64 x1.2)), (12, .sc (.bool (there || (((x2.Match.Value == m1.Match.Value) && (x2.Match.Care == m1.Match.Care)) && (x2.Prio == m1.Prio))))), (13, .sc (.int .i64 (IntKind.i64.wrap (((i : Nat) : Int) + 1))))]) (by kernel_rfl) ?_
      refine AR.loop_round ?_
      rw [hw]
      exact ih (i + 1) hd2 (there || (((x2.Match.Value == m1.Match.Value) && (x2.Match.Care == m1.Match.Care)) && (x2.Prio == m1.Prio))) H
    case hf17 => exact absurd (hc.symm.trans hb) (by decide)

def podestalaw07_ModsRoom_raw (l : List Rule) (m1 : Mod) (room : Int) : Option (Bool) :=
  (bif (((decide ((((List.map Rule.av l).length : Nat) : Int) > 40)) || (decide ((((List.map Act.av m1.Acts).length : Nat) : Int) > 20))) || (m1.Kind != 1)) then
    some true
  else
    (applyO l m1 1000).bind fun x =>
    (applyO l m1 (IntKind.i64.wrap (Int.tmod room 9))).bind fun x1 =>
    letT (podestalaw07_ModsRoom_l0s m1 (IntKind.i64.wrap (Int.tmod room 9)) l false) fun v =>
    (bif (x.2 != 0) then
      some (x1.2 == x.2)
    else
      some (((x1.2 == 3) == ((!v.2) && (decide ((((List.map Rule.av l).length : Nat) : Int) ≥ v.1)))) && ((x1.2 == 0) || (x1.2 == 3)))))
theorem podestalaw07_ModsRoom_walk (l : List Rule) (m1 : Mod) (room : Int) (f_l : Bool) (r : Bool) (H : podestalaw07_ModsRoom_raw l m1 room = some r) :
    ACalls Try.prog tab.S 7 [.sl 40 (List.map Rule.av l) f_l, Mod.av m1, .sc (.int .u8 room)] [] (.sc (.bool r)) [] := by
  have hG := tab_ok
  have hm := mixed
  refine ACalls.of_AR (G := tab) podestalaw07_ModsRoom_F (fn := Try.f7) Try.func7 (by kernel_rfl) (by kernel_rfl) (by kernel_rfl) (Nat.le_of_ble_eq_true (by kernel_rfl)) ?_
  intro c0 hc0
  replace hc0 : c0.m.length = 0 := hc0
  rw [podestalaw07_ModsRoom_raw] at H
  refine AR.seg hG hm 4 [0, 2, 4] (k' := [.code [1, 0, 0], .code [1, 0, 1], .code [1, 1]]) (t' := [(0, .sl 40 (List.map Rule.av l) f_l), (2, .sc (.int .u8 room)), (4, .ptr 0 0 none)]) (h' := [.box 30 [.sc (.int .i64 m1.Kind), .arr .u64 12 m1.Match.Value, .arr .u64 12 m1.Match.Care, .sc (.int .i64 m1.Prio), .sl 48 (List.map Act.av m1.Acts) false, .sc (.int .i64 m1.Idle), .sc (.int .i64 m1.Hard), .sc (.int .i64 m1.Owner), .sc (.bool m1.Check)]]) (by kernel_rfl) ?_
  refine AR.reg hm podestalaw07_ModsRoom_k0 (by kernel_rfl) ?_
  refine DK.seg hG 4 [0, 2, 4, 17] (t' := [(0, .sl 40 (List.map Rule.av l) f_l), (2, .sc (.int .u8 room)), (4, .ptr 0 0 none), (17, .sc (.bool (decide ((((List.map Rule.av l).length : Nat) : Int) > 40))))]) (h' := [.box 30 [.sc (.int .i64 m1.Kind), .arr .u64 12 m1.Match.Value, .arr .u64 12 m1.Match.Care, .sc (.int .i64 m1.Prio), .sl 48 (List.map Act.av m1.Acts) false, .sc (.int .i64 m1.Idle), .sc (.int .i64 m1.Hard), .sc (.int .i64 m1.Owner), .sc (.bool m1.Check)]]) (by kernel_rfl) rfl ?_
  refine DK.mux 17 (decide ((((List.map Rule.av l).length : Nat) : Int) > 40)) (j := 9) (h' := [.box 30 [.sc (.int .i64 m1.Kind), .arr .u64 12 m1.Match.Value, .arr .u64 12 m1.Match.Care, .sc (.int .i64 m1.Prio), .sl 48 (List.map Act.av m1.Acts) false, .sc (.int .i64 m1.Idle), .sc (.int .i64 m1.Hard), .sc (.int .i64 m1.Owner), .sc (.bool m1.Check)]]) (by kernel_rfl) (fun z => [(0, .sl 40 (List.map Rule.av l) f_l), (2, .sc (.int .u8 room)), (4, .ptr 0 0 none), (22, .sc (.bool (z || (decide ((((List.map Act.av m1.Acts).length : Nat) : Int) > 20)))))]) ?J1 (fun hb J => ?ht1) (fun hb J => ?hf1)
  case ht1 =>
    exact DK.seg hG 5 [0, 2, 4, 22] (by kernel_rfl) rfl J
  case hf1 =>
    exact DK.seg hG 5 [0, 2, 4, 22] (by kernel_rfl) rfl J
  refine DK.seg hG 1 [0, 2, 4, 23] (t' := [(0, .sl 40 (List.map Rule.av l) f_l), (2, .sc (.int .u8 room)), (4, .ptr 0 0 none), (23, .sc (.bool ((decide ((((List.map Rule.av l).length : Nat) : Int) > 40)) || (decide ((((List.map Act.av m1.Acts).length : Nat) : Int) > 20)))))]) (h' := [.box 30 [.sc (.int .i64 m1.Kind), .arr .u64 12 m1.Match.Value, .arr .u64 12 m1.Match.Care, .sc (.int .i64 m1.Prio), .sl 48 (List.map Act.av m1.Acts) false, .sc (.int .i64 m1.Idle), .sc (.int .i64 m1.Hard), .sc (.int .i64 m1.Owner), .sc (.bool m1.Check)]]) (by kernel_rfl) rfl ?_
  refine DK.mux 23 ((decide ((((List.map Rule.av l).length : Nat) : Int) > 40)) || (decide ((((List.map Act.av m1.Acts).length : Nat) : Int) > 20))) (j := 14) (h' := [.box 30 [.sc (.int .i64 m1.Kind), .arr .u64 12 m1.Match.Value, .arr .u64 12 m1.Match.Care, .sc (.int .i64 m1.Prio), .sl 48 (List.map Act.av m1.Acts) false, .sc (.int .i64 m1.Idle), .sc (.int .i64 m1.Hard), .sc (.int .i64 m1.Owner), .sc (.bool m1.Check)]]) (by kernel_rfl) (fun z => [(0, .sl 40 (List.map Rule.av l) f_l), (2, .sc (.int .u8 room)), (4, .ptr 0 0 none), (27, .sc (.bool (z || (m1.Kind != 1))))]) ?J2 (fun hb J => ?ht2) (fun hb J => ?hf2)
  case ht2 =>
    exact DK.seg hG 4 [0, 2, 4, 27] (by kernel_rfl) rfl J
  case hf2 =>
    exact DK.seg hG 4 [0, 2, 4, 27] (by kernel_rfl) rfl J
  refine DK.done (by kernel_rfl) (by kernel_rfl) ?_
  refine AR.cond (.tmp 27) (((decide ((((List.map Rule.av l).length : Nat) : Int) > 40)) || (decide ((((List.map Act.av m1.Acts).length : Nat) : Int) > 20))) || (m1.Kind != 1)) (by kernel_rfl) (by kernel_rfl) (fun hb => ?ht3) (fun hb => ?hf3)
  case ht3 =>
    replace H := cond_t hb H
    refine AR.seg hG hm 1 [] (k' := [.code [1, 0, 1, 0, 0], .code [1, 0, 1, 0, 1], .code [1, 1]]) (t' := []) (h' := [.box 30 [.sc (.int .i64 m1.Kind), .arr .u64 12 m1.Match.Value, .arr .u64 12 m1.Match.Care, .sc (.int .i64 m1.Prio), .sl 48 (List.map Act.av m1.Acts) false, .sc (.int .i64 m1.Idle), .sc (.int .i64 m1.Hard), .sc (.int .i64 m1.Owner), .sc (.bool m1.Check)]]) (by kernel_rfl) ?_
    refine AR.reg hm podestalaw07_ModsRoom_k1 (by kernel_rfl) ?_
    refine DK.op' [28] (t' := [(28, .sc (.bool true))]) (h' := [.box 30 [.sc (.int .i64 m1.Kind), .arr .u64 12 m1.Match.Value, .arr .u64 12 m1.Match.Care, .sc (.int .i64 m1.Prio), .sl 48 (List.map Act.av m1.Acts) false, .sc (.int .i64 m1.Idle), .sc (.int .i64 m1.Hard), .sc (.int .i64 m1.Owner), .sc (.bool m1.Check)]]) (LSpec.callP' (podestalaw07_answers_ok) (by kernel_rfl)) (by kernel_rfl) rfl (by kernel_rfl) rfl ?_
    refine DK.seg hG 1 [6] (t' := [(6, .sc (.bool true))]) (h' := [.box 30 [.sc (.int .i64 m1.Kind), .arr .u64 12 m1.Match.Value, .arr .u64 12 m1.Match.Care, .sc (.int .i64 m1.Prio), .sl 48 (List.map Act.av m1.Acts) false, .sc (.int .i64 m1.Idle), .sc (.int .i64 m1.Hard), .sc (.int .i64 m1.Owner), .sc (.bool m1.Check)]]) (by kernel_rfl) rfl ?_
    refine DK.done (by kernel_rfl) (by kernel_rfl) ?_
    obtain rfl := Option.some.inj H
    exact AR.ret0 (fn := Try.f7) hG Try.func7 (by kernel_rfl) hc0 (r0 := .sc (.bool true)) (by kernel_rfl) (WkV.refl _)
  case hf3 =>
    replace H := cond_f hb H
    refine AR.seg hG hm 2 [0, 2, 4] (k' := [.code [1, 1, 0], .code [1, 1, 1]]) (t' := [(0, .sl 40 (List.map Rule.av l) f_l), (2, .sc (.int .u8 room)), (4, .ptr 0 0 none)]) (h' := [.box 30 [.sc (.int .i64 m1.Kind), .arr .u64 12 m1.Match.Value, .arr .u64 12 m1.Match.Care, .sc (.int .i64 m1.Prio), .sl 48 (List.map Act.av m1.Acts) false, .sc (.int .i64 m1.Idle), .sc (.int .i64 m1.Hard), .sc (.int .i64 m1.Owner), .sc (.bool m1.Check)]]) (by kernel_rfl) ?_
    refine AR.reg hm podestalaw07_ModsRoom_k2 (by kernel_rfl) ?_
    refine DK.seg hG 1 [0, 4, 29] (t' := [(0, .sl 40 (List.map Rule.av l) f_l), (4, .ptr 0 0 none), (29, .sc (.int .u8 room))]) (h' := [.box 30 [.sc (.int .i64 m1.Kind), .arr .u64 12 m1.Match.Value, .arr .u64 12 m1.Match.Care, .sc (.int .i64 m1.Prio), .sl 48 (List.map Act.av m1.Acts) false, .sc (.int .i64 m1.Idle), .sc (.int .i64 m1.Hard), .sc (.int .i64 m1.Owner), .sc (.bool m1.Check)]]) (by kernel_rfl) rfl ?_
    refine DK.op' [0, 4, 30] (t' := [(0, .sl 40 (List.map Rule.av l) f_l), (4, .ptr 0 0 none), (30, .sc (.int .u8 (Int.tmod room 9)))]) (h' := [.box 30 [.sc (.int .i64 m1.Kind), .arr .u64 12 m1.Match.Value, .arr .u64 12 m1.Match.Care, .sc (.int .i64 m1.Prio), .sl 48 (List.map Act.av m1.Acts) false, .sc (.int .i64 m1.Idle), .sc (.int .i64 m1.Hard), .sc (.int .i64 m1.Owner), .sc (.bool m1.Check)]]) (LSpec.rem (k := .u8) (a := room) (b := 9) (by decide) (by kernel_rfl)) (by kernel_rfl) rfl (by kernel_rfl) rfl ?_
    refine DK.seg hG 2 [0, 4, 7] (t' := [(0, .sl 40 (List.map Rule.av l) f_l), (4, .ptr 0 0 none), (7, .sc (.int .i64 (IntKind.i64.wrap (Int.tmod room 9))))]) (h' := [.box 30 [.sc (.int .i64 m1.Kind), .arr .u64 12 m1.Match.Value, .arr .u64 12 m1.Match.Care, .sc (.int .i64 m1.Prio), .sl 48 (List.map Act.av m1.Acts) false, .sc (.int .i64 m1.Idle), .sc (.int .i64 m1.Hard), .sc (.int .i64 m1.Owner), .sc (.bool m1.Check)]]) (by kernel_rfl) rfl ?_
    refine DK.done (by kernel_rfl) (by kernel_rfl) ?_
    refine AR.seg hG hm 1 [0, 4, 7] (k' := [.code [1, 1, 1, 0], .code [1, 1, 1, 1]]) (t' := [(0, .sl 40 (List.map Rule.av l) f_l), (4, .ptr 0 0 none), (7, .sc (.int .i64 (IntKind.i64.wrap (Int.tmod room 9))))]) (h' := [.box 30 [.sc (.int .i64 m1.Kind), .arr .u64 12 m1.Match.Value, .arr .u64 12 m1.Match.Care, .sc (.int .i64 m1.Prio), .sl 48 (List.map Act.av m1.Acts) false, .sc (.int .i64 m1.Idle), .sc (.int .i64 m1.Hard), .sc (.int .i64 m1.Owner), .sc (.bool m1.Check)]]) (by kernel_rfl) ?_
    refine AR.reg hm podestalaw07_ModsRoom_k3 (by kernel_rfl) ?_
    refine DK.seg hG 2 [0, 4, 7, 33, 34] (t' := [(0, .sl 40 (List.map Rule.av l) f_l), (4, .ptr 0 0 none), (7, .sc (.int .i64 (IntKind.i64.wrap (Int.tmod room 9)))), (33, .sl 40 (List.map Rule.av l) f_l), (34, Mod.av m1)]) (h' := [.box 30 [.sc (.int .i64 m1.Kind), .arr .u64 12 m1.Match.Value, .arr .u64 12 m1.Match.Care, .sc (.int .i64 m1.Prio), .sl 48 (List.map Act.av m1.Acts) false, .sc (.int .i64 m1.Idle), .sc (.int .i64 m1.Hard), .sc (.int .i64 m1.Owner), .sc (.bool m1.Check)]]) (by kernel_rfl) rfl ?_
    obtain ⟨x, hv, H⟩ := Option.bind_eq_some_iff.1 H
    refine DK.op' [0, 4, 7, 35] (t' := [(0, .sl 40 (List.map Rule.av l) f_l), (4, .ptr 0 0 none), (7, .sc (.int .i64 (IntKind.i64.wrap (Int.tmod room 9)))), (35, .tup [.sl 40 (List.map Rule.av x.1) false, .sc (.int .i64 x.2)])]) (h' := [.box 30 [.sc (.int .i64 m1.Kind), .arr .u64 12 m1.Match.Value, .arr .u64 12 m1.Match.Care, .sc (.int .i64 m1.Prio), .sl 48 (List.map Act.av m1.Acts) false, .sc (.int .i64 m1.Idle), .sc (.int .i64 m1.Hard), .sc (.int .i64 m1.Owner), .sc (.bool m1.Check)]]) (LSpec.callP' (mods_Apply_ok l m1 1000 f_l x hv) (by kernel_rfl)) (by kernel_rfl) rfl (by kernel_rfl) rfl ?_
    refine DK.seg hG 5 [0, 4, 7, 9] (t' := [(0, .sl 40 (List.map Rule.av l) f_l), (4, .ptr 0 0 none), (7, .sc (.int .i64 (IntKind.i64.wrap (Int.tmod room 9)))), (9, .sc (.int .i64 x.2))]) (h' := [.box 30 [.sc (.int .i64 m1.Kind), .arr .u64 12 m1.Match.Value, .arr .u64 12 m1.Match.Care, .sc (.int .i64 m1.Prio), .sl 48 (List.map Act.av m1.Acts) false, .sc (.int .i64 m1.Idle), .sc (.int .i64 m1.Hard), .sc (.int .i64 m1.Owner), .sc (.bool m1.Check)]]) (by kernel_rfl) rfl ?_
    refine DK.done (by kernel_rfl) (by kernel_rfl) ?_
    refine AR.seg hG hm 1 [0, 4, 7, 9] (k' := [.code [1, 1, 1, 1, 0], .code [1, 1, 1, 1, 1]]) (t' := [(0, .sl 40 (List.map Rule.av l) f_l), (4, .ptr 0 0 none), (7, .sc (.int .i64 (IntKind.i64.wrap (Int.tmod room 9)))), (9, .sc (.int .i64 x.2))]) (h' := [.box 30 [.sc (.int .i64 m1.Kind), .arr .u64 12 m1.Match.Value, .arr .u64 12 m1.Match.Care, .sc (.int .i64 m1.Prio), .sl 48 (List.map Act.av m1.Acts) false, .sc (.int .i64 m1.Idle), .sc (.int .i64 m1.Hard), .sc (.int .i64 m1.Owner), .sc (.bool m1.Check)]]) (by kernel_rfl) ?_
    refine AR.reg hm podestalaw07_ModsRoom_k4 (by kernel_rfl) ?_
    refine DK.seg hG 3 [0, 4, 7, 9, 39, 40, 41] (t' := [(0, .sl 40 (List.map Rule.av l) f_l), (4, .ptr 0 0 none), (7, .sc (.int .i64 (IntKind.i64.wrap (Int.tmod room 9)))), (9, .sc (.int .i64 x.2)), (39, .sl 40 (List.map Rule.av l) f_l), (40, Mod.av m1), (41, .sc (.int .i64 (IntKind.i64.wrap (Int.tmod room 9))))]) (h' := [.box 30 [.sc (.int .i64 m1.Kind), .arr .u64 12 m1.Match.Value, .arr .u64 12 m1.Match.Care, .sc (.int .i64 m1.Prio), .sl 48 (List.map Act.av m1.Acts) false, .sc (.int .i64 m1.Idle), .sc (.int .i64 m1.Hard), .sc (.int .i64 m1.Owner), .sc (.bool m1.Check)]]) (by kernel_rfl) rfl ?_
    obtain ⟨x1, hv, H⟩ := Option.bind_eq_some_iff.1 H
    refine DK.op' [0, 4, 7, 9, 42] (t' := [(0, .sl 40 (List.map Rule.av l) f_l), (4, .ptr 0 0 none), (7, .sc (.int .i64 (IntKind.i64.wrap (Int.tmod room 9)))), (9, .sc (.int .i64 x.2)), (42, .tup [.sl 40 (List.map Rule.av x1.1) false, .sc (.int .i64 x1.2)])]) (h' := [.box 30 [.sc (.int .i64 m1.Kind), .arr .u64 12 m1.Match.Value, .arr .u64 12 m1.Match.Care, .sc (.int .i64 m1.Prio), .sl 48 (List.map Act.av m1.Acts) false, .sc (.int .i64 m1.Idle), .sc (.int .i64 m1.Hard), .sc (.int .i64 m1.Owner), .sc (.bool m1.Check)]]) (LSpec.callP' (mods_Apply_ok l m1 (IntKind.i64.wrap (Int.tmod room 9)) f_l x1 hv) (by kernel_rfl)) (by kernel_rfl) rfl (by kernel_rfl) rfl ?_
    refine DK.seg hG 5 [0, 4, 7, 9, 11] (t' := [(0, .sl 40 (List.map Rule.av l) f_l), (4, .ptr 0 0 none), (7, .sc (.int .i64 (IntKind.i64.wrap (Int.tmod room 9)))), (9, .sc (.int .i64 x.2)), (11, .sc (.int .i64 x1.2))]) (h' := [.box 30 [.sc (.int .i64 m1.Kind), .arr .u64 12 m1.Match.Value, .arr .u64 12 m1.Match.Care, .sc (.int .i64 m1.Prio), .sl 48 (List.map Act.av m1.Acts) false, .sc (.int .i64 m1.Idle), .sc (.int .i64 m1.Hard), .sc (.int .i64 m1.Owner), .sc (.bool m1.Check)]]) (by kernel_rfl) rfl ?_
    refine DK.done (by kernel_rfl) (by kernel_rfl) ?_
    refine AR.seg hG hm 6 [0, 4, 7, 9, 11, 12, 13] (k' := [.code [1, 1, 1, 1, 1, 1, 0, 1, 0], .blk 0, .code [1, 1, 1, 1, 1, 1, 1]]) (t' := [(0, .sl 40 (List.map Rule.av l) f_l), (4, .ptr 0 0 none), (7, .sc (.int .i64 (IntKind.i64.wrap (Int.tmod room 9)))), (9, .sc (.int .i64 x.2)), (11, .sc (.int .i64 x1.2)), (12, .sc (.bool false)), (13, .sc (.int .i64 0))]) (h' := [.box 30 [.sc (.int .i64 m1.Kind), .arr .u64 12 m1.Match.Value, .arr .u64 12 m1.Match.Care, .sc (.int .i64 m1.Prio), .sl 48 (List.map Act.av m1.Acts) false, .sc (.int .i64 m1.Idle), .sc (.int .i64 m1.Hard), .sc (.int .i64 m1.Owner), .sc (.bool m1.Check)]]) (by kernel_rfl) ?_
    obtain ⟨v, hv, H⟩ := letT_eq H
    refine AR.into (by kernel_rfl) ?_
    refine podestalaw07_ModsRoom_l0_walk l m1 room x x1 (IntKind.i64.wrap (Int.tmod room 9)) f_l r c0 hc0 v ?_ l 0 rfl false hv
    refine AR.seg hG hm 3 [0, 7, 9, 11, 12, 73] (k' := [.code [1, 1, 1, 1, 1, 1, 1, 0, 1], .code [1, 1, 1, 1, 1, 1, 1, 1]]) (t' := [(0, .sl 40 (List.map Rule.av l) f_l), (7, .sc (.int .i64 v.1)), (9, .sc (.int .i64 x.2)), (11, .sc (.int .i64 x1.2)), (12, .sc (.bool v.2)), (73, .sc (.bool (x.2 != 0)))]) (h' := [.box 30 [.sc (.int .i64 m1.Kind), .arr .u64 12 m1.Match.Value, .arr .u64 12 m1.Match.Care, .sc (.int .i64 m1.Prio), .sl 48 (List.map Act.av m1.Acts) false, .sc (.int .i64 m1.Idle), .sc (.int .i64 m1.Hard), .sc (.int .i64 m1.Owner), .sc (.bool m1.Check)]]) (by kernel_rfl) ?_
    refine AR.cond (.tmp 73) (x.2 != 0) (by kernel_rfl) (by kernel_rfl) (fun hb => ?ht21) (fun hb => ?hf21)
    case ht21 =>
      replace H := cond_t hb H
      refine AR.seg hG hm 1 [9, 11] (k' := [.code [1, 1, 1, 1, 1, 1, 1, 0, 1, 0, 0], .code [1, 1, 1, 1, 1, 1, 1, 0, 1, 0, 1], .code [1, 1, 1, 1, 1, 1, 1, 1]]) (t' := [(9, .sc (.int .i64 x.2)), (11, .sc (.int .i64 x1.2))]) (h' := [.box 30 [.sc (.int .i64 m1.Kind), .arr .u64 12 m1.Match.Value, .arr .u64 12 m1.Match.Care, .sc (.int .i64 m1.Prio), .sl 48 (List.map Act.av m1.Acts) false, .sc (.int .i64 m1.Idle), .sc (.int .i64 m1.Hard), .sc (.int .i64 m1.Owner), .sc (.bool m1.Check)]]) (by kernel_rfl) ?_
      refine AR.reg hm podestalaw07_ModsRoom_k6 (by kernel_rfl) ?_
      refine DK.op' [9, 11, 74] (t' := [(9, .sc (.int .i64 x.2)), (11, .sc (.int .i64 x1.2)), (74, .sc (.bool true))]) (h' := [.box 30 [.sc (.int .i64 m1.Kind), .arr .u64 12 m1.Match.Value, .arr .u64 12 m1.Match.Care, .sc (.int .i64 m1.Prio), .sl 48 (List.map Act.av m1.Acts) false, .sc (.int .i64 m1.Idle), .sc (.int .i64 m1.Hard), .sc (.int .i64 m1.Owner), .sc (.bool m1.Check)]]) (LSpec.callP' (podestalaw07_answers_ok) (by kernel_rfl)) (by kernel_rfl) rfl (by kernel_rfl) rfl ?_
      refine DK.seg hG 6 [6] (t' := [(6, .sc (.bool (x1.2 == x.2)))]) (h' := [.box 30 [.sc (.int .i64 m1.Kind), .arr .u64 12 m1.Match.Value, .arr .u64 12 m1.Match.Care, .sc (.int .i64 m1.Prio), .sl 48 (List.map Act.av m1.Acts) false, .sc (.int .i64 m1.Idle), .sc (.int .i64 m1.Hard), .sc (.int .i64 m1.Owner), .sc (.bool m1.Check)]]) (by kernel_rfl) rfl ?_
      refine DK.done (by kernel_rfl) (by kernel_rfl) ?_
      obtain rfl := Option.some.inj H
      exact AR.ret0 (fn := Try.f7) hG Try.func7 (by kernel_rfl) hc0 (r0 := .sc (.bool (x1.2 == x.2))) (by kernel_rfl) (WkV.refl _)
    case hf21 =>
      replace H := cond_f hb H
      refine AR.seg hG hm 2 [0, 7, 11, 12] (k' := [.code [1, 1, 1, 1, 1, 1, 1, 1, 0], .code [1, 1, 1, 1, 1, 1, 1, 1, 1]]) (t' := [(0, .sl 40 (List.map Rule.av l) f_l), (7, .sc (.int .i64 v.1)), (11, .sc (.int .i64 x1.2)), (12, .sc (.bool v.2))]) (h' := [.box 30 [.sc (.int .i64 m1.Kind), .arr .u64 12 m1.Match.Value, .arr .u64 12 m1.Match.Care, .sc (.int .i64 m1.Prio), .sl 48 (List.map Act.av m1.Acts) false, .sc (.int .i64 m1.Idle), .sc (.int .i64 m1.Hard), .sc (.int .i64 m1.Owner), .sc (.bool m1.Check)]]) (by kernel_rfl) ?_
      refine AR.reg hm podestalaw07_ModsRoom_k7 (by kernel_rfl) ?_
      refine DK.op' [0, 7, 11, 12, 80] (t' := [(0, .sl 40 (List.map Rule.av l) f_l), (7, .sc (.int .i64 v.1)), (11, .sc (.int .i64 x1.2)), (12, .sc (.bool v.2)), (80, .sc (.bool true))]) (h' := [.box 30 [.sc (.int .i64 m1.Kind), .arr .u64 12 m1.Match.Value, .arr .u64 12 m1.Match.Care, .sc (.int .i64 m1.Prio), .sl 48 (List.map Act.av m1.Acts) false, .sc (.int .i64 m1.Idle), .sc (.int .i64 m1.Hard), .sc (.int .i64 m1.Owner), .sc (.bool m1.Check)]]) (LSpec.callP' (podestalaw07_answers_ok) (by kernel_rfl)) (by kernel_rfl) rfl (by kernel_rfl) rfl ?_
      refine DK.seg hG 6 [0, 7, 11, 81, 83, 86] (t' := [(0, .sl 40 (List.map Rule.av l) f_l), (7, .sc (.int .i64 v.1)), (11, .sc (.int .i64 x1.2)), (81, .sc (.bool true)), (83, .sc (.bool (x1.2 == 3))), (86, .sc (.bool (!v.2)))]) (h' := [.box 30 [.sc (.int .i64 m1.Kind), .arr .u64 12 m1.Match.Value, .arr .u64 12 m1.Match.Care, .sc (.int .i64 m1.Prio), .sl 48 (List.map Act.av m1.Acts) false, .sc (.int .i64 m1.Idle), .sc (.int .i64 m1.Hard), .sc (.int .i64 m1.Owner), .sc (.bool m1.Check)]]) (by kernel_rfl) rfl ?_
      refine DK.mux 86 (!v.2) (j := 12) (h' := [.box 30 [.sc (.int .i64 m1.Kind), .arr .u64 12 m1.Match.Value, .arr .u64 12 m1.Match.Care, .sc (.int .i64 m1.Prio), .sl 48 (List.map Act.av m1.Acts) false, .sc (.int .i64 m1.Idle), .sc (.int .i64 m1.Hard), .sc (.int .i64 m1.Owner), .sc (.bool m1.Check)]]) (by kernel_rfl) (fun z => [(11, .sc (.int .i64 x1.2)), (81, .sc (.bool true)), (83, .sc (.bool (x1.2 == 3))), (91, .sc (.bool (z && (decide ((((List.map Rule.av l).length : Nat) : Int) ≥ v.1)))))]) ?J22 (fun hb J => ?ht22) (fun hb J => ?hf22)
      case ht22 =>
        exact DK.seg hG 5 [11, 81, 83, 91] (by kernel_rfl) rfl J
      case hf22 =>
        exact DK.seg hG 5 [11, 81, 83, 91] (by kernel_rfl) rfl J
      refine DK.seg hG 3 [11, 94] (t' := [(11, .sc (.int .i64 x1.2)), (94, .sc (.bool ((x1.2 == 3) == ((!v.2) && (decide ((((List.map Rule.av l).length : Nat) : Int) ≥ v.1))))))]) (h' := [.box 30 [.sc (.int .i64 m1.Kind), .arr .u64 12 m1.Match.Value, .arr .u64 12 m1.Match.Care, .sc (.int .i64 m1.Prio), .sl 48 (List.map Act.av m1.Acts) false, .sc (.int .i64 m1.Idle), .sc (.int .i64 m1.Hard), .sc (.int .i64 m1.Owner), .sc (.bool m1.Check)]]) (by kernel_rfl) rfl ?_
      refine DK.mux 94 ((x1.2 == 3) == ((!v.2) && (decide ((((List.map Rule.av l).length : Nat) : Int) ≥ v.1)))) (j := 22) (h' := [.box 30 [.sc (.int .i64 m1.Kind), .arr .u64 12 m1.Match.Value, .arr .u64 12 m1.Match.Care, .sc (.int .i64 m1.Prio), .sl 48 (List.map Act.av m1.Acts) false, .sc (.int .i64 m1.Idle), .sc (.int .i64 m1.Hard), .sc (.int .i64 m1.Owner), .sc (.bool m1.Check)]]) (by kernel_rfl) (fun z => [(101, .sc (.bool (z && ((x1.2 == 0) || (x1.2 == 3)))))]) ?J24 (fun hb J => ?ht24) (fun hb J => ?hf24)
      case ht24 =>
        refine DK.seg hG 3 [11, 94, 97] (t' := [(11, .sc (.int .i64 x1.2)), (94, .sc (.bool true)), (97, .sc (.bool (x1.2 == 0)))]) (h' := [.box 30 [.sc (.int .i64 m1.Kind), .arr .u64 12 m1.Match.Value, .arr .u64 12 m1.Match.Care, .sc (.int .i64 m1.Prio), .sl 48 (List.map Act.av m1.Acts) false, .sc (.int .i64 m1.Idle), .sc (.int .i64 m1.Hard), .sc (.int .i64 m1.Owner), .sc (.bool m1.Check)]]) (by kernel_rfl) rfl ?_
        refine DK.mux 97 (x1.2 == 0) (j := 21) (h' := [.box 30 [.sc (.int .i64 m1.Kind), .arr .u64 12 m1.Match.Value, .arr .u64 12 m1.Match.Care, .sc (.int .i64 m1.Prio), .sl 48 (List.map Act.av m1.Acts) false, .sc (.int .i64 m1.Idle), .sc (.int .i64 m1.Hard), .sc (.int .i64 m1.Owner), .sc (.bool m1.Check)]]) (by kernel_rfl) (fun z => [(94, .sc (.bool true)), (100, .sc (.bool (z || (x1.2 == 3))))]) ?J25 (fun hb J => ?ht25) (fun hb J => ?hf25)
        case ht25 =>
          exact DK.seg hG 3 [94, 100] (by kernel_rfl) rfl J
        case hf25 =>
          exact DK.seg hG 3 [94, 100] (by kernel_rfl) rfl J
        exact DK.seg hG 1 [101] (by kernel_rfl) rfl J
      case hf24 =>
        exact DK.seg hG 7 [101] (by kernel_rfl) rfl J
      refine DK.seg hG 1 [6] (t' := [(6, .sc (.bool (((x1.2 == 3) == ((!v.2) && (decide ((((List.map Rule.av l).length : Nat) : Int) ≥ v.1)))) && ((x1.2 == 0) || (x1.2 == 3)))))]) (h' := [.box 30 [.sc (.int .i64 m1.Kind), .arr .u64 12 m1.Match.Value, .arr .u64 12 m1.Match.Care, .sc (.int .i64 m1.Prio), .sl 48 (List.map Act.av m1.Acts) false, .sc (.int .i64 m1.Idle), .sc (.int .i64 m1.Hard), .sc (.int .i64 m1.Owner), .sc (.bool m1.Check)]]) (by kernel_rfl) rfl ?_
      refine DK.done (by kernel_rfl) (by kernel_rfl) ?_
      obtain rfl := Option.some.inj H
      exact AR.ret0 (fn := Try.f7) hG Try.func7 (by kernel_rfl) hc0 (r0 := .sc (.bool (((x1.2 == 3) == ((!v.2) && (decide ((((List.map Rule.av l).length : Nat) : Int) ≥ v.1)))) && ((x1.2 == 0) || (x1.2 == 3))))) (by kernel_rfl) (WkV.refl _)

theorem ModsRoom_l0s_eq (m : Mod) (n : Int) : ∀ (l : List Rule) (b : Bool), podestalaw07_ModsRoom_l0s m n l b = (n, b || l.any (fun x => rule_Key x (mods_Rule m)))
  | [], b => by rw [podestalaw07_ModsRoom_l0s]; simp
  | x :: l, b => by
      rw [podestalaw07_ModsRoom_l0s, ModsRoom_l0s_eq m n l, List.any_cons, ← Bool.or_assoc]
      rfl
theorem applyO_eq {l : List Rule} (h : l.length ≤ 1000000) (m : Mod) (room : Int) : applyO l m room = some (applyM l m room) := by
  unfold applyO; rw [if_pos h]
theorem ModsRoom_true (l : List Rule) (m : Mod) (room : Int) (_ : ∀ y ∈ l, Rule.wf y) (_ : Mod.wf m) (_ : intW .u8 room) (_ : l.length * 272 ≤ 140737488355328) (_ : m.Acts.length * 32 ≤ 140737488355328) : podestalaw07_ModsRoom_raw l m room = some true := by
  rw [podestalaw07_ModsRoom_raw]
  simp only [List.length_map]
  by_cases hl : l.length > 40
  · rw [decide_eq_true (show ((l.length : Nat) : Int) > 40 by omega)]; rfl
  by_cases hk : m.Kind = 1
  rotate_left
  · have : (m.Kind != 1) = true := by simp [hk]
    rw [this, Bool.or_true]; rfl
  have hk1 : (m.Kind != 1) = false := by simp [hk]
  have hk2 : (m.Kind == 1) = true := by simp [hk]
  rw [decide_eq_false (show ¬ ((l.length : Nat) : Int) > 40 by omega), hk1]
  cases decide (((m.Acts.length : Nat) : Int) > 20)
  rotate_left
  · rfl
  simp only [Bool.or_false, cond_false]
  generalize IntKind.i64.wrap (Int.tmod room 9) = n
  rw [applyO_eq (by omega), applyO_eq (by omega), Option.bind_some, Option.bind_some, ModsRoom_l0s_eq]
  unfold applyM
  simp only [hk2, cond_true]
  cases (!(tableR l)) || (!(mods_Sound m))
  rotate_left
  · rfl
  simp only [cond_false]
  unfold addM
  cases hf : l.find? (fun x => rule_Key x (mods_Rule m)) with
  | some x =>
    have ha : l.any (fun x => rule_Key x (mods_Rule m)) = true := List.any_eq_true.2 ⟨x, List.mem_of_find?_eq_some hf, by simpa using List.find?_some hf⟩
    rw [ha]
    simp only
    cases x.Owner != m.Owner
    · cases m.Check && l.any (fun x => mods_add_2 x (mods_Rule m)) <;> rfl
    · rfl
  | none =>
    have ha : l.any (fun x => rule_Key x (mods_Rule m)) = false := by
      rw [Bool.eq_false_iff]
      intro h
      obtain ⟨x, hx, hq⟩ := List.any_eq_true.1 h
      have := List.find?_eq_none.1 hf x hx
      exact this hq
    rw [ha]
    simp only
    cases m.Check && l.any (fun x => mods_add_2 x (mods_Rule m))
    · rw [decide_eq_false (show ¬ ((l.length : Nat) : Int) ≥ 1000 by omega)]
      simp only [Bool.false_eq_true, if_false]
      simp only [letT, bne_self_eq_false, cond_false, Bool.or_self, Bool.not_false, Bool.true_and]
      cases decide (((l.length : Nat) : Int) ≥ n) <;> rfl
    · rfl

end Go.Proofs.Ytockmihfoppkpaa
