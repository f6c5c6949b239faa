import Derived.Test.YtjchejmakdkioaaB1
set_option linter.unusedVariables false
set_option maxRecDepth 100000
set_option maxHeartbeats 4000000
namespace Go.Proofs.Ytjchejmakdkioaa
open Go.Sh
/-! ### podestalaw21.answers: function 16 -/
noncomputable def podestalaw21_answers_F : Go.Sh.Fn := ⟨16, bodyOf Try.f16, 22⟩
def podestalaw21_answers_k1 : List Kd := [.pure, .pure, .pure, .read, .pure, .pure, .pure, .pure, .read, .pure, .pure, .pure, .pure, .pure, .pure, .pure]
def podestalaw21_answers_k0 : List Kd := [.pure, .pure, .pure, .pure, .loud, .loud, .pure]
def podestalaw21_answers : Bool :=
  ((((band_Of 2).2 && (((band_Of 2).1).Low == 2000)) && (((band_Of 2).1).High == 2999)) && ((Owner 2500) == 2))
theorem podestalaw21_answers_walk (r : Bool) (H : podestalaw21_answers = r) :
    ACalls Try.prog tab.S 16 [] [] (.sc (.bool r)) [] := by
  have hG := tab_ok
  have hm := mixed
  refine ACalls.of_AR (G := tab) podestalaw21_answers_F (fn := Try.f16) Try.func16 (by kernel_rfl) (by kernel_rfl) (by kernel_rfl) (Nat.le_of_ble_eq_true (by kernel_rfl)) ?_
  intro c0 hc0
  replace hc0 : c0.m.length = 0 := hc0
  rw [podestalaw21_answers] at H
  refine AR.seg hG hm 3 [] (k' := [.code [1, 0], .code [1, 1]]) (t' := []) (h' := []) (by kernel_rfl) ?_
  refine AR.reg hm podestalaw21_answers_k0 (by kernel_rfl) ?_
  refine DK.op' [4] (t' := [(4, .tup [Band.av ((band_Of 2).1), .sc (.bool ((band_Of 2).2))])]) (h' := []) (LSpec.callP' (band_Of_calls 2) (by kernel_rfl)) (by kernel_rfl) rfl (by kernel_rfl) rfl ?_
  refine DK.seg hG 6 [1, 2] (t' := [(1, .ptr 0 0 none), (2, .sc (.bool ((band_Of 2).2)))]) (h' := [.box 23 [.sc (.int .i64 (((band_Of 2).1).Low)), .sc (.int .i64 (((band_Of 2).1).High))]]) (by kernel_rfl) rfl ?_
  refine DK.done (by kernel_rfl) (by kernel_rfl) ?_
  refine AR.seg hG hm 1 [1, 2] (k' := [.code [1, 1, 0], .code [1, 1, 1]]) (t' := [(1, .ptr 0 0 none), (2, .sc (.bool ((band_Of 2).2)))]) (h' := [.box 23 [.sc (.int .i64 (((band_Of 2).1).Low)), .sc (.int .i64 (((band_Of 2).1).High))]]) (by kernel_rfl) ?_
  refine AR.reg hm podestalaw21_answers_k1 (by kernel_rfl) ?_
  refine DK.seg hG 2 [1, 8] (t' := [(1, .ptr 0 0 none), (8, .sc (.bool ((band_Of 2).2)))]) (h' := [.box 23 [.sc (.int .i64 (((band_Of 2).1).Low)), .sc (.int .i64 (((band_Of 2).1).High))]]) (by kernel_rfl) rfl ?_
  refine DK.mux 8 ((band_Of 2).2) (j := 6) (h' := [.box 23 [.sc (.int .i64 (((band_Of 2).1).Low)), .sc (.int .i64 (((band_Of 2).1).High))]]) (by kernel_rfl) (fun z => [(1, .ptr 0 0 none), (12, .sc (.bool (z && (((band_Of 2).1).Low == 2000))))]) ?J1 (fun hb J => ?ht1) (fun hb J => ?hf1)
  case ht1 =>
    exact DK.seg hG 4 [1, 12] (by kernel_rfl) rfl J
  case hf1 =>
    exact DK.seg hG 4 [1, 12] (by kernel_rfl) rfl J
  refine DK.seg hG 1 [1, 13] (t' := [(1, .ptr 0 0 none), (13, .sc (.bool ((band_Of 2).2 && (((band_Of 2).1).Low == 2000))))]) (h' := [.box 23 [.sc (.int .i64 (((band_Of 2).1).Low)), .sc (.int .i64 (((band_Of 2).1).High))]]) (by kernel_rfl) rfl ?_
  refine DK.mux 13 ((band_Of 2).2 && (((band_Of 2).1).Low == 2000)) (j := 11) (h' := [.box 23 [.sc (.int .i64 (((band_Of 2).1).Low)), .sc (.int .i64 (((band_Of 2).1).High))]]) (by kernel_rfl) (fun z => [(17, .sc (.bool (z && (((band_Of 2).1).High == 2999))))]) ?J2 (fun hb J => ?ht2) (fun hb J => ?hf2)
  case ht2 =>
    exact DK.seg hG 4 [17] (by kernel_rfl) rfl J
  case hf2 =>
    exact DK.seg hG 4 [17] (by kernel_rfl) rfl J
  refine DK.seg hG 1 [18] (t' := [(18, .sc (.bool (((band_Of 2).2 && (((band_Of 2).1).Low == 2000)) && (((band_Of 2).1).High == 2999))))]) (h' := [.box 23 [.sc (.int .i64 (((band_Of 2).1).Low)), .sc (.int .i64 (((band_Of 2).1).High))]]) (by kernel_rfl) rfl ?_
  refine DK.mux 18 (((band_Of 2).2 && (((band_Of 2).1).Low == 2000)) && (((band_Of 2).1).High == 2999)) (j := 15) (h' := [.box 23 [.sc (.int .i64 (((band_Of 2).1).Low)), .sc (.int .i64 (((band_Of 2).1).High))]]) (by kernel_rfl) (fun z => [(21, .sc (.bool (z && ((Owner 2500) == 2))))]) ?J3 (fun hb J => ?ht3) (fun hb J => ?hf3)
  case ht3 =>
    refine DK.op' [18, 19] (t' := [(18, .sc (.bool true)), (19, .sc (.int .i64 (Owner 2500)))]) (h' := [.box 23 [.sc (.int .i64 (((band_Of 2).1).Low)), .sc (.int .i64 (((band_Of 2).1).High))]]) (LSpec.callP' (Owner_calls 2500) (by kernel_rfl)) (by kernel_rfl) rfl (by kernel_rfl) rfl ?_
    exact DK.seg hG 2 [21] (by kernel_rfl) rfl J
  case hf3 =>
    exact DK.seg hG 3 [21] (by kernel_rfl) rfl J
  refine DK.seg hG 1 [0] (t' := [(0, .sc (.bool ((((band_Of 2).2 && (((band_Of 2).1).Low == 2000)) && (((band_Of 2).1).High == 2999)) && ((Owner 2500) == 2))))]) (h' := [.box 23 [.sc (.int .i64 (((band_Of 2).1).Low)), .sc (.int .i64 (((band_Of 2).1).High))]]) (by kernel_rfl) rfl ?_
  refine DK.done (by kernel_rfl) (by kernel_rfl) ?_
  subst H
  exact AR.ret0 (fn := Try.f16) hG Try.func16 (by kernel_rfl) hc0 (r0 := .sc (.bool ((((band_Of 2).2 && (((band_Of 2).1).Low == 2000)) && (((band_Of 2).1).High == 2999)) && ((Owner 2500) == 2)))) (by kernel_rfl) (WkV.refl _)
theorem podestalaw21_answers_calls : ACalls Try.prog tab.S 16 [] [] (.sc (.bool (podestalaw21_answers))) [] := podestalaw21_answers_walk _ rfl

/-! ### podestalaw21.BandIn: function 5 -/
noncomputable def podestalaw21_BandIn_F : Go.Sh.Fn := ⟨5, bodyOf Try.f5, 22⟩
def podestalaw21_BandIn_k0 : List Kd := [.pure, .pure, .read, .pure, .pure, .pure, .pure, .read, .pure, .pure, .pure, .pure, .read, .pure, .pure, .pure, .pure, .pure]
def podestalaw21_BandIn (b : Band) (prio : Int) : Bool :=
  (podestalaw21_answers && ((band_In b prio) == ((decide (prio ≥ b.Low)) && (decide (prio ≤ b.High)))))
theorem podestalaw21_BandIn_walk (b : Band) (prio : Int) (r : Bool) (H : podestalaw21_BandIn b prio = r) :
    ACalls Try.prog tab.S 5 [Band.av b, .sc (.int .i64 prio)] [] (.sc (.bool r)) [] := by
  have hG := tab_ok
  have hm := mixed
  refine ACalls.of_AR (G := tab) podestalaw21_BandIn_F (fn := Try.f5) Try.func5 (by kernel_rfl) (by kernel_rfl) (by kernel_rfl) (Nat.le_of_ble_eq_true (by kernel_rfl)) ?_
  intro c0 hc0
  replace hc0 : c0.m.length = 0 := hc0
  rw [podestalaw21_BandIn] at H
  refine AR.seg hG hm 3 [1, 2] (k' := [.code [1, 0], .code [1, 1]]) (t' := [(1, .sc (.int .i64 prio)), (2, .ptr 0 0 none)]) (h' := [.box 23 [.sc (.int .i64 b.Low), .sc (.int .i64 b.High)]]) (by kernel_rfl) ?_
  refine AR.reg hm podestalaw21_BandIn_k0 (by kernel_rfl) ?_
  refine DK.op' [1, 2, 5] (t' := [(1, .sc (.int .i64 prio)), (2, .ptr 0 0 none), (5, .sc (.bool podestalaw21_answers))]) (h' := [.box 23 [.sc (.int .i64 b.Low), .sc (.int .i64 b.High)]]) (LSpec.callP' (podestalaw21_answers_calls) (by kernel_rfl)) (by kernel_rfl) rfl (by kernel_rfl) rfl ?_
  refine DK.seg hG 1 [1, 2, 6] (t' := [(1, .sc (.int .i64 prio)), (2, .ptr 0 0 none), (6, .sc (.bool podestalaw21_answers))]) (h' := [.box 23 [.sc (.int .i64 b.Low), .sc (.int .i64 b.High)]]) (by kernel_rfl) rfl ?_
  refine DK.mux 6 podestalaw21_answers (j := 17) (h' := [.box 23 [.sc (.int .i64 b.Low), .sc (.int .i64 b.High)]]) (by kernel_rfl) (fun z => [(21, .sc (.bool (z && ((band_In b prio) == ((decide (prio ≥ b.Low)) && (decide (prio ≤ b.High)))))))]) ?J2 (fun hb J => ?ht2) (fun hb J => ?hf2)
  case ht2 =>
    refine DK.seg hG 2 [1, 2, 6, 7, 8] (t' := [(1, .sc (.int .i64 prio)), (2, .ptr 0 0 none), (6, .sc (.bool true)), (7, Band.av b), (8, .sc (.int .i64 prio))]) (h' := [.box 23 [.sc (.int .i64 b.Low), .sc (.int .i64 b.High)]]) (by kernel_rfl) rfl ?_
    refine DK.op' [1, 2, 6, 9] (t' := [(1, .sc (.int .i64 prio)), (2, .ptr 0 0 none), (6, .sc (.bool true)), (9, .sc (.bool (band_In b prio)))]) (h' := [.box 23 [.sc (.int .i64 b.Low), .sc (.int .i64 b.High)]]) (LSpec.callP' (band_In_calls b prio) (by kernel_rfl)) (by kernel_rfl) rfl (by kernel_rfl) rfl ?_
    refine DK.seg hG 5 [1, 2, 6, 9, 14] (t' := [(1, .sc (.int .i64 prio)), (2, .ptr 0 0 none), (6, .sc (.bool true)), (9, .sc (.bool (band_In b prio))), (14, .sc (.bool (decide (prio ≥ b.Low))))]) (h' := [.box 23 [.sc (.int .i64 b.Low), .sc (.int .i64 b.High)]]) (by kernel_rfl) rfl ?_
    refine DK.mux 14 (decide (prio ≥ b.Low)) (j := 15) (h' := [.box 23 [.sc (.int .i64 b.Low), .sc (.int .i64 b.High)]]) (by kernel_rfl) (fun z => [(6, .sc (.bool true)), (9, .sc (.bool (band_In b prio))), (19, .sc (.bool (z && (decide (prio ≤ b.High)))))]) ?J3 (fun hb J => ?ht3) (fun hb J => ?hf3)
    case ht3 =>
      exact DK.seg hG 5 [6, 9, 19] (by kernel_rfl) rfl J
    case hf3 =>
      exact DK.seg hG 5 [6, 9, 19] (by kernel_rfl) rfl J
    exact DK.seg hG 2 [21] (by kernel_rfl) rfl J
  case hf2 =>
    exact DK.seg hG 15 [21] (by kernel_rfl) rfl J
  refine DK.seg hG 1 [4] (t' := [(4, .sc (.bool (podestalaw21_answers && ((band_In b prio) == ((decide (prio ≥ b.Low)) && (decide (prio ≤ b.High)))))))]) (h' := [.box 23 [.sc (.int .i64 b.Low), .sc (.int .i64 b.High)]]) (by kernel_rfl) rfl ?_
  refine DK.done (by kernel_rfl) (by kernel_rfl) ?_
  subst H
  exact AR.ret0 (fn := Try.f5) hG Try.func5 (by kernel_rfl) hc0 (r0 := .sc (.bool (podestalaw21_answers && ((band_In b prio) == ((decide (prio ≥ b.Low)) && (decide (prio ≤ b.High))))))) (by kernel_rfl) (WkV.refl _)
theorem podestalaw21_BandIn_calls (b : Band) (prio : Int) : ACalls Try.prog tab.S 5 [Band.av b, .sc (.int .i64 prio)] [] (.sc (.bool (podestalaw21_BandIn b prio))) [] := podestalaw21_BandIn_walk b prio _ rfl

end Go.Proofs.Ytjchejmakdkioaa
