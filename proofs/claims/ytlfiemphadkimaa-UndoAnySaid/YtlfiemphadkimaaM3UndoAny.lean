import Derived.Test.YtlfiemphadkimaaM2UndoAny
set_option linter.unusedVariables false
set_option linter.unusedSimpArgs false
set_option maxRecDepth 100000
set_option maxHeartbeats 4000000
namespace Go.Proofs.Ytlfiemphadkimaa
open Go.Sh
/-! ### rule.Copy: function 32 -/
noncomputable def rule_Copy_F : Go.Sh.Fn := ⟨32, bodyOf Try.f32, 20⟩
def rule_Copy_k1 : List Kd := [.pure, .read, .pure, .pure, .loud, .pure]
def rule_Copy_k0 : List Kd := [.pure, .pure, .loud, .loud]
def rule_Copy_k2 : List Kd := [.pure, .loud, .pure]
def rule_Copy_l0s : List Rule → List Rule → Option ((List Rule))
  | [], out =>
    some out
  | x :: rest, out =>
    fitO (out.length + [(rule_copied x)].length) 272 (
    rule_Copy_l0s rest (out ++ [(rule_copied x)]))
theorem rule_Copy_l0_walk (list : List Rule) (f_list : Bool) (r : (List Rule)) (c0 : Ctx) (hc0 : c0.m.length = 0) (res : (List Rule)) (J : AR Try.prog tab rule_Copy_F c0 (Rp tab.S c0 (.sl 51 (List.map Rule.av r) true) []) [.code [1, 1, 1]] [(3, .own 0 1000000)] [.row 51 (List.map Rule.av res) 1000000 true]) :
    ∀ (rest : List Rule) (t8 : Nat) (hd : list.drop t8 = rest) (out : List Rule) (H : rule_Copy_l0s rest out = some res), AR Try.prog tab rule_Copy_F c0 (Rp tab.S c0 (.sl 51 (List.map Rule.av r) true) []) [.code [1, 1, 0, 1, 0, 0], .loop [1, 1, 0, 1, 0], .blk 0, .code [1, 1, 1]] [(3, .own 0 1000000), (6, .sl 51 (List.map Rule.av list) f_list), (7, .sc (.int .i64 (((List.map Rule.av list).length : Nat) : Int))), (8, .sc (.int .i64 ((t8 : Nat) : Int)))] [.row 51 (List.map Rule.av out) 1000000 true] := by
  have hG := tab_ok
  have hm := mixed
  intro rest
  induction rest with
  | nil =>
    intro t8 hd out H
    rw [rule_Copy_l0s] at H
    refine AR.facts 6 rfl fun hf => ?_
    have hlen : list.length ≤ 9223372036854775807 := by have hq := len_ok hf.2.1; rw [List.length_map] at hq; exact hq
    have hge : list.length ≤ t8 := List.drop_eq_nil_iff.1 hd
    have hc : (decide (((t8 : Nat) : Int) < (((List.map Rule.av list).length : Nat) : Int))) = false := by rw [List.length_map]; exact decide_eq_false (by omega)
    refine AR.seg hG hm 3 [3, 6, 7, 8, 9] (k' := [.code [1, 1, 0, 1, 0, 0, 1, 0], .code [1, 1, 0, 1, 0, 0, 1, 1], .loop [1, 1, 0, 1, 0], .blk 0, .code [1, 1, 1]]) (t' := [(3, .own 0 1000000), (6, .sl 51 (List.map Rule.av list) f_list), (7, .sc (.int .i64 (((List.map Rule.av list).length : Nat) : Int))), (8, .sc (.int .i64 ((t8 : Nat) : Int))), (9, .sc (.bool (decide (((t8 : Nat) : Int) < (((List.map Rule.av list).length : Nat) : Int)))))]) (h' := [.row 51 (List.map Rule.av out) 1000000 true]) (by kernel_rfl) ?_
    refine AR.cond (.tmp 9) (decide (((t8 : Nat) : Int) < (((List.map Rule.av list).length : Nat) : Int))) (by kernel_rfl) (by kernel_rfl) (fun hb => ?ht5) (fun hb => ?hf5)
    case ht5 => exact absurd (hb.symm.trans hc) (by decide)
    case hf5 =>
      refine AR.seg hG hm 1 [3] (k' := [.code [1, 1, 1]]) (t' := [(3, .own 0 1000000)]) (h' := [.row 51 (List.map Rule.av out) 1000000 true]) (by kernel_rfl) ?_
      refine AR.keep [3] (t' := [(3, .own 0 1000000)]) (by kernel_rfl) ?_
      obtain rfl := Option.some.inj H
      exact J
  | cons x rest ih =>
    intro t8 hd out H
    rw [rule_Copy_l0s] at H
    refine AR.facts 6 rfl fun hf => ?_
    have hlen : list.length ≤ 9223372036854775807 := by have hq := len_ok hf.2.1; rw [List.length_map] at hq; exact hq
    obtain ⟨hlt, hv_t8, hd2⟩ := drop_cons hd
    have hc : (decide (((t8 : Nat) : Int) < (((List.map Rule.av list).length : Nat) : Int))) = true := by rw [List.length_map]; exact decide_eq_true (by omega)
    have hw : IntKind.i64.wrap (((t8 : Nat) : Int) + 1) = ((t8 + 1 : Nat) : Int) := wrapI_succ (by omega)
    refine AR.seg hG hm 3 [3, 6, 7, 8, 9] (k' := [.code [1, 1, 0, 1, 0, 0, 1, 0], .code [1, 1, 0, 1, 0, 0, 1, 1], .loop [1, 1, 0, 1, 0], .blk 0, .code [1, 1, 1]]) (t' := [(3, .own 0 1000000), (6, .sl 51 (List.map Rule.av list) f_list), (7, .sc (.int .i64 (((List.map Rule.av list).length : Nat) : Int))), (8, .sc (.int .i64 ((t8 : Nat) : Int))), (9, .sc (.bool (decide (((t8 : Nat) : Int) < (((List.map Rule.av list).length : Nat) : Int)))))]) (h' := [.row 51 (List.map Rule.av out) 1000000 true]) (by kernel_rfl) ?_
    refine AR.cond (.tmp 9) (decide (((t8 : Nat) : Int) < (((List.map Rule.av list).length : Nat) : Int))) (by kernel_rfl) (by kernel_rfl) (fun hb => ?ht6) (fun hb => ?hf6)
    case ht6 =>
      refine AR.seg hG hm 4 [3, 6, 7, 8] (k' := [.code [1, 1, 0, 1, 0, 0, 1, 1, 0, 0, 0], .code [1, 1, 0, 1, 0, 0, 1, 1, 0, 0, 1], .blk 1, .code [1, 1, 0, 1, 0, 0, 1, 1, 1], .loop [1, 1, 0, 1, 0], .blk 0, .code [1, 1, 1]]) (t' := [(3, .own 0 1000000), (6, .sl 51 (List.map Rule.av list) f_list), (7, .sc (.int .i64 (((List.map Rule.av list).length : Nat) : Int))), (8, .sc (.int .i64 ((t8 : Nat) : Int)))]) (h' := [.row 51 (List.map Rule.av out) 1000000 true]) (by kernel_rfl) ?_
      refine AR.reg hm rule_Copy_k0 (by kernel_rfl) ?_
      refine DK.op' [3, 6, 7, 8, 10] (t' := [(3, .own 0 1000000), (6, .sl 51 (List.map Rule.av list) f_list), (7, .sc (.int .i64 (((List.map Rule.av list).length : Nat) : Int))), (8, .sc (.int .i64 ((t8 : Nat) : Int))), (10, .ep [.arr .u64 12 x.Match.Value, .arr .u64 12 x.Match.Care, .sc (.int .i64 x.Prio), .sl 60 (List.map Act.av x.Acts) false, .sc (.int .i64 x.Idle), .sc (.int .i64 x.Hard), .sc (.int .i64 x.Owner), .sc (.int .i64 x.Hits), .sc (.int .i64 x.Quiet), .sc (.int .i64 x.Age)] 0 none)]) (h' := [.row 51 (List.map Rule.av out) 1000000 true]) (LSpec.index' (r := Rule.av x) (fs := [.arr .u64 12 x.Match.Value, .arr .u64 12 x.Match.Care, .sc (.int .i64 x.Prio), .sl 60 (List.map Act.av x.Acts) false, .sc (.int .i64 x.Idle), .sc (.int .i64 x.Hard), .sc (.int .i64 x.Owner), .sc (.int .i64 x.Hits), .sc (.int .i64 x.Quiet), .sc (.int .i64 x.Age)]) hG (rows := List.map Rule.av list) (j := ((t8 : Nat) : Int)) (by kernel_rfl) (ixO_map hv_t8 _) (by kernel_rfl)) (by kernel_rfl) rfl (by kernel_rfl) rfl ?_
      refine DK.seg hG 3 [3, 5, 6, 7, 8] (t' := [(3, .own 0 1000000), (5, .ptr 1 0 none), (6, .sl 51 (List.map Rule.av list) f_list), (7, .sc (.int .i64 (((List.map Rule.av list).length : Nat) : Int))), (8, .sc (.int .i64 ((t8 : Nat) : Int)))]) (h' := [.row 51 (List.map Rule.av out) 1000000 true, .box 51 (Rule.ch x)]) (by kernel_rfl) rfl ?_
      refine DK.done (by kernel_rfl) (by kernel_rfl) ?_
      refine AR.reg hm rule_Copy_k1 (by kernel_rfl) ?_
      refine DK.seg hG 2 [6, 7, 8, 12, 13] (t' := [(6, .sl 51 (List.map Rule.av list) f_list), (7, .sc (.int .i64 (((List.map Rule.av list).length : Nat) : Int))), (8, .sc (.int .i64 ((t8 : Nat) : Int))), (12, .own 0 1000000), (13, Rule.av x)]) (h' := [.row 51 (List.map Rule.av out) 1000000 true, .box 51 (Rule.ch x)]) (by kernel_rfl) rfl ?_
      refine DK.op' [6, 7, 8, 12, 14] (t' := [(6, .sl 51 (List.map Rule.av list) f_list), (7, .sc (.int .i64 (((List.map Rule.av list).length : Nat) : Int))), (8, .sc (.int .i64 ((t8 : Nat) : Int))), (12, .own 0 1000000), (14, Rule.av (rule_copied x))]) (h' := [.row 51 (List.map Rule.av out) 1000000 true, .box 51 (Rule.ch x)]) (LSpec.callP' (rule_copied_calls x) (by kernel_rfl)) (by kernel_rfl) rfl (by kernel_rfl) rfl ?_
      refine DK.seg hG 1 [6, 7, 8, 12, 15] (t' := [(6, .sl 51 (List.map Rule.av list) f_list), (7, .sc (.int .i64 (((List.map Rule.av list).length : Nat) : Int))), (8, .sc (.int .i64 ((t8 : Nat) : Int))), (12, .own 0 1000000), (15, .sl 51 (List.map Rule.av [(rule_copied x)]) true)]) (h' := [.row 51 (List.map Rule.av out) 1000000 true, .box 51 (Rule.ch x)]) (by kernel_rfl) rfl ?_
      obtain ⟨hfit, H⟩ := fitO_some H
      refine DK.op' [6, 7, 8, 16] (t' := [(6, .sl 51 (List.map Rule.av list) f_list), (7, .sc (.int .i64 (((List.map Rule.av list).length : Nat) : Int))), (8, .sc (.int .i64 ((t8 : Nat) : Int))), (16, .own 0 1000001)]) (h' := [.row 51 (List.map Rule.av (out ++ [(rule_copied x)])) 1000001 true, .box 51 (Rule.ch x)]) (LSpec.append' hG Rule.av out [(rule_copied x)] 0 1000000 51 272 hfit (by kernel_rfl)) (by kernel_rfl) (by kernel_rfl) (by kernel_rfl) rfl ?_
      refine DK.seg hG 1 [3, 6, 7, 8] (t' := [(3, .own 0 1000001), (6, .sl 51 (List.map Rule.av list) f_list), (7, .sc (.int .i64 (((List.map Rule.av list).length : Nat) : Int))), (8, .sc (.int .i64 ((t8 : Nat) : Int)))]) (h' := [.row 51 (List.map Rule.av (out ++ [(rule_copied x)])) 1000001 true, .box 51 (Rule.ch x)]) (by kernel_rfl) rfl ?_
      refine DK.done (by kernel_rfl) (by kernel_rfl) ?_
      refine AR.seg hG hm 2 [3, 6, 7, 8] (k' := [.loop [1, 1, 0, 1, 0], .blk 0, .code [1, 1, 1]]) (t' := [(3, .own 0 1000001), (6, .sl 51 (List.map Rule.av list) f_list), (7, .sc (.int .i64 (((List.map Rule.av list).length : Nat) : Int))), (8, .sc (.int .i64 (IntKind.i64.wrap (((t8 : Nat) : Int) + 1))))]) (h' := [.row 51 (List.map Rule.av (out ++ [(rule_copied x)])) 1000001 true, .box 51 (Rule.ch x)]) (by kernel_rfl) ?_
      refine AR.keep [3, 6, 7, 8] (t' := [(3, .own 0 1000001), (6, .sl 51 (List.map Rule.av list) f_list), (7, .sc (.int .i64 (((List.map Rule.av list).length : Nat) : Int))), (8, .sc (.int .i64 (IntKind.i64.wrap (((t8 : Nat) : Int) + 1))))]) (by kernel_rfl) ?_
      refine AR.norm' 0 1000000 hc0 (t' := [(3, .own 0 1000000), (6, .sl 51 (List.map Rule.av list) f_list), (7, .sc (.int .i64 (((List.map Rule.av list).length : Nat) : Int))), (8, .sc (.int .i64 (IntKind.i64.wrap (((t8 : Nat) : Int) + 1))))]) (h' := [.row 51 (List.map Rule.av (out ++ [(rule_copied x)])) 1000000 true, .box 51 (Rule.ch x)]) (by kernel_rfl) ?_
      refine AR.drop' 1 hc0 (t' := [(3, .own 0 1000000), (6, .sl 51 (List.map Rule.av list) f_list), (7, .sc (.int .i64 (((List.map Rule.av list).length : Nat) : Int))), (8, .sc (.int .i64 (IntKind.i64.wrap (((t8 : Nat) : Int) + 1))))]) (h' := [.row 51 (List.map Rule.av (out ++ [(rule_copied x)])) 1000000 true]) (by kernel_rfl) ?_
      refine AR.loop_round ?_
      rw [hw]
      exact ih (t8 + 1) hd2 (out ++ [(rule_copied x)]) H
    case hf6 => exact absurd (hc.symm.trans hb) (by decide)

def rule_Copy_raw (list : List Rule) : Option ((List Rule)) :=
  (rule_Copy_l0s list ([] : List Rule)).bind fun v =>
  some v
theorem rule_Copy_walk (list : List Rule) (f_list : Bool) (r : (List Rule)) (H : rule_Copy_raw list = some r) :
    ACalls Try.prog tab.S 32 [.sl 51 (List.map Rule.av list) f_list] [] (.sl 51 (List.map Rule.av r) true) [] := by
  have hG := tab_ok
  have hm := mixed
  refine ACalls.of_AR (G := tab) rule_Copy_F (fn := Try.f32) Try.func32 (by kernel_rfl) (by kernel_rfl) (by kernel_rfl) (Nat.le_of_ble_eq_true (by kernel_rfl)) ?_
  intro c0 hc0
  replace hc0 : c0.m.length = 0 := hc0
  rw [rule_Copy_raw] at H
  refine AR.seg hG hm 8 [3, 6, 7, 8] (k' := [.code [1, 1, 0, 1, 0], .blk 0, .code [1, 1, 1]]) (t' := [(3, .sl 0 [] true), (6, .sl 51 (List.map Rule.av list) f_list), (7, .sc (.int .i64 (((List.map Rule.av list).length : Nat) : Int))), (8, .sc (.int .i64 0))]) (h' := []) (by kernel_rfl) ?_
  refine AR.adoptB' 3 51 (t' := [(3, .own 0 1000000), (6, .sl 51 (List.map Rule.av list) f_list), (7, .sc (.int .i64 (((List.map Rule.av list).length : Nat) : Int))), (8, .sc (.int .i64 0))]) (h' := [.row 51 (List.map Rule.av ([] : List Rule)) 1000000 true]) (by kernel_rfl) ?_
  refine AR.keep [3, 6, 7, 8] (t' := [(3, .own 0 1000000), (6, .sl 51 (List.map Rule.av list) f_list), (7, .sc (.int .i64 (((List.map Rule.av list).length : Nat) : Int))), (8, .sc (.int .i64 0))]) (by kernel_rfl) ?_
  obtain ⟨v, hv, H⟩ := Option.bind_eq_some_iff.1 H
  refine AR.into (by kernel_rfl) ?_
  refine rule_Copy_l0_walk list f_list r c0 hc0 v ?_ list 0 rfl ([] : List Rule) hv
  refine AR.seg hG hm 1 [3] (k' := [.code [1, 1, 1, 0], .code [1, 1, 1, 1]]) (t' := [(3, .own 0 1000000)]) (h' := [.row 51 (List.map Rule.av v) 1000000 true]) (by kernel_rfl) ?_
  refine AR.reg hm rule_Copy_k2 (by kernel_rfl) ?_
  refine DK.seg hG 1 [18] (t' := [(18, .own 0 1000000)]) (h' := [.row 51 (List.map Rule.av v) 1000000 true]) (by kernel_rfl) rfl ?_
  refine DK.op' [19] (t' := [(19, .sl 51 (List.map Rule.av v) true)]) (h' := [.row 51 (List.map Rule.av v) 1000000 false]) (LSpec.callC' [0] (slices_Clip__api_Rule_calls v false) (by kernel_rfl) (by kernel_rfl)) (by kernel_rfl) (by kernel_rfl) (by kernel_rfl) rfl ?_
  refine DK.seg hG 1 [2] (t' := [(2, .sl 51 (List.map Rule.av v) true)]) (h' := [.row 51 (List.map Rule.av v) 1000000 false]) (by kernel_rfl) rfl ?_
  refine DK.done (by kernel_rfl) (by kernel_rfl) ?_
  obtain rfl := Option.some.inj H
  exact AR.ret0 (fn := Try.f32) hG Try.func32 (by kernel_rfl) hc0 (r0 := .sl 51 (List.map Rule.av v) true) (by kernel_rfl) (WkV.refl _)

theorem rule_Copy_l0s_eq : ∀ (l out : List Rule), (out.length + l.length) * 272 ≤ 140737488355328 → rule_Copy_l0s l out = some (out ++ l)
  | [], out, _ => by rw [rule_Copy_l0s, List.append_nil]
  | x :: l, out, h => by
      rw [List.length_cons] at h
      rw [rule_Copy_l0s, fitO_eq (by rw [List.length_cons, List.length_nil]; omega), rule_Copy_l0s_eq l (out ++ [rule_copied x]) (by rw [List.length_append, List.length_cons, List.length_nil]; omega), copied_eq, List.append_assoc]
      rfl
theorem rule_Copy_ok (l : List Rule) (f : Bool) : ACalls Try.prog tab.S 32 [.sl 51 (List.map Rule.av l) f] [] (.sl 51 (List.map Rule.av l) true) [] := by
  refine ACalls.facts (ent_of Try.func32 (by kernel_rfl) (by kernel_rfl)) fun hf => ?_
  have l0 : l.length * 272 ≤ 140737488355328 := by have h := hf.1.1; rw [List.length_map] at h; exact h
  refine rule_Copy_walk l f _ ?_
  rw [rule_Copy_raw, rule_Copy_l0s_eq l [] (by rw [List.length_nil, Nat.zero_add]; exact l0)]
  rfl

/-! ### rule.Table: function 26 -/
noncomputable def rule_Table_F : Go.Sh.Fn := ⟨26, bodyOf Try.f26, 30⟩
def rule_Table_k1 : List Kd := [.read, .pure, .pure, .pure, .pure, .pure, .pure, .pure, .pure, .pure, .pure, .pure, .read, .pure, .pure, .pure, .pure]
def rule_Table_k0 : List Kd := [.pure, .pure, .pure, .loud, .pure, .loud]
def rule_Table_l0s (list : List Rule) : List Rule → Nat → Option (Sum (Unit) (Bool))
  | [], t7 =>
    some (.inl ())
  | x :: rest, t7 =>
    (bif (!(rule_Sound x)) then
      some (.inr false)
    else
      (bif (decide (((t7 : Nat) : Int) > 0)) then
        (ixO list (IntKind.i64.wrap (((t7 : Nat) : Int) - 1))).bind fun x1 =>
        (bif (!(rule_Before x1 x)) then
          some (.inr false)
        else
          rule_Table_l0s list rest (t7 + 1) )
      else
        rule_Table_l0s list rest (t7 + 1) ))
theorem rule_Table_l0_walk (list : List Rule) (f_list : Bool) (r : Bool) (c0 : Ctx) (hc0 : c0.m.length = 0) (res : Sum (Unit) (Bool)) (J : ∀ w : Unit, res = .inl w → AR Try.prog tab rule_Table_F c0 (Rp tab.S c0 (.sc (.bool r)) []) [.code [1, 1]] [] []) (Jr : ∀ w, res = .inr w → w = r) :
    ∀ (rest : List Rule) (t7 : Nat) (hd : list.drop t7 = rest) (H : rule_Table_l0s list rest t7 = some res), AR Try.prog tab rule_Table_F c0 (Rp tab.S c0 (.sc (.bool r)) []) [.code [1, 0, 1, 0, 0], .loop [1, 0, 1, 0], .blk 0, .code [1, 1]] [(0, .sl 51 (List.map Rule.av list) f_list), (5, .sl 51 (List.map Rule.av list) f_list), (6, .sc (.int .i64 (((List.map Rule.av list).length : Nat) : Int))), (7, .sc (.int .i64 ((t7 : Nat) : Int)))] [] := by
  have hG := tab_ok
  have hm := mixed
  intro rest
  induction rest with
  | nil =>
    intro t7 hd  H
    rw [rule_Table_l0s] at H
    refine AR.facts 0 rfl fun hf => ?_
    have hlen : list.length ≤ 9223372036854775807 := by have hq := len_ok hf.2.1; rw [List.length_map] at hq; exact hq
    have hge : list.length ≤ t7 := List.drop_eq_nil_iff.1 hd
    have hc : (decide (((t7 : Nat) : Int) < (((List.map Rule.av list).length : Nat) : Int))) = false := by rw [List.length_map]; exact decide_eq_false (by omega)
    refine AR.seg hG hm 3 [0, 5, 6, 7, 8] (k' := [.code [1, 0, 1, 0, 0, 1, 0], .code [1, 0, 1, 0, 0, 1, 1], .loop [1, 0, 1, 0], .blk 0, .code [1, 1]]) (t' := [(0, .sl 51 (List.map Rule.av list) f_list), (5, .sl 51 (List.map Rule.av list) f_list), (6, .sc (.int .i64 (((List.map Rule.av list).length : Nat) : Int))), (7, .sc (.int .i64 ((t7 : Nat) : Int))), (8, .sc (.bool (decide (((t7 : Nat) : Int) < (((List.map Rule.av list).length : Nat) : Int)))))]) (h' := []) (by kernel_rfl) ?_
    refine AR.cond (.tmp 8) (decide (((t7 : Nat) : Int) < (((List.map Rule.av list).length : Nat) : Int))) (by kernel_rfl) (by kernel_rfl) (fun hb => ?ht13) (fun hb => ?hf13)
    case ht13 => exact absurd (hb.symm.trans hc) (by decide)
    case hf13 =>
      refine AR.seg hG hm 1 [] (k' := [.code [1, 1]]) (t' := []) (h' := []) (by kernel_rfl) ?_
      refine AR.keep [] (t' := []) (by kernel_rfl) ?_
      exact J () (Option.some.inj H).symm
  | cons x rest ih =>
    intro t7 hd  H
    rw [rule_Table_l0s] at H
    refine AR.facts 0 rfl fun hf => ?_
    have hlen : list.length ≤ 9223372036854775807 := by have hq := len_ok hf.2.1; rw [List.length_map] at hq; exact hq
    obtain ⟨hlt, hv_t7, hd2⟩ := drop_cons hd
    have hc : (decide (((t7 : Nat) : Int) < (((List.map Rule.av list).length : Nat) : Int))) = true := by rw [List.length_map]; exact decide_eq_true (by omega)
    have hw : IntKind.i64.wrap (((t7 : Nat) : Int) + 1) = ((t7 + 1 : Nat) : Int) := wrapI_succ (by omega)
    refine AR.seg hG hm 3 [0, 5, 6, 7, 8] (k' := [.code [1, 0, 1, 0, 0, 1, 0], .code [1, 0, 1, 0, 0, 1, 1], .loop [1, 0, 1, 0], .blk 0, .code [1, 1]]) (t' := [(0, .sl 51 (List.map Rule.av list) f_list), (5, .sl 51 (List.map Rule.av list) f_list), (6, .sc (.int .i64 (((List.map Rule.av list).length : Nat) : Int))), (7, .sc (.int .i64 ((t7 : Nat) : Int))), (8, .sc (.bool (decide (((t7 : Nat) : Int) < (((List.map Rule.av list).length : Nat) : Int)))))]) (h' := []) (by kernel_rfl) ?_
    refine AR.cond (.tmp 8) (decide (((t7 : Nat) : Int) < (((List.map Rule.av list).length : Nat) : Int))) (by kernel_rfl) (by kernel_rfl) (fun hb => ?ht14) (fun hb => ?hf14)
    case ht14 =>
      refine AR.seg hG hm 4 [0, 5, 6, 7] (k' := [.code [1, 0, 1, 0, 0, 1, 1, 0, 0, 0], .code [1, 0, 1, 0, 0, 1, 1, 0, 0, 1], .blk 1, .code [1, 0, 1, 0, 0, 1, 1, 1], .loop [1, 0, 1, 0], .blk 0, .code [1, 1]]) (t' := [(0, .sl 51 (List.map Rule.av list) f_list), (5, .sl 51 (List.map Rule.av list) f_list), (6, .sc (.int .i64 (((List.map Rule.av list).length : Nat) : Int))), (7, .sc (.int .i64 ((t7 : Nat) : Int)))]) (h' := []) (by kernel_rfl) ?_
      refine AR.reg hm rule_Table_k0 (by kernel_rfl) ?_
      refine DK.seg hG 1 [0, 5, 6, 7, 9] (t' := [(0, .sl 51 (List.map Rule.av list) f_list), (5, .sl 51 (List.map Rule.av list) f_list), (6, .sc (.int .i64 (((List.map Rule.av list).length : Nat) : Int))), (7, .sc (.int .i64 ((t7 : Nat) : Int))), (9, .sc (.int .i64 ((t7 : Nat) : Int)))]) (h' := []) (by kernel_rfl) rfl ?_
      refine DK.op' [0, 5, 6, 7, 9, 10] (t' := [(0, .sl 51 (List.map Rule.av list) f_list), (5, .sl 51 (List.map Rule.av list) f_list), (6, .sc (.int .i64 (((List.map Rule.av list).length : Nat) : Int))), (7, .sc (.int .i64 ((t7 : Nat) : Int))), (9, .sc (.int .i64 ((t7 : Nat) : Int))), (10, .ep [.arr .u64 12 x.Match.Value, .arr .u64 12 x.Match.Care, .sc (.int .i64 x.Prio), .sl 60 (List.map Act.av x.Acts) false, .sc (.int .i64 x.Idle), .sc (.int .i64 x.Hard), .sc (.int .i64 x.Owner), .sc (.int .i64 x.Hits), .sc (.int .i64 x.Quiet), .sc (.int .i64 x.Age)] 0 none)]) (h' := []) (LSpec.index' (r := Rule.av x) (fs := [.arr .u64 12 x.Match.Value, .arr .u64 12 x.Match.Care, .sc (.int .i64 x.Prio), .sl 60 (List.map Act.av x.Acts) false, .sc (.int .i64 x.Idle), .sc (.int .i64 x.Hard), .sc (.int .i64 x.Owner), .sc (.int .i64 x.Hits), .sc (.int .i64 x.Quiet), .sc (.int .i64 x.Age)]) hG (rows := List.map Rule.av list) (j := ((t7 : Nat) : Int)) (by kernel_rfl) (ixO_map hv_t7 _) (by kernel_rfl)) (by kernel_rfl) rfl (by kernel_rfl) rfl ?_
      refine DK.seg hG 4 [0, 3, 4, 5, 6, 7] (t' := [(0, .sl 51 (List.map Rule.av list) f_list), (3, .sc (.int .i64 ((t7 : Nat) : Int))), (4, .ptr 0 0 none), (5, .sl 51 (List.map Rule.av list) f_list), (6, .sc (.int .i64 (((List.map Rule.av list).length : Nat) : Int))), (7, .sc (.int .i64 ((t7 : Nat) : Int)))]) (h' := [.box 51 (Rule.ch x)]) (by kernel_rfl) rfl ?_
      refine DK.done (by kernel_rfl) (by kernel_rfl) ?_
      refine AR.seg hG hm 1 [0, 3, 4, 5, 6, 7] (k' := [.code [1, 0, 1, 0, 0, 1, 1, 0, 0, 1, 0], .code [1, 0, 1, 0, 0, 1, 1, 0, 0, 1, 1], .blk 1, .code [1, 0, 1, 0, 0, 1, 1, 1], .loop [1, 0, 1, 0], .blk 0, .code [1, 1]]) (t' := [(0, .sl 51 (List.map Rule.av list) f_list), (3, .sc (.int .i64 ((t7 : Nat) : Int))), (4, .ptr 0 0 none), (5, .sl 51 (List.map Rule.av list) f_list), (6, .sc (.int .i64 (((List.map Rule.av list).length : Nat) : Int))), (7, .sc (.int .i64 ((t7 : Nat) : Int)))]) (h' := [.box 51 (Rule.ch x)]) (by kernel_rfl) ?_
      refine AR.reg hm rule_Table_k1 (by kernel_rfl) ?_
      refine DK.seg hG 1 [0, 3, 4, 5, 6, 7, 12] (t' := [(0, .sl 51 (List.map Rule.av list) f_list), (3, .sc (.int .i64 ((t7 : Nat) : Int))), (4, .ptr 0 0 none), (5, .sl 51 (List.map Rule.av list) f_list), (6, .sc (.int .i64 (((List.map Rule.av list).length : Nat) : Int))), (7, .sc (.int .i64 ((t7 : Nat) : Int))), (12, Rule.av x)]) (h' := [.box 51 (Rule.ch x)]) (by kernel_rfl) rfl ?_
      refine DK.op' [0, 3, 4, 5, 6, 7, 13] (t' := [(0, .sl 51 (List.map Rule.av list) f_list), (3, .sc (.int .i64 ((t7 : Nat) : Int))), (4, .ptr 0 0 none), (5, .sl 51 (List.map Rule.av list) f_list), (6, .sc (.int .i64 (((List.map Rule.av list).length : Nat) : Int))), (7, .sc (.int .i64 ((t7 : Nat) : Int))), (13, .sc (.bool (rule_Sound x)))]) (h' := [.box 51 (Rule.ch x)]) (LSpec.callP' (rule_Sound_calls x) (by kernel_rfl)) (by kernel_rfl) rfl (by kernel_rfl) rfl ?_
      refine DK.seg hG 2 [0, 3, 4, 5, 6, 7, 15] (t' := [(0, .sl 51 (List.map Rule.av list) f_list), (3, .sc (.int .i64 ((t7 : Nat) : Int))), (4, .ptr 0 0 none), (5, .sl 51 (List.map Rule.av list) f_list), (6, .sc (.int .i64 (((List.map Rule.av list).length : Nat) : Int))), (7, .sc (.int .i64 ((t7 : Nat) : Int))), (15, .sc (.bool (!(rule_Sound x))))]) (h' := [.box 51 (Rule.ch x)]) (by kernel_rfl) rfl ?_
      refine DK.split 15 (!(rule_Sound x)) (by kernel_rfl) (fun hb => ?ht15) (fun hb => ?hf15)
      case ht15 =>
        replace H := cond_t hb H
        refine DK.seg hG 13 [0, 5, 6, 7, 28] (t' := [(0, .sl 51 (List.map Rule.av list) f_list), (5, .sl 51 (List.map Rule.av list) f_list), (6, .sc (.int .i64 (((List.map Rule.av list).length : Nat) : Int))), (7, .sc (.int .i64 ((t7 : Nat) : Int))), (28, .sc (.bool true))]) (h' := [.box 51 (Rule.ch x)]) (by kernel_rfl) rfl ?_
        refine DK.done (by kernel_rfl) (by kernel_rfl) ?_
        refine AR.seg hG hm 3 [2] (k' := [.code [1, 0, 1, 0, 0, 1, 1, 0, 0, 1, 1, 0, 1], .blk 1, .code [1, 0, 1, 0, 0, 1, 1, 1], .loop [1, 0, 1, 0], .blk 0, .code [1, 1]]) (t' := [(2, .sc (.bool false))]) (h' := [.box 51 (Rule.ch x)]) (by kernel_rfl) ?_
        obtain rfl := Option.some.inj H
        obtain rfl := Jr _ rfl
        exact AR.ret0 (fn := Try.f26) hG Try.func26 (by kernel_rfl) hc0 (r0 := .sc (.bool false)) (by kernel_rfl) (WkV.refl _)
      case hf15 =>
        replace H := cond_f hb H
        refine DK.seg hG 3 [0, 3, 4, 5, 6, 7, 15, 18] (t' := [(0, .sl 51 (List.map Rule.av list) f_list), (3, .sc (.int .i64 ((t7 : Nat) : Int))), (4, .ptr 0 0 none), (5, .sl 51 (List.map Rule.av list) f_list), (6, .sc (.int .i64 (((List.map Rule.av list).length : Nat) : Int))), (7, .sc (.int .i64 ((t7 : Nat) : Int))), (15, .sc (.bool false)), (18, .sc (.bool (decide (((t7 : Nat) : Int) > 0))))]) (h' := [.box 51 (Rule.ch x)]) (by kernel_rfl) rfl ?_
        refine DK.split 18 (decide (((t7 : Nat) : Int) > 0)) (by kernel_rfl) (fun hb => ?ht16) (fun hb => ?hf16)
        case ht16 =>
          replace H := cond_t hb H
          refine DK.seg hG 3 [0, 4, 5, 6, 7, 15, 18, 19, 21] (t' := [(0, .sl 51 (List.map Rule.av list) f_list), (4, .ptr 0 0 none), (5, .sl 51 (List.map Rule.av list) f_list), (6, .sc (.int .i64 (((List.map Rule.av list).length : Nat) : Int))), (7, .sc (.int .i64 ((t7 : Nat) : Int))), (15, .sc (.bool false)), (18, .sc (.bool true)), (19, .sl 51 (List.map Rule.av list) f_list), (21, .sc (.int .i64 (IntKind.i64.wrap (((t7 : Nat) : Int) - 1))))]) (h' := [.box 51 (Rule.ch x)]) (by kernel_rfl) rfl ?_
          obtain ⟨x1, hv, H⟩ := Option.bind_eq_some_iff.1 H
          refine DK.op' [0, 4, 5, 6, 7, 15, 18, 22] (t' := [(0, .sl 51 (List.map Rule.av list) f_list), (4, .ptr 0 0 none), (5, .sl 51 (List.map Rule.av list) f_list), (6, .sc (.int .i64 (((List.map Rule.av list).length : Nat) : Int))), (7, .sc (.int .i64 ((t7 : Nat) : Int))), (15, .sc (.bool false)), (18, .sc (.bool true)), (22, .ep [.arr .u64 12 x1.Match.Value, .arr .u64 12 x1.Match.Care, .sc (.int .i64 x1.Prio), .sl 60 (List.map Act.av x1.Acts) false, .sc (.int .i64 x1.Idle), .sc (.int .i64 x1.Hard), .sc (.int .i64 x1.Owner), .sc (.int .i64 x1.Hits), .sc (.int .i64 x1.Quiet), .sc (.int .i64 x1.Age)] 0 none)]) (h' := [.box 51 (Rule.ch x)]) (LSpec.index' (r := Rule.av x1) (fs := [.arr .u64 12 x1.Match.Value, .arr .u64 12 x1.Match.Care, .sc (.int .i64 x1.Prio), .sl 60 (List.map Act.av x1.Acts) false, .sc (.int .i64 x1.Idle), .sc (.int .i64 x1.Hard), .sc (.int .i64 x1.Owner), .sc (.int .i64 x1.Hits), .sc (.int .i64 x1.Quiet), .sc (.int .i64 x1.Age)]) hG (rows := List.map Rule.av list) (j := (IntKind.i64.wrap (((t7 : Nat) : Int) - 1))) (by kernel_rfl) (ixO_map hv _) (by kernel_rfl)) (by kernel_rfl) rfl (by kernel_rfl) rfl ?_
          refine DK.seg hG 2 [0, 5, 6, 7, 15, 18, 23, 24] (t' := [(0, .sl 51 (List.map Rule.av list) f_list), (5, .sl 51 (List.map Rule.av list) f_list), (6, .sc (.int .i64 (((List.map Rule.av list).length : Nat) : Int))), (7, .sc (.int .i64 ((t7 : Nat) : Int))), (15, .sc (.bool false)), (18, .sc (.bool true)), (23, Rule.av x1), (24, Rule.av x)]) (h' := [.box 51 (Rule.ch x)]) (by kernel_rfl) rfl ?_
          refine DK.op' [0, 5, 6, 7, 15, 18, 25] (t' := [(0, .sl 51 (List.map Rule.av list) f_list), (5, .sl 51 (List.map Rule.av list) f_list), (6, .sc (.int .i64 (((List.map Rule.av list).length : Nat) : Int))), (7, .sc (.int .i64 ((t7 : Nat) : Int))), (15, .sc (.bool false)), (18, .sc (.bool true)), (25, .sc (.bool (rule_Before x1 x)))]) (h' := [.box 51 (Rule.ch x)]) (LSpec.callP' (rule_Before_calls x1 x) (by kernel_rfl)) (by kernel_rfl) rfl (by kernel_rfl) rfl ?_
          refine DK.seg hG 3 [0, 5, 6, 7, 28] (t' := [(0, .sl 51 (List.map Rule.av list) f_list), (5, .sl 51 (List.map Rule.av list) f_list), (6, .sc (.int .i64 (((List.map Rule.av list).length : Nat) : Int))), (7, .sc (.int .i64 ((t7 : Nat) : Int))), (28, .sc (.bool (!(rule_Before x1 x))))]) (h' := [.box 51 (Rule.ch x)]) (by kernel_rfl) rfl ?_
          refine DK.done (by kernel_rfl) (by kernel_rfl) ?_
          refine AR.cond (.tmp 28) (!(rule_Before x1 x)) (by kernel_rfl) (by kernel_rfl) (fun hb => ?ht17) (fun hb => ?hf17)
          case ht17 =>
            replace H := cond_t hb H
            refine AR.seg hG hm 2 [2] (k' := [.code [1, 0, 1, 0, 0, 1, 1, 0, 0, 1, 1, 0, 1], .blk 1, .code [1, 0, 1, 0, 0, 1, 1, 1], .loop [1, 0, 1, 0], .blk 0, .code [1, 1]]) (t' := [(2, .sc (.bool false))]) (h' := [.box 51 (Rule.ch x)]) (by kernel_rfl) ?_
            obtain rfl := Option.some.inj H
            obtain rfl := Jr _ rfl
            exact AR.ret0 (fn := Try.f26) hG Try.func26 (by kernel_rfl) hc0 (r0 := .sc (.bool false)) (by kernel_rfl) (WkV.refl _)
          case hf17 =>
            replace H := cond_f hb H
            refine AR.seg hG hm 3 [0, 5, 6, 7] (k' := [.loop [1, 0, 1, 0], .blk 0, .code [1, 1]]) (t' := [(0, .sl 51 (List.map Rule.av list) f_list), (5, .sl 51 (List.map Rule.av list) f_list), (6, .sc (.int .i64 (((List.map Rule.av list).length : Nat) : Int))), (7, .sc (.int .i64 (IntKind.i64.wrap (((t7 : Nat) : Int) + 1))))]) (h' := [.box 51 (Rule.ch x)]) (by kernel_rfl) ?_
            refine AR.keep [0, 5, 6, 7] (t' := [(0, .sl 51 (List.map Rule.av list) f_list), (5, .sl 51 (List.map Rule.av list) f_list), (6, .sc (.int .i64 (((List.map Rule.av list).length : Nat) : Int))), (7, .sc (.int .i64 (IntKind.i64.wrap (((t7 : Nat) : Int) + 1))))]) (by kernel_rfl) ?_
            refine AR.drop' 0 hc0 (t' := [(0, .sl 51 (List.map Rule.av list) f_list), (5, .sl 51 (List.map Rule.av list) f_list), (6, .sc (.int .i64 (((List.map Rule.av list).length : Nat) : Int))), (7, .sc (.int .i64 (IntKind.i64.wrap (((t7 : Nat) : Int) + 1))))]) (h' := []) (by kernel_rfl) ?_
            refine AR.loop_round ?_
            rw [hw]
            exact ih (t7 + 1) hd2 H
        case hf16 =>
          replace H := cond_f hb H
          refine DK.seg hG 10 [0, 5, 6, 7, 28] (t' := [(0, .sl 51 (List.map Rule.av list) f_list), (5, .sl 51 (List.map Rule.av list) f_list), (6, .sc (.int .i64 (((List.map Rule.av list).length : Nat) : Int))), (7, .sc (.int .i64 ((t7 : Nat) : Int))), (28, .sc (.bool false))]) (h' := [.box 51 (Rule.ch x)]) (by kernel_rfl) rfl ?_
          refine DK.done (by kernel_rfl) (by kernel_rfl) ?_
          refine AR.seg hG hm 4 [0, 5, 6, 7] (k' := [.loop [1, 0, 1, 0], .blk 0, .code [1, 1]]) (t' := [(0, .sl 51 (List.map Rule.av list) f_list), (5, .sl 51 (List.map Rule.av list) f_list), (6, .sc (.int .i64 (((List.map Rule.av list).length : Nat) : Int))), (7, .sc (.int .i64 (IntKind.i64.wrap (((t7 : Nat) : Int) + 1))))]) (h' := [.box 51 (Rule.ch x)]) (by kernel_rfl) ?_
          refine AR.keep [0, 5, 6, 7] (t' := [(0, .sl 51 (List.map Rule.av list) f_list), (5, .sl 51 (List.map Rule.av list) f_list), (6, .sc (.int .i64 (((List.map Rule.av list).length : Nat) : Int))), (7, .sc (.int .i64 (IntKind.i64.wrap (((t7 : Nat) : Int) + 1))))]) (by kernel_rfl) ?_
          refine AR.drop' 0 hc0 (t' := [(0, .sl 51 (List.map Rule.av list) f_list), (5, .sl 51 (List.map Rule.av list) f_list), (6, .sc (.int .i64 (((List.map Rule.av list).length : Nat) : Int))), (7, .sc (.int .i64 (IntKind.i64.wrap (((t7 : Nat) : Int) + 1))))]) (h' := []) (by kernel_rfl) ?_
          refine AR.loop_round ?_
          rw [hw]
          exact ih (t7 + 1) hd2 H
    case hf14 => exact absurd (hc.symm.trans hb) (by decide)

def rule_Table_raw (list : List Rule) : Option (Bool) :=
  loopO (rule_Table_l0s list list 0) fun v =>
  some true
theorem rule_Table_walk (list : List Rule) (f_list : Bool) (r : Bool) (H : rule_Table_raw list = some r) :
    ACalls Try.prog tab.S 26 [.sl 51 (List.map Rule.av list) f_list] [] (.sc (.bool r)) [] := by
  have hG := tab_ok
  have hm := mixed
  refine ACalls.of_AR (G := tab) rule_Table_F (fn := Try.f26) Try.func26 (by kernel_rfl) (by kernel_rfl) (by kernel_rfl) (Nat.le_of_ble_eq_true (by kernel_rfl)) ?_
  intro c0 hc0
  replace hc0 : c0.m.length = 0 := hc0
  rw [rule_Table_raw] at H
  refine AR.seg hG hm 6 [0, 5, 6, 7] (k' := [.code [1, 0, 1, 0], .blk 0, .code [1, 1]]) (t' := [(0, .sl 51 (List.map Rule.av list) f_list), (5, .sl 51 (List.map Rule.av list) f_list), (6, .sc (.int .i64 (((List.map Rule.av list).length : Nat) : Int))), (7, .sc (.int .i64 0))]) (h' := []) (by kernel_rfl) ?_
  rcases loopO_some H with ⟨v, hv, H⟩ | hv
  case inr =>
    refine AR.into (by kernel_rfl) ?_
    exact rule_Table_l0_walk list f_list _ c0 hc0 (.inr _) (fun _ e => by cases e) (fun _ e => (Sum.inr.inj e).symm) list 0 rfl hv
  refine AR.into (by kernel_rfl) ?_
  refine rule_Table_l0_walk list f_list r c0 hc0 (.inl v) (fun w e => ?_) (fun _ e => by cases e) list 0 rfl hv
  have e := Sum.inl.inj e
  subst e
  refine AR.seg hG hm 2 [2] (k' := [.code [1, 1, 1]]) (t' := [(2, .sc (.bool true))]) (h' := []) (by kernel_rfl) ?_
  obtain rfl := Option.some.inj H
  exact AR.ret0 (fn := Try.f26) hG Try.func26 (by kernel_rfl) hc0 (r0 := .sc (.bool true)) (by kernel_rfl) (WkV.refl _)

def tableF : Option Rule → List Rule → Bool
  | _, [] => true
  | p, x :: l => rule_Sound x && (match p with | some y => rule_Before y x | none => true) && tableF (some x) l
def befO (p : Option Rule) (x : Rule) : Bool := match p with | some y => rule_Before y x | none => true
theorem tableF_cons (p : Option Rule) (x : Rule) (l : List Rule) : tableF p (x :: l) = (rule_Sound x && befO p x && tableF (some x) l) := by cases p <;> rfl
def tableR (l : List Rule) : Bool := tableF none l
theorem rule_Table_l0s_eq (all : List Rule) (hall : all.length ≤ 1000000000000000) : ∀ (l : List Rule) (i : Nat), all.drop i = l → rule_Table_l0s all l i = some (if tableF (if i = 0 then none else all[i - 1]?) l then .inl () else .inr false)
  | [], i, _ => by rw [rule_Table_l0s, tableF]; rfl
  | x :: l, i, h => by
      have hlt : i < all.length := by
        rcases Nat.lt_or_ge i all.length with q | q
        · exact q
        · rw [List.drop_eq_nil_of_le q] at h; cases h
      rw [List.drop_eq_getElem_cons hlt] at h
      injection h with h1 h2
      have ih : rule_Table_l0s all l (i + 1) = some (if tableF (some x) l then .inl () else .inr false) := by
        have q := rule_Table_l0s_eq all hall l (i + 1) h2
        have e : (if i + 1 = 0 then (none : Option Rule) else all[i + 1 - 1]?) = some x := by rw [if_neg (by omega), Nat.add_sub_cancel, List.getElem?_eq_getElem hlt, h1]
        rw [e] at q
        exact q
      rw [rule_Table_l0s, tableF_cons]
      cases hs : rule_Sound x
      · rfl
      · simp only [Bool.not_true, cond_false, Bool.true_and]
        by_cases hi : i = 0
        · subst hi
          rw [decide_eq_false (by omega), cond_false, ih, if_pos rfl]
          rfl
        · rw [decide_eq_true (by omega), cond_true, if_neg hi, wrap_eq (by omega) (by omega)]
          have e : ((i : Nat) : Int) - 1 = ((i - 1 : Nat) : Int) := by omega
          rw [e, ixO_lt (show i - 1 < all.length by omega), Option.bind_some, List.getElem?_eq_getElem (by omega), ih]
          show (bif !(rule_Before all[i - 1] x) then _ else _) = some (if (rule_Before all[i - 1] x && _) = true then _ else _)
          cases rule_Before all[i - 1] x <;> rfl
theorem rule_Table_ok (l : List Rule) (f : Bool) : ACalls Try.prog tab.S 26 [.sl 51 (List.map Rule.av l) f] [] (.sc (.bool (tableR l))) [] := by
  refine ACalls.facts (ent_of Try.func26 (by kernel_rfl) (by kernel_rfl)) fun hf => ?_
  have l0 : l.length * 272 ≤ 140737488355328 := by have h := hf.1.1; rw [List.length_map] at h; exact h
  refine rule_Table_walk l f _ ?_
  rw [rule_Table_raw, rule_Table_l0s_eq l (by omega) l 0 rfl, if_pos rfl]
  unfold tableR
  cases tableF none l <;> rfl

end Go.Proofs.Ytlfiemphadkimaa

set_option linter.unusedVariables false
set_option linter.unusedSimpArgs false
set_option maxRecDepth 100000
set_option maxHeartbeats 4000000
namespace Go.Proofs.Ytlfiemphadkimaa
open Go.Sh
/-! ### A comparison that orders -/
structure Good {α : Type} (c : α → α → Int) : Prop where
  eq : ∀ a b, c a b = 0 ↔ a = b
  anti : ∀ a b, 0 < c b a ↔ c a b < 0
  trans : ∀ a b d, c a b < 0 → c b d < 0 → c a d < 0
theorem good_u64 : Good cmp_Compare_uint64 := by
  have e : ∀ x y, cmp_Compare_uint64 x y = if x < y then -1 else if x > y then 1 else 0 := by
    intro x y
    have h : ∀ z, cmp_isNaN_uint64 z = false := fun z => by simp [cmp_isNaN_uint64]
    rw [cmp_Compare_uint64, h, h]
    by_cases h1 : x < y
    · simp [h1]
    · by_cases h2 : x > y
      · simp [h1, h2]
      · simp [h1, h2]
  refine ⟨fun a b => ?_, fun a b => ?_, fun a b d => ?_⟩
  · rw [e]; split
    · constructor <;> intro <;> omega
    · split <;> constructor <;> intro <;> omega
  · rw [e, e]
    (repeat' split) <;> constructor <;> intro <;> omega
  · rw [e, e, e]
    (repeat' split) <;> intro <;> intro <;> omega
theorem cmpL_cons {α : Type} (c : α → α → Int) (x y : α) (l r : List α) : cmpL c (x :: l) (y :: r) = if c x y = 0 then cmpL c l r else c x y := by
  rw [cmpL]
  by_cases h : c x y = 0
  · rw [if_pos h, h]; rfl
  · have : (c x y != 0) = true := by simp [h]
    rw [if_neg h, this]; rfl
theorem good_list {α : Type} {c : α → α → Int} (g : Good c) : Good (cmpL c) := by
  have eq : ∀ a b, cmpL c a b = 0 ↔ a = b := by
    intro a
    induction a with
    | nil => intro b; cases b <;> simp [cmpL]
    | cons x l ih =>
      intro b
      cases b with
      | nil => simp [cmpL]
      | cons y r =>
        rw [cmpL_cons, List.cons.injEq, ← g.eq x y, ← ih r]
        split
        · rename_i h; simp [h]
        · rename_i h; simp [h]
  have anti : ∀ a b, 0 < cmpL c b a ↔ cmpL c a b < 0 := by
    intro a
    induction a with
    | nil => intro b; cases b <;> simp [cmpL]
    | cons x l ih =>
      intro b
      cases b with
      | nil => simp [cmpL]
      | cons y r =>
        rw [cmpL_cons, cmpL_cons]
        have h1 := g.anti x y
        have h2 := g.anti y x
        have h3 := ih r
        by_cases h : c x y = 0
        · have h' : c y x = 0 := by omega
          rw [if_pos h, if_pos h']; exact h3
        · have h' : c y x ≠ 0 := by omega
          rw [if_neg h, if_neg h']; exact h1
  refine ⟨eq, anti, ?_⟩
  intro a
  induction a with
  | nil =>
    intro b d h1 h2
    cases d with
    | nil =>
      cases b with
      | nil => simp [cmpL] at h1
      | cons y r => simp [cmpL] at h2
    | cons z s => simp [cmpL]
  | cons x l ih =>
    intro b d h1 h2
    cases b with
    | nil => simp [cmpL] at h1
    | cons y r =>
      cases d with
      | nil => simp [cmpL] at h2
      | cons z s =>
        rw [cmpL_cons] at h1 h2 ⊢
        by_cases e1 : c x y = 0
        · rw [if_pos e1] at h1
          have hxy := (g.eq x y).1 e1
          subst hxy
          by_cases e2 : c x z = 0
          · rw [if_pos e2] at h2 ⊢
            exact ih r s h1 h2
          · rw [if_neg e2] at h2 ⊢
            exact h2
        · rw [if_neg e1] at h1
          by_cases e2 : c y z = 0
          · have hyz := (g.eq y z).1 e2
            subst hyz
            rw [if_neg e1]; exact h1
          · rw [if_neg e2] at h2
            have h3 := g.trans x y z h1 h2
            rw [if_neg (by omega)]; exact h3
theorem good_pair {α β : Type} {c : α → α → Int} {d : β → β → Int} (g : Good c) (k : Good d) : Good (fun (a b : α × β) => if c a.1 b.1 = 0 then d a.2 b.2 else c a.1 b.1) := by
  refine ⟨fun a b => ?_, fun a b => ?_, fun a b e h1 h2 => ?_⟩
  · obtain ⟨a1, a2⟩ := a
    obtain ⟨b1, b2⟩ := b
    rw [Prod.mk.injEq, ← g.eq a1 b1, ← k.eq a2 b2]
    split
    · rename_i h; simp [h]
    · rename_i h; simp [h]
  · have h1 := g.anti a.1 b.1
    have h2 := g.anti b.1 a.1
    have h3 := k.anti a.2 b.2
    by_cases h : c a.1 b.1 = 0
    · rw [if_pos h, if_pos (by omega)]; exact h3
    · rw [if_neg h, if_neg (by omega)]; exact h1
  · by_cases e1 : c a.1 b.1 = 0
    · rw [if_pos e1] at h1
      rw [(g.eq _ _).1 e1]
      by_cases e2 : c b.1 e.1 = 0
      · rw [if_pos e2] at h2 ⊢; exact k.trans _ _ _ h1 h2
      · rw [if_neg e2] at h2 ⊢; exact h2
    · rw [if_neg e1] at h1
      by_cases e2 : c b.1 e.1 = 0
      · rw [← (g.eq _ _).1 e2, if_neg e1]; exact h1
      · rw [if_neg e2] at h2
        have h3 := g.trans _ _ _ h1 h2
        rw [if_neg (by omega)]; exact h3
def downI (a b : Int) : Int := if a = b then 0 else if a > b then -1 else 1
theorem good_down : Good downI := by
  refine ⟨fun a b => ?_, fun a b => ?_, fun a b d => ?_⟩ <;> unfold downI <;> (repeat' split) <;> first | (constructor <;> intro <;> omega) | (intro _ _; omega)
def keyC (a b : Int × List Int × List Int) : Int := if downI a.1 b.1 = 0 then (if cmpL cmp_Compare_uint64 a.2.1 b.2.1 = 0 then cmpL cmp_Compare_uint64 a.2.2 b.2.2 else cmpL cmp_Compare_uint64 a.2.1 b.2.1) else downI a.1 b.1
theorem good_key : Good keyC := good_pair good_down (good_pair (good_list good_u64) (good_list good_u64))
def Rule.key (r : Rule) : Int × List Int × List Int := (r.Prio, r.Match.Care, r.Match.Value)
theorem head_Compare_eq (a b : List Int) : head_Compare a b = cmpL cmp_Compare_uint64 a b := rfl
theorem cmp_Or_two (a b : Int) : cmp_Or_int [a, b] = if a = 0 then b else a := by
  rw [cmp_Or_int, cmp_Or_int_l0s, cmp_Or_int_l0s, cmp_Or_int_l0s]
  by_cases h : a = 0
  · subst h
    by_cases k : b = 0
    · subst k; rfl
    · have : (b != 0) = true := by simp [k]
      rw [if_pos rfl, this]; rfl
  · have : (a != 0) = true := by simp [h]
    rw [if_neg h, this]; rfl
theorem compare_key (a b : Rule) : rule_compare a b = keyC a.key b.key := by
  rw [rule_compare, cube_Compare, cmp_Or_two, head_Compare_eq, head_Compare_eq]
  unfold keyC Rule.key downI
  by_cases h : a.Prio = b.Prio
  · simp [h]
  · by_cases k : a.Prio > b.Prio
    · have k' : b.Prio < a.Prio := k
      have hb : (a.Prio != b.Prio) = true := by simp [h]
      rw [hb]; simp [h, k']
    · have k' : ¬ b.Prio < a.Prio := k
      have hb : (a.Prio != b.Prio) = true := by simp [h]
      rw [hb]; simp [h, k']
theorem Key_key (a b : Rule) : rule_Key a b = decide (a.key = b.key) := by
  rw [rule_Key]
  unfold Rule.key
  rw [Bool.eq_iff_iff]
  simp only [Bool.and_eq_true, beq_iff_eq, decide_eq_true_eq, Prod.mk.injEq]
  constructor
  · rintro ⟨⟨h1, h2⟩, h3⟩; exact ⟨h3, h2, h1⟩
  · rintro ⟨h1, h2, h3⟩; exact ⟨⟨h3, h2⟩, h1⟩
theorem Before_key (a b : Rule) : rule_Before a b = decide (keyC a.key b.key < 0) := by rw [rule_Before, compare_key]

end Go.Proofs.Ytlfiemphadkimaa

set_option linter.unusedVariables false
set_option linter.unusedSimpArgs false
set_option maxRecDepth 100000
set_option maxHeartbeats 4000000
namespace Go.Proofs.Ytlfiemphadkimaa
open Go.Sh
/-! ### Tables: strictly in order, one rule for a key -/
abbrev Key3 := Int × List Int × List Int
def RLt (a b : Rule) : Prop := keyC a.key b.key < 0
theorem RLt.trans {a b c : Rule} (h : RLt a b) (k : RLt b c) : RLt a c := good_key.trans _ _ _ h k
theorem RLt.irr (a b : Rule) (h : a.key = b.key) : ¬ RLt a b := by
  intro k
  have := (good_key.eq a.key b.key).2 h
  unfold RLt at k
  omega
theorem RLt.asymm {a b : Rule} (h : RLt a b) : ¬ RLt b a := fun k => RLt.irr a a rfl (h.trans k)
def Srt (l : List Rule) : Prop := l.Pairwise RLt
def look (l : List Rule) (k : Key3) : Option Rule := l.find? (fun r => decide (r.key = k))
theorem look_cons (x : Rule) (l : List Rule) (k : Key3) : look (x :: l) k = if x.key = k then some x else look l k := by
  unfold look
  rw [List.find?_cons]
  by_cases h : x.key = k
  · simp [h]
  · simp [h]
theorem look_append (a b : List Rule) (k : Key3) : look (a ++ b) k = (look a k).or (look b k) := by
  unfold look
  rw [List.find?_append]
theorem look_none {l : List Rule} {k : Key3} (h : ∀ y ∈ l, y.key ≠ k) : look l k = none := by
  unfold look
  rw [List.find?_eq_none]
  intro y hy
  simp [h y hy]
theorem bsF_spec (c : Nat → Bool) (hm : ∀ i j, i ≤ j → c j = true → c i = true) : ∀ (m i j : Nat), i ≤ j → j - i < m → (∀ k, k < i → c k = true) → (∀ k, j ≤ k → c k = false) → (∀ k, k < bsF c m i j → c k = true) ∧ ∀ k, bsF c m i j ≤ k → c k = false
  | 0, i, j, _, h, _, _ => absurd h (by omega)
  | m + 1, i, j, h1, h2, h3, h4 => by
      rw [bsF]
      by_cases hij : i < j
      · rw [if_pos hij]
        cases hc : c ((i + j) / 2)
        · simp only [Bool.false_eq_true, if_false]
          refine bsF_spec c hm m i ((i + j) / 2) (by omega) (by omega) h3 (fun k hk => ?_)
          cases hk2 : c k with
          | false => rfl
          | true => rw [hm _ _ hk hk2] at hc; cases hc
        · simp only [if_true]
          exact bsF_spec c hm m ((i + j) / 2 + 1) j (by omega) (by omega) (fun k hk => hm k ((i + j) / 2) (by omega) hc) h4
      · rw [if_neg hij]
        exact ⟨h3, fun k hk => h4 k (by omega)⟩
theorem srt_get {l : List Rule} (h : Srt l) {i j : Nat} (hij : i < j) (hj : j < l.length) : RLt (l[i]'(by omega)) l[j] := List.pairwise_iff_getElem.1 h i j (by omega) hj hij
theorem bsN_spec {out : List Rule} (h : Srt out) (x : Rule) : (∀ k (hk : k < out.length), k < bsN out x rule_compare → RLt out[k] x) ∧ ∀ k (hk : k < out.length), bsN out x rule_compare ≤ k → ¬ RLt out[k] x := by
  have hl : ∀ k (hk : k < out.length), lowAt out x rule_compare k = true ↔ RLt out[k] x := by
    intro k hk
    unfold lowAt RLt
    rw [List.getElem?_eq_getElem hk]
    simp only [decide_eq_true_eq, compare_key]
  have hl2 : ∀ k, out.length ≤ k → lowAt out x rule_compare k = false := by
    intro k hk
    unfold lowAt
    rw [List.getElem?_eq_none hk]
  have hm : ∀ i j, i ≤ j → lowAt out x rule_compare j = true → lowAt out x rule_compare i = true := by
    intro i j hij hj
    have hjl : j < out.length := by
      by_cases q : j < out.length
      · exact q
      · rw [hl2 j (by omega)] at hj; cases hj
    rcases Nat.lt_or_ge i j with q | q
    · exact (hl i (by omega)).2 ((srt_get h q hjl).trans ((hl j hjl).1 hj))
    · have : i = j := by omega
      subst this; exact hj
  obtain ⟨s1, s2⟩ := bsF_spec (lowAt out x rule_compare) hm (out.length + 1) 0 out.length (by omega) (by omega) (by omega) hl2
  refine ⟨fun k hk hlt => (hl k hk).1 (s1 k hlt), fun k hk hge hlt => ?_⟩
  have := s2 k hge
  rw [(hl k hk).2 hlt] at this
  cases this
theorem not_lt {a b : Rule} (h : ¬ RLt a b) : a.key = b.key ∨ RLt b a := by
  unfold RLt at *
  rcases Int.lt_trichotomy (keyC a.key b.key) 0 with q | q | q
  · exact absurd q h
  · exact .inl ((good_key.eq _ _).1 q)
  · exact .inr ((good_key.anti _ _).1 q)
theorem putR_split {out : List Rule} (h : Srt out) {x : Rule} (hs : rule_Sound x = true) : ∃ A mid B, out = A ++ (mid ++ B) ∧ putR out x = A ++ x :: B ∧ (∀ a ∈ A, RLt a x) ∧ (∀ b ∈ B, RLt x b) ∧ ∀ y ∈ mid, y.key = x.key := by
  obtain ⟨s1, s2⟩ := bsN_spec h x
  have hle := bsN_le out x rule_compare
  generalize hn : bsN out x rule_compare = n at s1 s2 hle
  have hA : ∀ a ∈ out.take n, RLt a x := by
    intro a ha
    obtain ⟨k, hk, rfl⟩ := List.getElem_of_mem ha
    rw [List.getElem_take]
    rw [List.length_take] at hk
    exact s1 k (by omega) (by omega)
  unfold putR
  rw [hs, hn]
  simp only [Bool.not_true, cond_false]
  have hb2 : (bsR out x rule_compare).2 = match out[n]? with | some y => rule_compare y x == 0 | none => false := by
    subst hn
    unfold bsR
    cases out[bsN out x rule_compare]? <;> rfl
  cases hb : (bsR out x rule_compare).2
  · refine ⟨out.take n, [], out.drop n, by simp, rfl, hA, ?_, by simp⟩
    intro b hbm
    obtain ⟨k, hk, rfl⟩ := List.getElem_of_mem hbm
    rw [List.length_drop] at hk
    rw [List.getElem_drop]
    have hlt : n < out.length := by omega
    have h0 : RLt x out[n] := by
      rw [hb2, List.getElem?_eq_getElem hlt] at hb
      rcases not_lt (s2 n hlt (by omega)) with q | q
      · have := (good_key.eq _ _).2 q
        rw [← compare_key] at this
        simp [this] at hb
      · exact q
    rcases Nat.eq_zero_or_pos k with q | q
    · subst q; exact h0
    · exact h0.trans (srt_get h (by omega) (by omega))
  · have hlt : n < out.length := by have := bsR_lt hb; omega
    refine ⟨out.take n, [out[n]], out.drop (n + 1), ?_, ?_, hA, ?_, ?_⟩
    · rw [List.singleton_append, ← List.drop_eq_getElem_cons hlt, List.take_append_drop]
    · rw [cond_true, List.set_eq_take_append_cons_drop, if_pos hlt]
    · intro b hbm
      obtain ⟨k, hk, rfl⟩ := List.getElem_of_mem hbm
      rw [List.length_drop] at hk
      rw [List.getElem_drop]
      rw [hb2, List.getElem?_eq_getElem hlt] at hb
      have h0 : keyC out[n].key x.key = 0 := by rw [← compare_key]; simpa using hb
      have h1 := srt_get h (show n < n + 1 + k by omega) (by omega)
      have h2 := (good_key.eq _ _).1 h0
      unfold RLt at *
      rw [← h2]; exact h1
    · intro y hy
      rw [List.mem_singleton] at hy
      subst hy
      rw [hb2, List.getElem?_eq_getElem hlt] at hb
      exact (good_key.eq _ _).1 (by rw [← compare_key]; simpa using hb)
theorem putR_not {out : List Rule} {x : Rule} (hs : rule_Sound x = false) : putR out x = out := by
  unfold putR
  rw [hs]
  rfl
theorem putR_srt {out : List Rule} (h : Srt out) (x : Rule) : Srt (putR out x) := by
  cases hs : rule_Sound x
  · rw [putR_not hs]; exact h
  · obtain ⟨A, mid, B, e1, e2, e3, e4, _⟩ := putR_split h hs
    rw [e2]
    subst e1
    obtain ⟨p1, p2, p3⟩ := List.pairwise_append.1 h
    obtain ⟨p4, p5, p6⟩ := List.pairwise_append.1 p2
    refine List.pairwise_append.2 ⟨p1, List.pairwise_cons.2 ⟨e4, p5⟩, fun a ha b hb => ?_⟩
    rcases List.mem_cons.1 hb with rfl | hb
    · exact e3 a ha
    · exact (e3 a ha).trans (e4 b hb)
theorem putR_look {out : List Rule} (h : Srt out) (x : Rule) (k : Key3) : look (putR out x) k = if rule_Sound x = true ∧ x.key = k then some x else look out k := by
  cases hs : rule_Sound x
  · rw [putR_not hs, if_neg (by simp)]
  · obtain ⟨A, mid, B, e1, e2, e3, e4, e5⟩ := putR_split h hs
    rw [e2, e1, look_append, look_append, look_append, look_cons]
    by_cases hk : x.key = k
    · rw [if_pos hk, if_pos ⟨rfl, hk⟩, look_none (l := A) (fun y hy e => RLt.irr y x (e.trans hk.symm) (e3 y hy))]
      rfl
    · rw [if_neg hk, if_neg (fun q => hk q.2), look_none (l := mid) (fun y hy e => hk ((e5 y hy).symm.trans e))]
      rfl
theorem putR_mem {out : List Rule} (h : Srt out) {x y : Rule} (hy : y ∈ putR out x) : y ∈ out ∨ (y = x ∧ rule_Sound x = true) := by
  cases hs : rule_Sound x
  · rw [putR_not hs] at hy; exact .inl hy
  · obtain ⟨A, mid, B, e1, e2, _⟩ := putR_split h hs
    rw [e2] at hy
    rw [e1]
    rcases List.mem_append.1 hy with q | q
    · exact .inl (by simp [q])
    · rcases List.mem_cons.1 q with q | q
      · exact .inr ⟨q, rfl⟩
      · exact .inl (by simp [q])
def last (l : List Rule) (k : Key3) : Option Rule := l.foldl (fun acc x => if rule_Sound x = true ∧ x.key = k then some x else acc) none
theorem last_init (l : List Rule) (k : Key3) : ∀ acc : Option Rule, l.foldl (fun acc x => if rule_Sound x = true ∧ x.key = k then some x else acc) acc = (last l k).or acc := by
  unfold last
  induction l with
  | nil => intro acc; simp
  | cons x l ih =>
    intro acc
    rw [List.foldl_cons, List.foldl_cons, ih, ih (if rule_Sound x = true ∧ x.key = k then some x else none)]
    by_cases q : rule_Sound x = true ∧ x.key = k
    · rw [if_pos q, if_pos q]
      cases List.foldl (fun acc x => if rule_Sound x = true ∧ x.key = k then some x else acc) none l <;> rfl
    · rw [if_neg q, if_neg q]
      cases List.foldl (fun acc x => if rule_Sound x = true ∧ x.key = k then some x else acc) none l <;> rfl
theorem last_append (a b : List Rule) (k : Key3) : last (a ++ b) k = (last b k).or (last a k) := by
  unfold last
  rw [List.foldl_append, last_init b]
  rfl
theorem last_cons (x : Rule) (l : List Rule) (k : Key3) : last (x :: l) k = (last l k).or (if rule_Sound x = true ∧ x.key = k then some x else none) := by
  unfold last
  rw [List.foldl_cons, last_init l]
  rfl
theorem fold_srt : ∀ (l out : List Rule), Srt out → Srt (l.foldl putR out)
  | [], out, h => h
  | x :: l, out, h => fold_srt l (putR out x) (putR_srt h x)
theorem fold_look (k : Key3) : ∀ (l out : List Rule), Srt out → look (l.foldl putR out) k = (last l k).or (look out k)
  | [], out, h => rfl
  | x :: l, out, h => by
      rw [List.foldl_cons, fold_look k l _ (putR_srt h x), putR_look h, last_cons]
      by_cases q : rule_Sound x = true ∧ x.key = k
      · rw [if_pos q, if_pos q]; cases last l k <;> rfl
      · rw [if_neg q, if_neg q]; cases last l k <;> rfl
theorem fold_sound : ∀ (l out : List Rule), Srt out → (∀ y ∈ out, rule_Sound y = true) → ∀ y ∈ l.foldl putR out, rule_Sound y = true
  | [], out, _, h => h
  | x :: l, out, hs, h => fold_sound l (putR out x) (putR_srt hs x) (fun y hy => by
      rcases putR_mem hs hy with q | ⟨q, q2⟩
      · exact h y q
      · rw [q]; exact q2)
theorem fold_len : ∀ (l out : List Rule), (l.foldl putR out).length ≤ out.length + l.length
  | [], out => by simp
  | x :: l, out => by
      have h1 := fold_len l (putR out x)
      have h2 := putR_len out x
      rw [List.foldl_cons, List.length_cons]
      omega
theorem sortR_srt (l : List Rule) : Srt (sortR l) := fold_srt l [] List.Pairwise.nil
theorem sortR_sound (l : List Rule) : ∀ y ∈ sortR l, rule_Sound y = true := fold_sound l [] List.Pairwise.nil (by simp)
theorem sortR_look (l : List Rule) (k : Key3) : look (sortR l) k = last l k := by
  unfold sortR
  rw [fold_look k l [] List.Pairwise.nil]
  show (last l k).or none = last l k
  cases last l k <;> rfl
theorem sortR_len (l : List Rule) : (sortR l).length ≤ l.length := by
  have := fold_len l []
  unfold sortR
  simpa using this
theorem last_look : ∀ (l : List Rule), Srt l → (∀ y ∈ l, rule_Sound y = true) → ∀ k, last l k = look l k
  | [], _, _, k => rfl
  | x :: l, h, hs, k => by
      obtain ⟨h1, h2⟩ := List.pairwise_cons.1 h
      rw [last_cons, look_cons, last_look l h2 (fun y hy => hs y (by simp [hy])) k]
      by_cases q : x.key = k
      · rw [if_pos ⟨hs x (by simp), q⟩, if_pos q, look_none (fun y hy e => RLt.irr x y (q.trans e.symm) (h1 y hy))]
        rfl
      · rw [if_neg (fun z => q z.2), if_neg q]
        cases look l k <;> rfl
theorem look_mem {l : List Rule} {k : Key3} {x : Rule} (h : look l k = some x) : x ∈ l := List.mem_of_find?_eq_some h
theorem srt_uniq : ∀ (l r : List Rule), Srt l → Srt r → (∀ k, look l k = look r k) → l = r
  | [], [], _, _, _ => rfl
  | [], y :: r, _, _, h => by
      have := h y.key
      rw [look_cons, if_pos rfl] at this
      cases this
  | x :: l, [], _, _, h => by
      have := h x.key
      rw [look_cons, if_pos rfl] at this
      cases this
  | x :: l, y :: r, hl, hr, h => by
      obtain ⟨l1, l2⟩ := List.pairwise_cons.1 hl
      obtain ⟨r1, r2⟩ := List.pairwise_cons.1 hr
      have hx : x ∈ y :: r := look_mem (k := x.key) (by rw [← h x.key, look_cons, if_pos rfl])
      have hy : y ∈ x :: l := look_mem (k := y.key) (by rw [h y.key, look_cons, if_pos rfl])
      have hxy : x = y := by
        rcases List.mem_cons.1 hx with q | q
        · exact q
        · rcases List.mem_cons.1 hy with q2 | q2
          · exact q2.symm
          · exact absurd (l1 y q2) (RLt.asymm (r1 x q))
      subst hxy
      rw [srt_uniq l r l2 r2 (fun k => ?_)]
      by_cases q : x.key = k
      · rw [look_none (fun y hy e => RLt.irr x y (q.trans e.symm) (l1 y hy)), look_none (fun y hy e => RLt.irr x y (q.trans e.symm) (r1 y hy))]
      · have := h k
        rw [look_cons, look_cons, if_neg q, if_neg q] at this
        exact this
theorem sortR_self {l : List Rule} (h : Srt l) (hs : ∀ y ∈ l, rule_Sound y = true) : sortR l = l :=
  srt_uniq _ _ (sortR_srt l) h (fun k => by rw [sortR_look, last_look l h hs])
theorem sortR_joins (a b : List Rule) : sortR (a ++ b) = sortR (sortR a ++ sortR b) :=
  srt_uniq _ _ (sortR_srt _) (sortR_srt _) (fun k => by
    rw [sortR_look, sortR_look, last_append, last_append, last_look _ (sortR_srt a) (sortR_sound a), last_look _ (sortR_srt b) (sortR_sound b), sortR_look, sortR_look])

end Go.Proofs.Ytlfiemphadkimaa

set_option linter.unusedVariables false
set_option linter.unusedSimpArgs false
set_option maxRecDepth 100000
set_option maxHeartbeats 4000000
namespace Go.Proofs.Ytlfiemphadkimaa
open Go.Sh
theorem befO_iff (p : Option Rule) (x : Rule) : befO p x = true ↔ ∀ q, p = some q → RLt q x := by
  cases p with
  | none => simp [befO]
  | some q => simp [befO, Before_key, RLt]
theorem tableF_spec : ∀ (l : List Rule) (p : Option Rule), tableF p l = true ↔ (∀ y ∈ l, rule_Sound y = true) ∧ Srt l ∧ ∀ q, p = some q → ∀ y ∈ l, RLt q y
  | [], p => by
      rw [tableF]
      exact ⟨fun _ => ⟨by simp, List.Pairwise.nil, by simp⟩, fun _ => rfl⟩
  | x :: l, p => by
      rw [tableF_cons, Bool.and_eq_true, Bool.and_eq_true, tableF_spec l (some x), befO_iff]
      constructor
      · rintro ⟨⟨h1, h2⟩, h3, h4, h5⟩
        refine ⟨?_, List.pairwise_cons.2 ⟨h5 x rfl, h4⟩, ?_⟩
        · intro y hy
          rcases List.mem_cons.1 hy with rfl | hy
          · exact h1
          · exact h3 y hy
        · intro q hq y hy
          rcases List.mem_cons.1 hy with rfl | hy
          · exact h2 q hq
          · exact (h2 q hq).trans (h5 x rfl y hy)
      · rintro ⟨h1, h2, h3⟩
        obtain ⟨h4, h5⟩ := List.pairwise_cons.1 h2
        exact ⟨⟨h1 x (by simp), fun q hq => h3 q hq x (by simp)⟩, fun y hy => h1 y (by simp [hy]), h5, fun q hq y hy => by
          injection hq with hq
          subst hq
          exact h4 y hy⟩
theorem tableR_iff (l : List Rule) : tableR l = true ↔ (∀ y ∈ l, rule_Sound y = true) ∧ Srt l := by
  unfold tableR
  rw [tableF_spec]
  simp
theorem tableR_sort (l : List Rule) : tableR (sortR l) = true := (tableR_iff _).2 ⟨sortR_sound l, sortR_srt l⟩
theorem sort_again (l : List Rule) (r : Rule) : sortR (sortR (l ++ [r]) ++ [r]) = sortR (l ++ [r]) :=
  srt_uniq _ _ (sortR_srt _) (sortR_srt _) (fun k => by
    rw [sortR_look, sortR_look, last_append, last_look _ (sortR_srt _) (sortR_sound _), sortR_look, last_append]
    cases last [r] k <;> rfl)

/-! ### mods.span: function 53 -/
noncomputable def mods_span_F : Go.Sh.Fn := ⟨53, bodyOf Try.f53, 12⟩
def mods_span_k0 : List Kd := [.pure, .pure, .pure, .pure, .pure, .pure, .pure, .pure]
def mods_span (n : Int) (most : Int) : Bool :=
  ((decide (n ≥ 0)) && (decide (n ≤ most)))
theorem mods_span_walk (n : Int) (most : Int) (r : Bool) (H : mods_span n most = r) :
    ACalls Try.prog tab.S 53 [.sc (.int .i64 n), .sc (.int .i64 most)] [] (.sc (.bool r)) [] := by
  have hG := tab_ok
  have hm := mixed
  refine ACalls.of_AR (G := tab) mods_span_F (fn := Try.f53) Try.func53 (by kernel_rfl) (by kernel_rfl) (by kernel_rfl) (Nat.le_of_ble_eq_true (by kernel_rfl)) ?_
  intro c0 hc0
  replace hc0 : c0.m.length = 0 := hc0
  rw [mods_span] at H
  refine AR.seg hG hm 3 [0, 1] (k' := [.code [1, 0], .code [1, 1]]) (t' := [(0, .sc (.int .i64 n)), (1, .sc (.int .i64 most))]) (h' := []) (by kernel_rfl) ?_
  refine AR.reg hm mods_span_k0 (by kernel_rfl) ?_
  refine DK.seg hG 3 [0, 1, 7] (t' := [(0, .sc (.int .i64 n)), (1, .sc (.int .i64 most)), (7, .sc (.bool (decide (n ≥ 0))))]) (h' := []) (by kernel_rfl) rfl ?_
  refine DK.mux 7 (decide (n ≥ 0)) (j := 7) (h' := []) (by kernel_rfl) (fun z => [(11, .sc (.bool (z && (decide (n ≤ most)))))]) ?J1 (fun hb J => ?ht1) (fun hb J => ?hf1)
  case ht1 =>
    exact DK.seg hG 4 [11] (by kernel_rfl) rfl J
  case hf1 =>
    exact DK.seg hG 4 [11] (by kernel_rfl) rfl J
  refine DK.seg hG 1 [4] (t' := [(4, .sc (.bool ((decide (n ≥ 0)) && (decide (n ≤ most)))))]) (h' := []) (by kernel_rfl) rfl ?_
  refine DK.done (by kernel_rfl) (by kernel_rfl) ?_
  subst H
  exact AR.ret0 (fn := Try.f53) hG Try.func53 (by kernel_rfl) hc0 (r0 := .sc (.bool ((decide (n ≥ 0)) && (decide (n ≤ most))))) (by kernel_rfl) (WkV.refl _)
theorem mods_span_calls (n : Int) (most : Int) : ACalls Try.prog tab.S 53 [.sc (.int .i64 n), .sc (.int .i64 most)] [] (.sc (.bool (mods_span n most))) [] := mods_span_walk n most _ rfl

/-! ### mods.plain: function 54 -/
noncomputable def mods_plain_F : Go.Sh.Fn := ⟨54, bodyOf Try.f54, 16⟩
def mods_plain_k0 : List Kd := [.pure, .read, .pure, .pure, .pure, .read, .pure, .pure, .pure, .pure, .read, .pure, .pure, .pure]
def mods_plain (m1 : Mod) : Bool :=
  (((m1.Idle == 0) && (m1.Hard == 0)) && (!m1.Check))
theorem mods_plain_walk (m1 : Mod) (r : Bool) (H : mods_plain m1 = r) :
    ACalls Try.prog tab.S 54 [Mod.av m1] [] (.sc (.bool r)) [] := by
  have hG := tab_ok
  have hm := mixed
  refine ACalls.of_AR (G := tab) mods_plain_F (fn := Try.f54) Try.func54 (by kernel_rfl) (by kernel_rfl) (by kernel_rfl) (Nat.le_of_ble_eq_true (by kernel_rfl)) ?_
  intro c0 hc0
  replace hc0 : c0.m.length = 0 := hc0
  rw [mods_plain] at H
  refine AR.seg hG hm 3 [1] (k' := [.code [1, 0], .code [1, 1]]) (t' := [(1, .ptr 0 0 none)]) (h' := [.box 33 (Mod.ch m1)]) (by kernel_rfl) ?_
  refine AR.reg hm mods_plain_k0 (by kernel_rfl) ?_
  refine DK.seg hG 4 [1, 6] (t' := [(1, .ptr 0 0 none), (6, .sc (.bool (m1.Idle == 0)))]) (h' := [.box 33 (Mod.ch m1)]) (by kernel_rfl) rfl ?_
  refine DK.mux 6 (m1.Idle == 0) (j := 8) (h' := [.box 33 (Mod.ch m1)]) (by kernel_rfl) (fun z => [(1, .ptr 0 0 none), (10, .sc (.bool (z && (m1.Hard == 0))))]) ?J1 (fun hb J => ?ht1) (fun hb J => ?hf1)
  case ht1 =>
    exact DK.seg hG 4 [1, 10] (by kernel_rfl) rfl J
  case hf1 =>
    exact DK.seg hG 4 [1, 10] (by kernel_rfl) rfl J
  refine DK.seg hG 1 [1, 11] (t' := [(1, .ptr 0 0 none), (11, .sc (.bool ((m1.Idle == 0) && (m1.Hard == 0))))]) (h' := [.box 33 (Mod.ch m1)]) (by kernel_rfl) rfl ?_
  refine DK.mux 11 ((m1.Idle == 0) && (m1.Hard == 0)) (j := 13) (h' := [.box 33 (Mod.ch m1)]) (by kernel_rfl) (fun z => [(15, .sc (.bool (z && (!m1.Check))))]) ?J2 (fun hb J => ?ht2) (fun hb J => ?hf2)
  case ht2 =>
    exact DK.seg hG 4 [15] (by kernel_rfl) rfl J
  case hf2 =>
    exact DK.seg hG 4 [15] (by kernel_rfl) rfl J
  refine DK.seg hG 1 [2] (t' := [(2, .sc (.bool (((m1.Idle == 0) && (m1.Hard == 0)) && (!m1.Check))))]) (h' := [.box 33 (Mod.ch m1)]) (by kernel_rfl) rfl ?_
  refine DK.done (by kernel_rfl) (by kernel_rfl) ?_
  subst H
  exact AR.ret0 (fn := Try.f54) hG Try.func54 (by kernel_rfl) hc0 (r0 := .sc (.bool (((m1.Idle == 0) && (m1.Hard == 0)) && (!m1.Check)))) (by kernel_rfl) (WkV.refl _)
theorem mods_plain_calls (m1 : Mod) : ACalls Try.prog tab.S 54 [Mod.av m1] [] (.sc (.bool (mods_plain m1))) [] := mods_plain_walk m1 _ rfl

/-! ### mods.Sound: function 30 -/
noncomputable def mods_Sound_F : Go.Sh.Fn := ⟨30, bodyOf Try.f30, 75⟩
def mods_Sound_k1 : List Kd := [.pure, .read, .pure, .pure, .pure, .read, .pure, .pure, .pure]
def mods_Sound_k2 : List Kd := [.read, .pure, .pure, .pure, .read, .pure, .pure, .pure]
def mods_Sound_k3 : List Kd := [.read, .pure, .pure, .pure, .read, .pure, .pure, .pure, .pure, .read, .pure, .pure, .pure, .pure]
def mods_Sound_k4 : List Kd := [.read, .pure, .pure]
def mods_Sound_k5 : List Kd := [.read, .pure, .pure, .pure, .read, .pure, .pure, .pure, .pure]
def mods_Sound_k0 : List Kd := [.pure, .read, .pure, .pure, .pure, .pure, .read, .pure, .pure, .pure, .pure, .pure, .read, .pure, .pure, .pure, .pure, .pure, .read, .pure, .pure, .pure]
def mods_Sound (m1 : Mod) : Bool :=
  (bif ((((!(cube_Sound m1.Match)) || (!(act_Sound m1.Acts))) || (!(mods_span m1.Prio 65535))) || (!(mods_span m1.Owner 255))) then
    false
  else
    (bif (m1.Kind == 1) then
      ((mods_span m1.Idle 1048576) && (mods_span m1.Hard 1048576))
    else
      (bif (m1.Kind == 2) then
        ((mods_plain m1) && (m1.Prio == 0))
      else
        (bif (m1.Kind == 3) then
          (((mods_plain m1) && (m1.Prio == 0)) && ((((List.map Act.av m1.Acts).length : Nat) : Int) == 0))
        else
          (bif (m1.Kind == 4) then
            (mods_plain m1)
          else
            (bif (m1.Kind == 5) then
              ((mods_plain m1) && ((((List.map Act.av m1.Acts).length : Nat) : Int) == 0))
            else
              false))))))
theorem mods_Sound_walk (m1 : Mod) (r : Bool) (H : mods_Sound m1 = r) :
    ACalls Try.prog tab.S 30 [Mod.av m1] [] (.sc (.bool r)) [] := by
  have hG := tab_ok
  have hm := mixed
  refine ACalls.of_AR (G := tab) mods_Sound_F (fn := Try.f30) Try.func30 (by kernel_rfl) (by kernel_rfl) (by kernel_rfl) (Nat.le_of_ble_eq_true (by kernel_rfl)) ?_
  intro c0 hc0
  replace hc0 : c0.m.length = 0 := hc0
  rw [mods_Sound] at H
  refine AR.seg hG hm 4 [1] (k' := [.code [1, 0, 0], .code [1, 0, 1], .code [1, 1]]) (t' := [(1, .ptr 0 0 none)]) (h' := [.box 33 (Mod.ch m1)]) (by kernel_rfl) ?_
  refine AR.reg hm mods_Sound_k0 (by kernel_rfl) ?_
  refine DK.seg hG 2 [1, 4] (t' := [(1, .ptr 0 0 none), (4, Cube.av m1.Match)]) (h' := [.box 33 (Mod.ch m1)]) (by kernel_rfl) rfl ?_
  refine DK.op' [1, 5] (t' := [(1, .ptr 0 0 none), (5, .sc (.bool (cube_Sound m1.Match)))]) (h' := [.box 33 (Mod.ch m1)]) (LSpec.callP' (cube_Sound_calls m1.Match) (by kernel_rfl)) (by kernel_rfl) rfl (by kernel_rfl) rfl ?_
  refine DK.seg hG 2 [1, 7] (t' := [(1, .ptr 0 0 none), (7, .sc (.bool (!(cube_Sound m1.Match))))]) (h' := [.box 33 (Mod.ch m1)]) (by kernel_rfl) rfl ?_
  refine DK.mux 7 (!(cube_Sound m1.Match)) (j := 10) (h' := [.box 33 (Mod.ch m1)]) (by kernel_rfl) (fun z => [(1, .ptr 0 0 none), (12, .sc (.bool (z || (!(act_Sound m1.Acts)))))]) ?J1 (fun hb J => ?ht1) (fun hb J => ?hf1)
  case ht1 =>
    exact DK.seg hG 5 [1, 12] (by kernel_rfl) rfl J
  case hf1 =>
    refine DK.seg hG 2 [1, 7, 9] (t' := [(1, .ptr 0 0 none), (7, .sc (.bool false)), (9, .sl 60 (List.map Act.av m1.Acts) false)]) (h' := [.box 33 (Mod.ch m1)]) (by kernel_rfl) rfl ?_
    refine DK.op' [1, 7, 10] (t' := [(1, .ptr 0 0 none), (7, .sc (.bool false)), (10, .sc (.bool (act_Sound m1.Acts)))]) (h' := [.box 33 (Mod.ch m1)]) (LSpec.callP' (act_Sound_calls m1.Acts false) (by kernel_rfl)) (by kernel_rfl) rfl (by kernel_rfl) rfl ?_
    exact DK.seg hG 2 [1, 12] (by kernel_rfl) rfl J
  refine DK.seg hG 1 [1, 13] (t' := [(1, .ptr 0 0 none), (13, .sc (.bool ((!(cube_Sound m1.Match)) || (!(act_Sound m1.Acts)))))]) (h' := [.box 33 (Mod.ch m1)]) (by kernel_rfl) rfl ?_
  refine DK.mux 13 ((!(cube_Sound m1.Match)) || (!(act_Sound m1.Acts))) (j := 16) (h' := [.box 33 (Mod.ch m1)]) (by kernel_rfl) (fun z => [(1, .ptr 0 0 none), (18, .sc (.bool (z || (!(mods_span m1.Prio 65535)))))]) ?J2 (fun hb J => ?ht2) (fun hb J => ?hf2)
  case ht2 =>
    exact DK.seg hG 5 [1, 18] (by kernel_rfl) rfl J
  case hf2 =>
    refine DK.seg hG 2 [1, 13, 15] (t' := [(1, .ptr 0 0 none), (13, .sc (.bool false)), (15, .sc (.int .i64 m1.Prio))]) (h' := [.box 33 (Mod.ch m1)]) (by kernel_rfl) rfl ?_
    refine DK.op' [1, 13, 16] (t' := [(1, .ptr 0 0 none), (13, .sc (.bool false)), (16, .sc (.bool (mods_span m1.Prio 65535)))]) (h' := [.box 33 (Mod.ch m1)]) (LSpec.callP' (mods_span_calls m1.Prio 65535) (by kernel_rfl)) (by kernel_rfl) rfl (by kernel_rfl) rfl ?_
    exact DK.seg hG 2 [1, 18] (by kernel_rfl) rfl J
  refine DK.seg hG 1 [1, 19] (t' := [(1, .ptr 0 0 none), (19, .sc (.bool (((!(cube_Sound m1.Match)) || (!(act_Sound m1.Acts))) || (!(mods_span m1.Prio 65535)))))]) (h' := [.box 33 (Mod.ch m1)]) (by kernel_rfl) rfl ?_
  refine DK.mux 19 (((!(cube_Sound m1.Match)) || (!(act_Sound m1.Acts))) || (!(mods_span m1.Prio 65535))) (j := 22) (h' := [.box 33 (Mod.ch m1)]) (by kernel_rfl) (fun z => [(1, .ptr 0 0 none), (24, .sc (.bool (z || (!(mods_span m1.Owner 255)))))]) ?J3 (fun hb J => ?ht3) (fun hb J => ?hf3)
  case ht3 =>
    exact DK.seg hG 5 [1, 24] (by kernel_rfl) rfl J
  case hf3 =>
    refine DK.seg hG 2 [1, 19, 21] (t' := [(1, .ptr 0 0 none), (19, .sc (.bool false)), (21, .sc (.int .i64 m1.Owner))]) (h' := [.box 33 (Mod.ch m1)]) (by kernel_rfl) rfl ?_
    refine DK.op' [1, 19, 22] (t' := [(1, .ptr 0 0 none), (19, .sc (.bool false)), (22, .sc (.bool (mods_span m1.Owner 255)))]) (h' := [.box 33 (Mod.ch m1)]) (LSpec.callP' (mods_span_calls m1.Owner 255) (by kernel_rfl)) (by kernel_rfl) rfl (by kernel_rfl) rfl ?_
    exact DK.seg hG 2 [1, 24] (by kernel_rfl) rfl J
  refine DK.done (by kernel_rfl) (by kernel_rfl) ?_
  refine AR.cond (.tmp 24) ((((!(cube_Sound m1.Match)) || (!(act_Sound m1.Acts))) || (!(mods_span m1.Prio 65535))) || (!(mods_span m1.Owner 255))) (by kernel_rfl) (by kernel_rfl) (fun hb => ?ht4) (fun hb => ?hf4)
  case ht4 =>
    replace H := cond_t hb H
    refine AR.seg hG hm 2 [2] (k' := [.code [1, 0, 1, 0, 1], .code [1, 1]]) (t' := [(2, .sc (.bool false))]) (h' := [.box 33 (Mod.ch m1)]) (by kernel_rfl) ?_
    subst H
    exact AR.ret0 (fn := Try.f30) hG Try.func30 (by kernel_rfl) hc0 (r0 := .sc (.bool false)) (by kernel_rfl) (WkV.refl _)
  case hf4 =>
    replace H := cond_f hb H
    refine AR.seg hG hm 7 [1, 26, 27] (k' := [.code [1, 1, 0, 1, 0, 1], .blk 0, .code [1, 1, 1]]) (t' := [(1, .ptr 0 0 none), (26, .sc (.int .i64 m1.Kind)), (27, .sc (.bool (m1.Kind == 1)))]) (h' := [.box 33 (Mod.ch m1)]) (by kernel_rfl) ?_
    refine AR.cond (.tmp 27) (m1.Kind == 1) (by kernel_rfl) (by kernel_rfl) (fun hb => ?ht6) (fun hb => ?hf6)
    case ht6 =>
      replace H := cond_t hb H
      refine AR.seg hG hm 1 [1] (k' := [.code [1, 1, 0, 1, 0, 1, 0, 0], .code [1, 1, 0, 1, 0, 1, 0, 1], .blk 0, .code [1, 1, 1]]) (t' := [(1, .ptr 0 0 none)]) (h' := [.box 33 (Mod.ch m1)]) (by kernel_rfl) ?_
      refine AR.reg hm mods_Sound_k1 (by kernel_rfl) ?_
      refine DK.seg hG 2 [1, 30] (t' := [(1, .ptr 0 0 none), (30, .sc (.int .i64 m1.Idle))]) (h' := [.box 33 (Mod.ch m1)]) (by kernel_rfl) rfl ?_
      refine DK.op' [1, 31] (t' := [(1, .ptr 0 0 none), (31, .sc (.bool (mods_span m1.Idle 1048576)))]) (h' := [.box 33 (Mod.ch m1)]) (LSpec.callP' (mods_span_calls m1.Idle 1048576) (by kernel_rfl)) (by kernel_rfl) rfl (by kernel_rfl) rfl ?_
      refine DK.seg hG 1 [1, 32] (t' := [(1, .ptr 0 0 none), (32, .sc (.bool (mods_span m1.Idle 1048576)))]) (h' := [.box 33 (Mod.ch m1)]) (by kernel_rfl) rfl ?_
      refine DK.mux 32 (mods_span m1.Idle 1048576) (j := 8) (h' := [.box 33 (Mod.ch m1)]) (by kernel_rfl) (fun z => [(36, .sc (.bool (z && (mods_span m1.Hard 1048576))))]) ?J7 (fun hb J => ?ht7) (fun hb J => ?hf7)
      case ht7 =>
        refine DK.seg hG 2 [32, 34] (t' := [(32, .sc (.bool true)), (34, .sc (.int .i64 m1.Hard))]) (h' := [.box 33 (Mod.ch m1)]) (by kernel_rfl) rfl ?_
        refine DK.op' [32, 35] (t' := [(32, .sc (.bool true)), (35, .sc (.bool (mods_span m1.Hard 1048576)))]) (h' := [.box 33 (Mod.ch m1)]) (LSpec.callP' (mods_span_calls m1.Hard 1048576) (by kernel_rfl)) (by kernel_rfl) rfl (by kernel_rfl) rfl ?_
        exact DK.seg hG 1 [36] (by kernel_rfl) rfl J
      case hf7 =>
        exact DK.seg hG 4 [36] (by kernel_rfl) rfl J
      refine DK.seg hG 1 [2] (t' := [(2, .sc (.bool ((mods_span m1.Idle 1048576) && (mods_span m1.Hard 1048576))))]) (h' := [.box 33 (Mod.ch m1)]) (by kernel_rfl) rfl ?_
      refine DK.done (by kernel_rfl) (by kernel_rfl) ?_
      subst H
      exact AR.ret0 (fn := Try.f30) hG Try.func30 (by kernel_rfl) hc0 (r0 := .sc (.bool ((mods_span m1.Idle 1048576) && (mods_span m1.Hard 1048576)))) (by kernel_rfl) (WkV.refl _)
    case hf6 =>
      replace H := cond_f hb H
      refine AR.seg hG hm 2 [1, 26, 37] (k' := [.code [1, 1, 0, 1, 0, 1, 1, 1], .blk 0, .code [1, 1, 1]]) (t' := [(1, .ptr 0 0 none), (26, .sc (.int .i64 m1.Kind)), (37, .sc (.bool (m1.Kind == 2)))]) (h' := [.box 33 (Mod.ch m1)]) (by kernel_rfl) ?_
      refine AR.cond (.tmp 37) (m1.Kind == 2) (by kernel_rfl) (by kernel_rfl) (fun hb => ?ht9) (fun hb => ?hf9)
      case ht9 =>
        replace H := cond_t hb H
        refine AR.seg hG hm 1 [1] (k' := [.code [1, 1, 0, 1, 0, 1, 1, 1, 0, 0], .code [1, 1, 0, 1, 0, 1, 1, 1, 0, 1], .blk 0, .code [1, 1, 1]]) (t' := [(1, .ptr 0 0 none)]) (h' := [.box 33 (Mod.ch m1)]) (by kernel_rfl) ?_
        refine AR.reg hm mods_Sound_k2 (by kernel_rfl) ?_
        refine DK.seg hG 1 [1, 39] (t' := [(1, .ptr 0 0 none), (39, Mod.av m1)]) (h' := [.box 33 (Mod.ch m1)]) (by kernel_rfl) rfl ?_
        refine DK.op' [1, 40] (t' := [(1, .ptr 0 0 none), (40, .sc (.bool (mods_plain m1)))]) (h' := [.box 33 (Mod.ch m1)]) (LSpec.callP' (mods_plain_calls m1) (by kernel_rfl)) (by kernel_rfl) rfl (by kernel_rfl) rfl ?_
        refine DK.seg hG 1 [1, 41] (t' := [(1, .ptr 0 0 none), (41, .sc (.bool (mods_plain m1)))]) (h' := [.box 33 (Mod.ch m1)]) (by kernel_rfl) rfl ?_
        refine DK.mux 41 (mods_plain m1) (j := 7) (h' := [.box 33 (Mod.ch m1)]) (by kernel_rfl) (fun z => [(45, .sc (.bool (z && (m1.Prio == 0))))]) ?J10 (fun hb J => ?ht10) (fun hb J => ?hf10)
        case ht10 =>
          exact DK.seg hG 4 [45] (by kernel_rfl) rfl J
        case hf10 =>
          exact DK.seg hG 4 [45] (by kernel_rfl) rfl J
        refine DK.seg hG 1 [2] (t' := [(2, .sc (.bool ((mods_plain m1) && (m1.Prio == 0))))]) (h' := [.box 33 (Mod.ch m1)]) (by kernel_rfl) rfl ?_
        refine DK.done (by kernel_rfl) (by kernel_rfl) ?_
        subst H
        exact AR.ret0 (fn := Try.f30) hG Try.func30 (by kernel_rfl) hc0 (r0 := .sc (.bool ((mods_plain m1) && (m1.Prio == 0)))) (by kernel_rfl) (WkV.refl _)
      case hf9 =>
        replace H := cond_f hb H
        refine AR.seg hG hm 2 [1, 26, 46] (k' := [.code [1, 1, 0, 1, 0, 1, 1, 1, 1, 1], .blk 0, .code [1, 1, 1]]) (t' := [(1, .ptr 0 0 none), (26, .sc (.int .i64 m1.Kind)), (46, .sc (.bool (m1.Kind == 3)))]) (h' := [.box 33 (Mod.ch m1)]) (by kernel_rfl) ?_
        refine AR.cond (.tmp 46) (m1.Kind == 3) (by kernel_rfl) (by kernel_rfl) (fun hb => ?ht13) (fun hb => ?hf13)
        case ht13 =>
          replace H := cond_t hb H
          refine AR.seg hG hm 1 [1] (k' := [.code [1, 1, 0, 1, 0, 1, 1, 1, 1, 1, 0, 0], .code [1, 1, 0, 1, 0, 1, 1, 1, 1, 1, 0, 1], .blk 0, .code [1, 1, 1]]) (t' := [(1, .ptr 0 0 none)]) (h' := [.box 33 (Mod.ch m1)]) (by kernel_rfl) ?_
          refine AR.reg hm mods_Sound_k3 (by kernel_rfl) ?_
          refine DK.seg hG 1 [1, 48] (t' := [(1, .ptr 0 0 none), (48, Mod.av m1)]) (h' := [.box 33 (Mod.ch m1)]) (by kernel_rfl) rfl ?_
          refine DK.op' [1, 49] (t' := [(1, .ptr 0 0 none), (49, .sc (.bool (mods_plain m1)))]) (h' := [.box 33 (Mod.ch m1)]) (LSpec.callP' (mods_plain_calls m1) (by kernel_rfl)) (by kernel_rfl) rfl (by kernel_rfl) rfl ?_
          refine DK.seg hG 1 [1, 50] (t' := [(1, .ptr 0 0 none), (50, .sc (.bool (mods_plain m1)))]) (h' := [.box 33 (Mod.ch m1)]) (by kernel_rfl) rfl ?_
          refine DK.mux 50 (mods_plain m1) (j := 7) (h' := [.box 33 (Mod.ch m1)]) (by kernel_rfl) (fun z => [(1, .ptr 0 0 none), (54, .sc (.bool (z && (m1.Prio == 0))))]) ?J14 (fun hb J => ?ht14) (fun hb J => ?hf14)
          case ht14 =>
            exact DK.seg hG 4 [1, 54] (by kernel_rfl) rfl J
          case hf14 =>
            exact DK.seg hG 4 [1, 54] (by kernel_rfl) rfl J
          refine DK.seg hG 1 [1, 55] (t' := [(1, .ptr 0 0 none), (55, .sc (.bool ((mods_plain m1) && (m1.Prio == 0))))]) (h' := [.box 33 (Mod.ch m1)]) (by kernel_rfl) rfl ?_
          refine DK.mux 55 ((mods_plain m1) && (m1.Prio == 0)) (j := 13) (h' := [.box 33 (Mod.ch m1)]) (by kernel_rfl) (fun z => [(60, .sc (.bool (z && ((((List.map Act.av m1.Acts).length : Nat) : Int) == 0))))]) ?J15 (fun hb J => ?ht15) (fun hb J => ?hf15)
          case ht15 =>
            exact DK.seg hG 5 [60] (by kernel_rfl) rfl J
          case hf15 =>
            exact DK.seg hG 5 [60] (by kernel_rfl) rfl J
          refine DK.seg hG 1 [2] (t' := [(2, .sc (.bool (((mods_plain m1) && (m1.Prio == 0)) && ((((List.map Act.av m1.Acts).length : Nat) : Int) == 0))))]) (h' := [.box 33 (Mod.ch m1)]) (by kernel_rfl) rfl ?_
          refine DK.done (by kernel_rfl) (by kernel_rfl) ?_
          subst H
          exact AR.ret0 (fn := Try.f30) hG Try.func30 (by kernel_rfl) hc0 (r0 := .sc (.bool (((mods_plain m1) && (m1.Prio == 0)) && ((((List.map Act.av m1.Acts).length : Nat) : Int) == 0)))) (by kernel_rfl) (WkV.refl _)
        case hf13 =>
          replace H := cond_f hb H
          refine AR.seg hG hm 2 [1, 26, 61] (k' := [.code [1, 1, 0, 1, 0, 1, 1, 1, 1, 1, 1, 1], .blk 0, .code [1, 1, 1]]) (t' := [(1, .ptr 0 0 none), (26, .sc (.int .i64 m1.Kind)), (61, .sc (.bool (m1.Kind == 4)))]) (h' := [.box 33 (Mod.ch m1)]) (by kernel_rfl) ?_
          refine AR.cond (.tmp 61) (m1.Kind == 4) (by kernel_rfl) (by kernel_rfl) (fun hb => ?ht16) (fun hb => ?hf16)
          case ht16 =>
            replace H := cond_t hb H
            refine AR.seg hG hm 1 [1] (k' := [.code [1, 1, 0, 1, 0, 1, 1, 1, 1, 1, 1, 1, 0, 0], .code [1, 1, 0, 1, 0, 1, 1, 1, 1, 1, 1, 1, 0, 1], .blk 0, .code [1, 1, 1]]) (t' := [(1, .ptr 0 0 none)]) (h' := [.box 33 (Mod.ch m1)]) (by kernel_rfl) ?_
            refine AR.reg hm mods_Sound_k4 (by kernel_rfl) ?_
            refine DK.seg hG 1 [63] (t' := [(63, Mod.av m1)]) (h' := [.box 33 (Mod.ch m1)]) (by kernel_rfl) rfl ?_
            refine DK.op' [64] (t' := [(64, .sc (.bool (mods_plain m1)))]) (h' := [.box 33 (Mod.ch m1)]) (LSpec.callP' (mods_plain_calls m1) (by kernel_rfl)) (by kernel_rfl) rfl (by kernel_rfl) rfl ?_
            refine DK.seg hG 1 [2] (t' := [(2, .sc (.bool (mods_plain m1)))]) (h' := [.box 33 (Mod.ch m1)]) (by kernel_rfl) rfl ?_
            refine DK.done (by kernel_rfl) (by kernel_rfl) ?_
            subst H
            exact AR.ret0 (fn := Try.f30) hG Try.func30 (by kernel_rfl) hc0 (r0 := .sc (.bool (mods_plain m1))) (by kernel_rfl) (WkV.refl _)
          case hf16 =>
            replace H := cond_f hb H
            refine AR.seg hG hm 2 [1, 65] (k' := [.code [1, 1, 0, 1, 0, 1, 1, 1, 1, 1, 1, 1, 1, 1], .blk 0, .code [1, 1, 1]]) (t' := [(1, .ptr 0 0 none), (65, .sc (.bool (m1.Kind == 5)))]) (h' := [.box 33 (Mod.ch m1)]) (by kernel_rfl) ?_
            refine AR.cond (.tmp 65) (m1.Kind == 5) (by kernel_rfl) (by kernel_rfl) (fun hb => ?ht18) (fun hb => ?hf18)
            case ht18 =>
              replace H := cond_t hb H
              refine AR.seg hG hm 1 [1] (k' := [.code [1, 1, 0, 1, 0, 1, 1, 1, 1, 1, 1, 1, 1, 1, 0, 0], .code [1, 1, 0, 1, 0, 1, 1, 1, 1, 1, 1, 1, 1, 1, 0, 1], .blk 0, .code [1, 1, 1]]) (t' := [(1, .ptr 0 0 none)]) (h' := [.box 33 (Mod.ch m1)]) (by kernel_rfl) ?_
              refine AR.reg hm mods_Sound_k5 (by kernel_rfl) ?_
              refine DK.seg hG 1 [1, 67] (t' := [(1, .ptr 0 0 none), (67, Mod.av m1)]) (h' := [.box 33 (Mod.ch m1)]) (by kernel_rfl) rfl ?_
              refine DK.op' [1, 68] (t' := [(1, .ptr 0 0 none), (68, .sc (.bool (mods_plain m1)))]) (h' := [.box 33 (Mod.ch m1)]) (LSpec.callP' (mods_plain_calls m1) (by kernel_rfl)) (by kernel_rfl) rfl (by kernel_rfl) rfl ?_
              refine DK.seg hG 1 [1, 69] (t' := [(1, .ptr 0 0 none), (69, .sc (.bool (mods_plain m1)))]) (h' := [.box 33 (Mod.ch m1)]) (by kernel_rfl) rfl ?_
              refine DK.mux 69 (mods_plain m1) (j := 8) (h' := [.box 33 (Mod.ch m1)]) (by kernel_rfl) (fun z => [(74, .sc (.bool (z && ((((List.map Act.av m1.Acts).length : Nat) : Int) == 0))))]) ?J19 (fun hb J => ?ht19) (fun hb J => ?hf19)
              case ht19 =>
                exact DK.seg hG 5 [74] (by kernel_rfl) rfl J
              case hf19 =>
                exact DK.seg hG 5 [74] (by kernel_rfl) rfl J
              refine DK.seg hG 1 [2] (t' := [(2, .sc (.bool ((mods_plain m1) && ((((List.map Act.av m1.Acts).length : Nat) : Int) == 0))))]) (h' := [.box 33 (Mod.ch m1)]) (by kernel_rfl) rfl ?_
              refine DK.done (by kernel_rfl) (by kernel_rfl) ?_
              subst H
              exact AR.ret0 (fn := Try.f30) hG Try.func30 (by kernel_rfl) hc0 (r0 := .sc (.bool ((mods_plain m1) && ((((List.map Act.av m1.Acts).length : Nat) : Int) == 0)))) (by kernel_rfl) (WkV.refl _)
            case hf18 =>
              replace H := cond_f hb H
              refine AR.seg hG hm 4 [2] (k' := [.code [1, 1, 1, 1]]) (t' := [(2, .sc (.bool false))]) (h' := [.box 33 (Mod.ch m1)]) (by kernel_rfl) ?_
              subst H
              exact AR.ret0 (fn := Try.f30) hG Try.func30 (by kernel_rfl) hc0 (r0 := .sc (.bool false)) (by kernel_rfl) (WkV.refl _)
theorem mods_Sound_calls (m1 : Mod) : ACalls Try.prog tab.S 30 [Mod.av m1] [] (.sc (.bool (mods_Sound m1))) [] := mods_Sound_walk m1 _ rfl

/-! ### mods.Rule: function 55 -/
noncomputable def mods_Rule_F : Go.Sh.Fn := ⟨55, bodyOf Try.f55, 18⟩
def mods_Rule_k0 : List Kd := [.pure, .read, .pure, .read, .pure, .read, .pure, .pure, .pure, .read, .pure, .read, .pure, .read, .pure, .loud]
def mods_Rule (m1 : Mod) : Rule :=
  ({ m1 with Hits := 0, Quiet := 0, Age := 0 } : Rule)
theorem mods_Rule_walk (m1 : Mod) (r : Rule) (H : mods_Rule m1 = r) :
    ACalls Try.prog tab.S 55 [Mod.av m1] [] (Rule.av r) [] := by
  have hG := tab_ok
  have hm := mixed
  refine ACalls.of_AR (G := tab) mods_Rule_F (fn := Try.f55) Try.func55 (by kernel_rfl) (by kernel_rfl) (by kernel_rfl) (Nat.le_of_ble_eq_true (by kernel_rfl)) ?_
  intro c0 hc0
  replace hc0 : c0.m.length = 0 := hc0
  rw [mods_Rule] at H
  refine AR.seg hG hm 3 [1, 2] (k' := [.code [1, 0], .code [1, 1]]) (t' := [(1, .ptr 0 0 none), (2, .ptr 1 0 none)]) (h' := [.box 33 (Mod.ch m1), .box 51 [.arr .u64 12 [0, 0, 0, 0, 0, 0, 0, 0, 0, 0, 0, 0], .arr .u64 12 [0, 0, 0, 0, 0, 0, 0, 0, 0, 0, 0, 0], .sc (.int .i64 0), .sl 0 [] true, .sc (.int .i64 0), .sc (.int .i64 0), .sc (.int .i64 0), .sc (.int .i64 0), .sc (.int .i64 0), .sc (.int .i64 0)]]) (by kernel_rfl) ?_
  refine AR.reg hm mods_Rule_k0 (by kernel_rfl) ?_
  refine DK.seg hG 6 [1, 2, 4, 6, 8] (t' := [(1, .ptr 0 0 none), (2, .ptr 1 0 none), (4, Cube.av m1.Match), (6, .sc (.int .i64 m1.Prio)), (8, .sl 60 (List.map Act.av m1.Acts) false)]) (h' := [.box 33 (Mod.ch m1), .box 51 [.arr .u64 12 [0, 0, 0, 0, 0, 0, 0, 0, 0, 0, 0, 0], .arr .u64 12 [0, 0, 0, 0, 0, 0, 0, 0, 0, 0, 0, 0], .sc (.int .i64 0), .sl 0 [] true, .sc (.int .i64 0), .sc (.int .i64 0), .sc (.int .i64 0), .sc (.int .i64 0), .sc (.int .i64 0), .sc (.int .i64 0)]]) (by kernel_rfl) rfl ?_
  refine DK.op' [1, 2, 4, 6, 9] (t' := [(1, .ptr 0 0 none), (2, .ptr 1 0 none), (4, Cube.av m1.Match), (6, .sc (.int .i64 m1.Prio)), (9, .sl 60 (List.map Act.av m1.Acts) false)]) (h' := [.box 33 (Mod.ch m1), .box 51 [.arr .u64 12 [0, 0, 0, 0, 0, 0, 0, 0, 0, 0, 0, 0], .arr .u64 12 [0, 0, 0, 0, 0, 0, 0, 0, 0, 0, 0, 0], .sc (.int .i64 0), .sl 0 [] true, .sc (.int .i64 0), .sc (.int .i64 0), .sc (.int .i64 0), .sc (.int .i64 0), .sc (.int .i64 0), .sc (.int .i64 0)]]) (LSpec.callP' (slices_Clone__api_Act_calls m1.Acts false) (by kernel_rfl)) (by kernel_rfl) rfl (by kernel_rfl) rfl ?_
  refine DK.op' [1, 2, 4, 6, 10] (t' := [(1, .ptr 0 0 none), (2, .ptr 1 0 none), (4, Cube.av m1.Match), (6, .sc (.int .i64 m1.Prio)), (10, .sl 60 (List.map Act.av m1.Acts) true)]) (h' := [.box 33 (Mod.ch m1), .box 51 [.arr .u64 12 [0, 0, 0, 0, 0, 0, 0, 0, 0, 0, 0, 0], .arr .u64 12 [0, 0, 0, 0, 0, 0, 0, 0, 0, 0, 0, 0], .sc (.int .i64 0), .sl 0 [] true, .sc (.int .i64 0), .sc (.int .i64 0), .sc (.int .i64 0), .sc (.int .i64 0), .sc (.int .i64 0), .sc (.int .i64 0)]]) (LSpec.callP' (slices_Clip__api_Act_calls m1.Acts false) (by kernel_rfl)) (by kernel_rfl) rfl (by kernel_rfl) rfl ?_
  refine DK.seg hG 8 [2] (t' := [(2, .ptr 1 0 none)]) (h' := [.box 33 (Mod.ch m1), .box 51 [.arr .u64 12 m1.Match.Value, .arr .u64 12 m1.Match.Care, .sc (.int .i64 m1.Prio), .sl 60 (List.map Act.av m1.Acts) true, .sc (.int .i64 m1.Idle), .sc (.int .i64 m1.Hard), .sc (.int .i64 m1.Owner), .sc (.int .i64 0), .sc (.int .i64 0), .sc (.int .i64 0)]]) (by kernel_rfl) rfl ?_
  refine DK.done (by kernel_rfl) (by kernel_rfl) ?_
  subst H
  exact AR.ret0 (fn := Try.f55) hG Try.func55 (by kernel_rfl) hc0 (r0 := .agg [.arr .u64 12 m1.Match.Value, .arr .u64 12 m1.Match.Care, .sc (.int .i64 m1.Prio), .sl 60 (List.map Act.av m1.Acts) true, .sc (.int .i64 m1.Idle), .sc (.int .i64 m1.Hard), .sc (.int .i64 m1.Owner), .sc (.int .i64 0), .sc (.int .i64 0), .sc (.int .i64 0)]) (by kernel_rfl) (WkV.agg (WkL.cons (Wk1.refl _) (WkL.cons (Wk1.refl _) (WkL.cons (Wk1.refl _) (WkL.cons (Wk1.anyFull true) (WkL.cons (Wk1.refl _) (WkL.cons (Wk1.refl _) (WkL.cons (Wk1.refl _) (WkL.cons (Wk1.refl _) (WkL.cons (Wk1.refl _) (WkL.cons (Wk1.refl _) WkL.nil)))))))))))
theorem mods_Rule_calls (m1 : Mod) : ACalls Try.prog tab.S 55 [Mod.av m1] [] (Rule.av (mods_Rule m1)) [] := mods_Rule_walk m1 _ rfl

/-! ### cube.both: function 87 -/
noncomputable def cube_both_F : Go.Sh.Fn := ⟨87, bodyOf Try.f87, 11⟩
def cube_both_k0 : List Kd := [.read, .pure, .pure, .read, .pure, .pure, .pure]
def cube_both (a : Cube) (b : Cube) : Bool :=
  ((cube_Sound a) && (cube_Sound b))
theorem cube_both_walk (a : Cube) (b : Cube) (r : Bool) (H : cube_both a b = r) :
    ACalls Try.prog tab.S 87 [Cube.av a, Cube.av b] [] (.sc (.bool r)) [] := by
  have hG := tab_ok
  have hm := mixed
  refine ACalls.of_AR (G := tab) cube_both_F (fn := Try.f87) Try.func87 (by kernel_rfl) (by kernel_rfl) (by kernel_rfl) (Nat.le_of_ble_eq_true (by kernel_rfl)) ?_
  intro c0 hc0
  replace hc0 : c0.m.length = 0 := hc0
  rw [cube_both] at H
  refine AR.seg hG hm 3 [2, 3] (k' := [.code [1, 0], .code [1, 1]]) (t' := [(2, .ptr 0 0 none), (3, .ptr 1 0 none)]) (h' := [.box 30 (Cube.ch a), .box 30 (Cube.ch b)]) (by kernel_rfl) ?_
  refine AR.reg hm cube_both_k0 (by kernel_rfl) ?_
  refine DK.seg hG 1 [3, 5] (t' := [(3, .ptr 1 0 none), (5, Cube.av a)]) (h' := [.box 30 (Cube.ch a), .box 30 (Cube.ch b)]) (by kernel_rfl) rfl ?_
  refine DK.op' [3, 6] (t' := [(3, .ptr 1 0 none), (6, .sc (.bool (cube_Sound a)))]) (h' := [.box 30 (Cube.ch a), .box 30 (Cube.ch b)]) (LSpec.callP' (cube_Sound_calls a) (by kernel_rfl)) (by kernel_rfl) rfl (by kernel_rfl) rfl ?_
  refine DK.seg hG 1 [3, 7] (t' := [(3, .ptr 1 0 none), (7, .sc (.bool (cube_Sound a)))]) (h' := [.box 30 (Cube.ch a), .box 30 (Cube.ch b)]) (by kernel_rfl) rfl ?_
  refine DK.mux 7 (cube_Sound a) (j := 6) (h' := [.box 30 (Cube.ch a), .box 30 (Cube.ch b)]) (by kernel_rfl) (fun z => [(10, .sc (.bool (z && (cube_Sound b))))]) ?J1 (fun hb J => ?ht1) (fun hb J => ?hf1)
  case ht1 =>
    refine DK.seg hG 1 [7, 8] (t' := [(7, .sc (.bool true)), (8, Cube.av b)]) (h' := [.box 30 (Cube.ch a), .box 30 (Cube.ch b)]) (by kernel_rfl) rfl ?_
    refine DK.op' [7, 9] (t' := [(7, .sc (.bool true)), (9, .sc (.bool (cube_Sound b)))]) (h' := [.box 30 (Cube.ch a), .box 30 (Cube.ch b)]) (LSpec.callP' (cube_Sound_calls b) (by kernel_rfl)) (by kernel_rfl) rfl (by kernel_rfl) rfl ?_
    exact DK.seg hG 1 [10] (by kernel_rfl) rfl J
  case hf1 =>
    exact DK.seg hG 3 [10] (by kernel_rfl) rfl J
  refine DK.seg hG 1 [4] (t' := [(4, .sc (.bool ((cube_Sound a) && (cube_Sound b))))]) (h' := [.box 30 (Cube.ch a), .box 30 (Cube.ch b)]) (by kernel_rfl) rfl ?_
  refine DK.done (by kernel_rfl) (by kernel_rfl) ?_
  subst H
  exact AR.ret0 (fn := Try.f87) hG Try.func87 (by kernel_rfl) hc0 (r0 := .sc (.bool ((cube_Sound a) && (cube_Sound b)))) (by kernel_rfl) (WkV.refl _)
theorem cube_both_calls (a : Cube) (b : Cube) : ACalls Try.prog tab.S 87 [Cube.av a, Cube.av b] [] (.sc (.bool (cube_both a b))) [] := cube_both_walk a b _ rfl

/-! ### cube.Meet: function 77 -/
noncomputable def cube_Meet_F : Go.Sh.Fn := ⟨77, bodyOf Try.f77, 60⟩
def cube_Meet_k3 : List Kd := [.pure, .pure, .pure, .read, .pure, .pure, .pure, .read, .pure, .pure, .pure, .loud]
def cube_Meet_k2 : List Kd := [.pure, .pure, .pure, .read, .pure, .pure, .pure, .read, .pure, .pure, .pure, .loud]
def cube_Meet_k1 : List Kd := [.pure, .pure, .pure, .read, .pure, .pure, .pure, .read, .pure, .pure, .pure, .pure, .read, .pure, .pure, .pure, .pure, .read, .pure, .pure]
def cube_Meet_k0 : List Kd := [.read, .read, .pure, .pure]
def cube_Meet_l0s (b : Cube) : Nat → Nat → List Int → List Int → Sum ((List Int) × (List Int)) (Cube × Bool)
  | 0, t12, a_0, a_1 =>
    (.inl (a_0, a_1))
  | rest + 1, t12, a_0, a_1 =>
    (bif ((IntKind.u64.wrap ((BitVec.ofInt 64 (IntKind.u64.wrap ((BitVec.ofInt 64 (IntKind.u64.wrap ((BitVec.ofInt 64 (a_0.getD (t12) 0) ^^^ BitVec.ofInt 64 (b.Value.getD (t12) 0)).toNat)) &&& BitVec.ofInt 64 (a_1.getD (t12) 0)).toNat)) &&& BitVec.ofInt 64 (b.Care.getD (t12) 0)).toNat)) != 0) then
      (.inr (({ Value := [0, 0, 0, 0, 0, 0, 0, 0, 0, 0, 0, 0], Care := [0, 0, 0, 0, 0, 0, 0, 0, 0, 0, 0, 0] } : Cube), false))
    else
      cube_Meet_l0s b rest (t12 + 1) (a_0.set (t12) (IntKind.u64.wrap ((BitVec.ofInt 64 (a_0.getD (t12) 0) ||| BitVec.ofInt 64 (b.Value.getD (t12) 0)).toNat))) (a_1.set (t12) (IntKind.u64.wrap ((BitVec.ofInt 64 (a_1.getD (t12) 0) ||| BitVec.ofInt 64 (b.Care.getD (t12) 0)).toNat))))
theorem cube_Meet_l0_walk (a : Cube) (b : Cube) (r : Cube × Bool) (c0 : Ctx) (hc0 : c0.m.length = 0) (res : Sum ((List Int) × (List Int)) (Cube × Bool)) (J : ∀ w : (List Int) × (List Int), res = .inl w → AR Try.prog tab cube_Meet_F c0 (Rp tab.S c0 (.tup [Cube.av r.1, .sc (.bool r.2)]) []) [.code [1, 1, 1]] [(2, .ptr 0 0 none), (4, .ptr 2 0 none)] [.box 30 [.arr .u64 12 w.1, .arr .u64 12 w.2], .box 30 (Cube.ch b), .box 30 [.arr .u64 12 [0, 0, 0, 0, 0, 0, 0, 0, 0, 0, 0, 0], .arr .u64 12 [0, 0, 0, 0, 0, 0, 0, 0, 0, 0, 0, 0]]]) (Jr : ∀ w, res = .inr w → w = r) :
    ∀ (rest : Nat) (t12 : Nat) (hd : t12 + rest = 12) (a_0 : List Int) (a_1 : List Int) (H : cube_Meet_l0s b rest t12 a_0 a_1 = res), AR Try.prog tab cube_Meet_F c0 (Rp tab.S c0 (.tup [Cube.av r.1, .sc (.bool r.2)]) []) [.code [1, 1, 0, 1, 0, 0], .loop [1, 1, 0, 1, 0], .blk 0, .code [1, 1, 1]] [(2, .ptr 0 0 none), (3, .ptr 1 0 none), (4, .ptr 2 0 none), (12, .sc (.int .i64 ((t12 : Nat) : Int)))] [.box 30 [.arr .u64 12 a_0, .arr .u64 12 a_1], .box 30 (Cube.ch b), .box 30 [.arr .u64 12 [0, 0, 0, 0, 0, 0, 0, 0, 0, 0, 0, 0], .arr .u64 12 [0, 0, 0, 0, 0, 0, 0, 0, 0, 0, 0, 0]]] := by
  have hG := tab_ok
  have hm := mixed
  intro rest
  induction rest with
  | zero =>
    intro t12 hd a_0 a_1 H
    rw [cube_Meet_l0s] at H
    have hc : (decide (((t12 : Nat) : Int) < 12)) = false := decide_eq_false (by omega)
    refine AR.seg hG hm 3 [2, 3, 4, 12, 13] (k' := [.code [1, 1, 0, 1, 0, 0, 1, 0], .code [1, 1, 0, 1, 0, 0, 1, 1], .loop [1, 1, 0, 1, 0], .blk 0, .code [1, 1, 1]]) (t' := [(2, .ptr 0 0 none), (3, .ptr 1 0 none), (4, .ptr 2 0 none), (12, .sc (.int .i64 ((t12 : Nat) : Int))), (13, .sc (.bool (decide (((t12 : Nat) : Int) < 12))))]) (h' := [.box 30 [.arr .u64 12 a_0, .arr .u64 12 a_1], .box 30 (Cube.ch b), .box 30 [.arr .u64 12 [0, 0, 0, 0, 0, 0, 0, 0, 0, 0, 0, 0], .arr .u64 12 [0, 0, 0, 0, 0, 0, 0, 0, 0, 0, 0, 0]]]) (by kernel_rfl) ?_
    refine AR.cond (.tmp 13) (decide (((t12 : Nat) : Int) < 12)) (by kernel_rfl) (by kernel_rfl) (fun hb => ?ht8) (fun hb => ?hf8)
    case ht8 => exact absurd (hb.symm.trans hc) (by decide)
    case hf8 =>
      refine AR.seg hG hm 1 [2, 4] (k' := [.code [1, 1, 1]]) (t' := [(2, .ptr 0 0 none), (4, .ptr 2 0 none)]) (h' := [.box 30 [.arr .u64 12 a_0, .arr .u64 12 a_1], .box 30 (Cube.ch b), .box 30 [.arr .u64 12 [0, 0, 0, 0, 0, 0, 0, 0, 0, 0, 0, 0], .arr .u64 12 [0, 0, 0, 0, 0, 0, 0, 0, 0, 0, 0, 0]]]) (by kernel_rfl) ?_
      refine AR.keep [2, 4] (t' := [(2, .ptr 0 0 none), (4, .ptr 2 0 none)]) (by kernel_rfl) ?_
      exact J (a_0, a_1) H.symm
  | succ rest ih =>
    intro t12 hd a_0 a_1 H
    rw [cube_Meet_l0s] at H
    have hlt_t12 : t12 < 12 := by omega
    have hc : (decide (((t12 : Nat) : Int) < 12)) = true := decide_eq_true (by omega)
    have hw : IntKind.i64.wrap (((t12 : Nat) : Int) + 1) = ((t12 + 1 : Nat) : Int) := wrapI_succ (by omega)
    refine AR.seg hG hm 3 [2, 3, 4, 12, 13] (k' := [.code [1, 1, 0, 1, 0, 0, 1, 0], .code [1, 1, 0, 1, 0, 0, 1, 1], .loop [1, 1, 0, 1, 0], .blk 0, .code [1, 1, 1]]) (t' := [(2, .ptr 0 0 none), (3, .ptr 1 0 none), (4, .ptr 2 0 none), (12, .sc (.int .i64 ((t12 : Nat) : Int))), (13, .sc (.bool (decide (((t12 : Nat) : Int) < 12))))]) (h' := [.box 30 [.arr .u64 12 a_0, .arr .u64 12 a_1], .box 30 (Cube.ch b), .box 30 [.arr .u64 12 [0, 0, 0, 0, 0, 0, 0, 0, 0, 0, 0, 0], .arr .u64 12 [0, 0, 0, 0, 0, 0, 0, 0, 0, 0, 0, 0]]]) (by kernel_rfl) ?_
    refine AR.cond (.tmp 13) (decide (((t12 : Nat) : Int) < 12)) (by kernel_rfl) (by kernel_rfl) (fun hb => ?ht9) (fun hb => ?hf9)
    case ht9 =>
      refine AR.seg hG hm 7 [2, 3, 4, 6, 12] (k' := [.code [1, 1, 0, 1, 0, 0, 1, 1, 0, 0, 1, 0, 0], .code [1, 1, 0, 1, 0, 0, 1, 1, 0, 0, 1, 0, 1], .code [1, 1, 0, 1, 0, 0, 1, 1, 0, 0, 1, 1], .blk 1, .code [1, 1, 0, 1, 0, 0, 1, 1, 1], .loop [1, 1, 0, 1, 0], .blk 0, .code [1, 1, 1]]) (t' := [(2, .ptr 0 0 none), (3, .ptr 1 0 none), (4, .ptr 2 0 none), (6, .sc (.int .i64 ((t12 : Nat) : Int))), (12, .sc (.int .i64 ((t12 : Nat) : Int)))]) (h' := [.box 30 [.arr .u64 12 a_0, .arr .u64 12 a_1], .box 30 (Cube.ch b), .box 30 [.arr .u64 12 [0, 0, 0, 0, 0, 0, 0, 0, 0, 0, 0, 0], .arr .u64 12 [0, 0, 0, 0, 0, 0, 0, 0, 0, 0, 0, 0]]]) (by kernel_rfl) ?_
      refine AR.reg hm cube_Meet_k1 (by kernel_rfl) ?_
      refine DK.seg hG 2 [2, 3, 4, 6, 12, 15, 16] (t' := [(2, .ptr 0 0 none), (3, .ptr 1 0 none), (4, .ptr 2 0 none), (6, .sc (.int .i64 ((t12 : Nat) : Int))), (12, .sc (.int .i64 ((t12 : Nat) : Int))), (15, .sc (.int .i64 ((t12 : Nat) : Int))), (16, .ptr 0 0 none)]) (h' := [.box 30 [.arr .u64 12 a_0, .arr .u64 12 a_1], .box 30 (Cube.ch b), .box 30 [.arr .u64 12 [0, 0, 0, 0, 0, 0, 0, 0, 0, 0, 0, 0], .arr .u64 12 [0, 0, 0, 0, 0, 0, 0, 0, 0, 0, 0, 0]]]) (by kernel_rfl) rfl ?_
      have hreq := idx_in 12 hlt_t12 (by decide)
      refine DK.op' [2, 3, 4, 6, 12, 17] (t' := [(2, .ptr 0 0 none), (3, .ptr 1 0 none), (4, .ptr 2 0 none), (6, .sc (.int .i64 ((t12 : Nat) : Int))), (12, .sc (.int .i64 ((t12 : Nat) : Int))), (17, .ptr 0 0 (some (t12, 12)))]) (h' := [.box 30 [.arr .u64 12 a_0, .arr .u64 12 a_1], .box 30 (Cube.ch b), .box 30 [.arr .u64 12 [0, 0, 0, 0, 0, 0, 0, 0, 0, 0, 0, 0], .arr .u64 12 [0, 0, 0, 0, 0, 0, 0, 0, 0, 0, 0, 0]]]) (LSpec.idxPtr (o := 0) (off := 0) (m := 12) (j := ((t12 : Nat) : Int)) hG hreq (by kernel_rfl)) (by kernel_rfl) rfl (by kernel_rfl) rfl ?_
      refine DK.seg hG 3 [2, 3, 4, 6, 12, 18, 19, 20] (t' := [(2, .ptr 0 0 none), (3, .ptr 1 0 none), (4, .ptr 2 0 none), (6, .sc (.int .i64 ((t12 : Nat) : Int))), (12, .sc (.int .i64 ((t12 : Nat) : Int))), (18, .sc (.int .u64 (a_0.getD (t12) 0))), (19, .sc (.int .i64 ((t12 : Nat) : Int))), (20, .ptr 1 0 none)]) (h' := [.box 30 [.arr .u64 12 a_0, .arr .u64 12 a_1], .box 30 (Cube.ch b), .box 30 [.arr .u64 12 [0, 0, 0, 0, 0, 0, 0, 0, 0, 0, 0, 0], .arr .u64 12 [0, 0, 0, 0, 0, 0, 0, 0, 0, 0, 0, 0]]]) (by kernel_rfl) rfl ?_
      have hreq := idx_in 12 hlt_t12 (by decide)
      refine DK.op' [2, 3, 4, 6, 12, 18, 21] (t' := [(2, .ptr 0 0 none), (3, .ptr 1 0 none), (4, .ptr 2 0 none), (6, .sc (.int .i64 ((t12 : Nat) : Int))), (12, .sc (.int .i64 ((t12 : Nat) : Int))), (18, .sc (.int .u64 (a_0.getD (t12) 0))), (21, .ptr 1 0 (some (t12, 12)))]) (h' := [.box 30 [.arr .u64 12 a_0, .arr .u64 12 a_1], .box 30 (Cube.ch b), .box 30 [.arr .u64 12 [0, 0, 0, 0, 0, 0, 0, 0, 0, 0, 0, 0], .arr .u64 12 [0, 0, 0, 0, 0, 0, 0, 0, 0, 0, 0, 0]]]) (LSpec.idxPtr (o := 1) (off := 0) (m := 12) (j := ((t12 : Nat) : Int)) hG hreq (by kernel_rfl)) (by kernel_rfl) rfl (by kernel_rfl) rfl ?_
      refine DK.seg hG 4 [2, 3, 4, 6, 12, 23, 24, 25] (t' := [(2, .ptr 0 0 none), (3, .ptr 1 0 none), (4, .ptr 2 0 none), (6, .sc (.int .i64 ((t12 : Nat) : Int))), (12, .sc (.int .i64 ((t12 : Nat) : Int))), (23, .sc (.int .u64 (IntKind.u64.wrap ((BitVec.ofInt 64 (a_0.getD (t12) 0) ^^^ BitVec.ofInt 64 (b.Value.getD (t12) 0)).toNat)))), (24, .sc (.int .i64 ((t12 : Nat) : Int))), (25, .ptr 0 12 none)]) (h' := [.box 30 [.arr .u64 12 a_0, .arr .u64 12 a_1], .box 30 (Cube.ch b), .box 30 [.arr .u64 12 [0, 0, 0, 0, 0, 0, 0, 0, 0, 0, 0, 0], .arr .u64 12 [0, 0, 0, 0, 0, 0, 0, 0, 0, 0, 0, 0]]]) (by kernel_rfl) rfl ?_
      have hreq := idx_in 12 hlt_t12 (by decide)
      refine DK.op' [2, 3, 4, 6, 12, 23, 26] (t' := [(2, .ptr 0 0 none), (3, .ptr 1 0 none), (4, .ptr 2 0 none), (6, .sc (.int .i64 ((t12 : Nat) : Int))), (12, .sc (.int .i64 ((t12 : Nat) : Int))), (23, .sc (.int .u64 (IntKind.u64.wrap ((BitVec.ofInt 64 (a_0.getD (t12) 0) ^^^ BitVec.ofInt 64 (b.Value.getD (t12) 0)).toNat)))), (26, .ptr 0 12 (some (t12, 12)))]) (h' := [.box 30 [.arr .u64 12 a_0, .arr .u64 12 a_1], .box 30 (Cube.ch b), .box 30 [.arr .u64 12 [0, 0, 0, 0, 0, 0, 0, 0, 0, 0, 0, 0], .arr .u64 12 [0, 0, 0, 0, 0, 0, 0, 0, 0, 0, 0, 0]]]) (LSpec.idxPtr (o := 0) (off := 12) (m := 12) (j := ((t12 : Nat) : Int)) hG hreq (by kernel_rfl)) (by kernel_rfl) rfl (by kernel_rfl) rfl ?_
      refine DK.seg hG 4 [2, 3, 4, 6, 12, 28, 29, 30] (t' := [(2, .ptr 0 0 none), (3, .ptr 1 0 none), (4, .ptr 2 0 none), (6, .sc (.int .i64 ((t12 : Nat) : Int))), (12, .sc (.int .i64 ((t12 : Nat) : Int))), (28, .sc (.int .u64 (IntKind.u64.wrap ((BitVec.ofInt 64 (IntKind.u64.wrap ((BitVec.ofInt 64 (a_0.getD (t12) 0) ^^^ BitVec.ofInt 64 (b.Value.getD (t12) 0)).toNat)) &&& BitVec.ofInt 64 (a_1.getD (t12) 0)).toNat)))), (29, .sc (.int .i64 ((t12 : Nat) : Int))), (30, .ptr 1 12 none)]) (h' := [.box 30 [.arr .u64 12 a_0, .arr .u64 12 a_1], .box 30 (Cube.ch b), .box 30 [.arr .u64 12 [0, 0, 0, 0, 0, 0, 0, 0, 0, 0, 0, 0], .arr .u64 12 [0, 0, 0, 0, 0, 0, 0, 0, 0, 0, 0, 0]]]) (by kernel_rfl) rfl ?_
      have hreq := idx_in 12 hlt_t12 (by decide)
      refine DK.op' [2, 3, 4, 6, 12, 28, 31] (t' := [(2, .ptr 0 0 none), (3, .ptr 1 0 none), (4, .ptr 2 0 none), (6, .sc (.int .i64 ((t12 : Nat) : Int))), (12, .sc (.int .i64 ((t12 : Nat) : Int))), (28, .sc (.int .u64 (IntKind.u64.wrap ((BitVec.ofInt 64 (IntKind.u64.wrap ((BitVec.ofInt 64 (a_0.getD (t12) 0) ^^^ BitVec.ofInt 64 (b.Value.getD (t12) 0)).toNat)) &&& BitVec.ofInt 64 (a_1.getD (t12) 0)).toNat)))), (31, .ptr 1 12 (some (t12, 12)))]) (h' := [.box 30 [.arr .u64 12 a_0, .arr .u64 12 a_1], .box 30 (Cube.ch b), .box 30 [.arr .u64 12 [0, 0, 0, 0, 0, 0, 0, 0, 0, 0, 0, 0], .arr .u64 12 [0, 0, 0, 0, 0, 0, 0, 0, 0, 0, 0, 0]]]) (LSpec.idxPtr (o := 1) (off := 12) (m := 12) (j := ((t12 : Nat) : Int)) hG hreq (by kernel_rfl)) (by kernel_rfl) rfl (by kernel_rfl) rfl ?_
      refine DK.seg hG 3 [2, 3, 4, 6, 12, 34] (t' := [(2, .ptr 0 0 none), (3, .ptr 1 0 none), (4, .ptr 2 0 none), (6, .sc (.int .i64 ((t12 : Nat) : Int))), (12, .sc (.int .i64 ((t12 : Nat) : Int))), (34, .sc (.bool ((IntKind.u64.wrap ((BitVec.ofInt 64 (IntKind.u64.wrap ((BitVec.ofInt 64 (IntKind.u64.wrap ((BitVec.ofInt 64 (a_0.getD (t12) 0) ^^^ BitVec.ofInt 64 (b.Value.getD (t12) 0)).toNat)) &&& BitVec.ofInt 64 (a_1.getD (t12) 0)).toNat)) &&& BitVec.ofInt 64 (b.Care.getD (t12) 0)).toNat)) != 0)))]) (h' := [.box 30 [.arr .u64 12 a_0, .arr .u64 12 a_1], .box 30 (Cube.ch b), .box 30 [.arr .u64 12 [0, 0, 0, 0, 0, 0, 0, 0, 0, 0, 0, 0], .arr .u64 12 [0, 0, 0, 0, 0, 0, 0, 0, 0, 0, 0, 0]]]) (by kernel_rfl) rfl ?_
      refine DK.done (by kernel_rfl) (by kernel_rfl) ?_
      refine AR.cond (.tmp 34) ((IntKind.u64.wrap ((BitVec.ofInt 64 (IntKind.u64.wrap ((BitVec.ofInt 64 (IntKind.u64.wrap ((BitVec.ofInt 64 (a_0.getD (t12) 0) ^^^ BitVec.ofInt 64 (b.Value.getD (t12) 0)).toNat)) &&& BitVec.ofInt 64 (a_1.getD (t12) 0)).toNat)) &&& BitVec.ofInt 64 (b.Care.getD (t12) 0)).toNat)) != 0) (by kernel_rfl) (by kernel_rfl) (fun hb => ?ht10) (fun hb => ?hf10)
      case ht10 =>
        replace H := cond_t hb H
        refine AR.seg hG hm 2 [4, 5] (k' := [.code [1, 1, 0, 1, 0, 0, 1, 1, 0, 0, 1, 0, 1, 0, 1], .code [1, 1, 0, 1, 0, 0, 1, 1, 0, 0, 1, 1], .blk 1, .code [1, 1, 0, 1, 0, 0, 1, 1, 1], .loop [1, 1, 0, 1, 0], .blk 0, .code [1, 1, 1]]) (t' := [(4, .ptr 2 0 none), (5, .sc (.bool false))]) (h' := [.box 30 [.arr .u64 12 a_0, .arr .u64 12 a_1], .box 30 (Cube.ch b), .box 30 [.arr .u64 12 [0, 0, 0, 0, 0, 0, 0, 0, 0, 0, 0, 0], .arr .u64 12 [0, 0, 0, 0, 0, 0, 0, 0, 0, 0, 0, 0]]]) (by kernel_rfl) ?_
        subst H
        obtain rfl := Jr _ rfl
        exact AR.ret0 (fn := Try.f77) hG Try.func77 (by kernel_rfl) hc0 (r0 := .tup [.agg [.arr .u64 12 [0, 0, 0, 0, 0, 0, 0, 0, 0, 0, 0, 0], .arr .u64 12 [0, 0, 0, 0, 0, 0, 0, 0, 0, 0, 0, 0]], .sc (.bool false)]) (by kernel_rfl) (WkV.refl _)
      case hf10 =>
        replace H := cond_f hb H
        refine AR.seg hG hm 2 [2, 3, 4, 6, 12] (k' := [.code [1, 1, 0, 1, 0, 0, 1, 1, 0, 0, 1, 1, 0], .code [1, 1, 0, 1, 0, 0, 1, 1, 0, 0, 1, 1, 1], .blk 1, .code [1, 1, 0, 1, 0, 0, 1, 1, 1], .loop [1, 1, 0, 1, 0], .blk 0, .code [1, 1, 1]]) (t' := [(2, .ptr 0 0 none), (3, .ptr 1 0 none), (4, .ptr 2 0 none), (6, .sc (.int .i64 ((t12 : Nat) : Int))), (12, .sc (.int .i64 ((t12 : Nat) : Int)))]) (h' := [.box 30 [.arr .u64 12 a_0, .arr .u64 12 a_1], .box 30 (Cube.ch b), .box 30 [.arr .u64 12 [0, 0, 0, 0, 0, 0, 0, 0, 0, 0, 0, 0], .arr .u64 12 [0, 0, 0, 0, 0, 0, 0, 0, 0, 0, 0, 0]]]) (by kernel_rfl) ?_
        refine AR.reg hm cube_Meet_k2 (by kernel_rfl) ?_
        refine DK.seg hG 2 [2, 3, 4, 6, 12, 36, 37] (t' := [(2, .ptr 0 0 none), (3, .ptr 1 0 none), (4, .ptr 2 0 none), (6, .sc (.int .i64 ((t12 : Nat) : Int))), (12, .sc (.int .i64 ((t12 : Nat) : Int))), (36, .sc (.int .i64 ((t12 : Nat) : Int))), (37, .ptr 0 12 none)]) (h' := [.box 30 [.arr .u64 12 a_0, .arr .u64 12 a_1], .box 30 (Cube.ch b), .box 30 [.arr .u64 12 [0, 0, 0, 0, 0, 0, 0, 0, 0, 0, 0, 0], .arr .u64 12 [0, 0, 0, 0, 0, 0, 0, 0, 0, 0, 0, 0]]]) (by kernel_rfl) rfl ?_
        have hreq := idx_in 12 hlt_t12 (by decide)
        refine DK.op' [2, 3, 4, 6, 12, 36, 38] (t' := [(2, .ptr 0 0 none), (3, .ptr 1 0 none), (4, .ptr 2 0 none), (6, .sc (.int .i64 ((t12 : Nat) : Int))), (12, .sc (.int .i64 ((t12 : Nat) : Int))), (36, .sc (.int .i64 ((t12 : Nat) : Int))), (38, .ptr 0 12 (some (t12, 12)))]) (h' := [.box 30 [.arr .u64 12 a_0, .arr .u64 12 a_1], .box 30 (Cube.ch b), .box 30 [.arr .u64 12 [0, 0, 0, 0, 0, 0, 0, 0, 0, 0, 0, 0], .arr .u64 12 [0, 0, 0, 0, 0, 0, 0, 0, 0, 0, 0, 0]]]) (LSpec.idxPtr (o := 0) (off := 12) (m := 12) (j := ((t12 : Nat) : Int)) hG hreq (by kernel_rfl)) (by kernel_rfl) rfl (by kernel_rfl) rfl ?_
        refine DK.seg hG 3 [2, 3, 4, 6, 12, 36, 39, 40, 41] (t' := [(2, .ptr 0 0 none), (3, .ptr 1 0 none), (4, .ptr 2 0 none), (6, .sc (.int .i64 ((t12 : Nat) : Int))), (12, .sc (.int .i64 ((t12 : Nat) : Int))), (36, .sc (.int .i64 ((t12 : Nat) : Int))), (39, .sc (.int .u64 (a_1.getD (t12) 0))), (40, .sc (.int .i64 ((t12 : Nat) : Int))), (41, .ptr 1 12 none)]) (h' := [.box 30 [.arr .u64 12 a_0, .arr .u64 12 a_1], .box 30 (Cube.ch b), .box 30 [.arr .u64 12 [0, 0, 0, 0, 0, 0, 0, 0, 0, 0, 0, 0], .arr .u64 12 [0, 0, 0, 0, 0, 0, 0, 0, 0, 0, 0, 0]]]) (by kernel_rfl) rfl ?_
        have hreq := idx_in 12 hlt_t12 (by decide)
        refine DK.op' [2, 3, 4, 6, 12, 36, 39, 42] (t' := [(2, .ptr 0 0 none), (3, .ptr 1 0 none), (4, .ptr 2 0 none), (6, .sc (.int .i64 ((t12 : Nat) : Int))), (12, .sc (.int .i64 ((t12 : Nat) : Int))), (36, .sc (.int .i64 ((t12 : Nat) : Int))), (39, .sc (.int .u64 (a_1.getD (t12) 0))), (42, .ptr 1 12 (some (t12, 12)))]) (h' := [.box 30 [.arr .u64 12 a_0, .arr .u64 12 a_1], .box 30 (Cube.ch b), .box 30 [.arr .u64 12 [0, 0, 0, 0, 0, 0, 0, 0, 0, 0, 0, 0], .arr .u64 12 [0, 0, 0, 0, 0, 0, 0, 0, 0, 0, 0, 0]]]) (LSpec.idxPtr (o := 1) (off := 12) (m := 12) (j := ((t12 : Nat) : Int)) hG hreq (by kernel_rfl)) (by kernel_rfl) rfl (by kernel_rfl) rfl ?_
        refine DK.seg hG 3 [2, 3, 4, 6, 12, 36, 44, 45] (t' := [(2, .ptr 0 0 none), (3, .ptr 1 0 none), (4, .ptr 2 0 none), (6, .sc (.int .i64 ((t12 : Nat) : Int))), (12, .sc (.int .i64 ((t12 : Nat) : Int))), (36, .sc (.int .i64 ((t12 : Nat) : Int))), (44, .sc (.int .u64 (IntKind.u64.wrap ((BitVec.ofInt 64 (a_1.getD (t12) 0) ||| BitVec.ofInt 64 (b.Care.getD (t12) 0)).toNat)))), (45, .ptr 0 12 none)]) (h' := [.box 30 [.arr .u64 12 a_0, .arr .u64 12 a_1], .box 30 (Cube.ch b), .box 30 [.arr .u64 12 [0, 0, 0, 0, 0, 0, 0, 0, 0, 0, 0, 0], .arr .u64 12 [0, 0, 0, 0, 0, 0, 0, 0, 0, 0, 0, 0]]]) (by kernel_rfl) rfl ?_
        have hreq := idx_in 12 hlt_t12 (by decide)
        refine DK.op' [2, 3, 4, 6, 12, 44, 46] (t' := [(2, .ptr 0 0 none), (3, .ptr 1 0 none), (4, .ptr 2 0 none), (6, .sc (.int .i64 ((t12 : Nat) : Int))), (12, .sc (.int .i64 ((t12 : Nat) : Int))), (44, .sc (.int .u64 (IntKind.u64.wrap ((BitVec.ofInt 64 (a_1.getD (t12) 0) ||| BitVec.ofInt 64 (b.Care.getD (t12) 0)).toNat)))), (46, .ptr 0 12 (some (t12, 12)))]) (h' := [.box 30 [.arr .u64 12 a_0, .arr .u64 12 a_1], .box 30 (Cube.ch b), .box 30 [.arr .u64 12 [0, 0, 0, 0, 0, 0, 0, 0, 0, 0, 0, 0], .arr .u64 12 [0, 0, 0, 0, 0, 0, 0, 0, 0, 0, 0, 0]]]) (LSpec.idxPtr (o := 0) (off := 12) (m := 12) (j := ((t12 : Nat) : Int)) hG hreq (by kernel_rfl)) (by kernel_rfl) rfl (by kernel_rfl) rfl ?_
        refine DK.seg hG 1 [2, 3, 4, 6, 12] (t' := [(2, .ptr 0 0 none), (3, .ptr 1 0 none), (4, .ptr 2 0 none), (6, .sc (.int .i64 ((t12 : Nat) : Int))), (12, .sc (.int .i64 ((t12 : Nat) : Int)))]) (h' := [.box 30 [.arr .u64 12 a_0, .arr .u64 12 (a_1.set (t12) (IntKind.u64.wrap ((BitVec.ofInt 64 (a_1.getD (t12) 0) ||| BitVec.ofInt 64 (b.Care.getD (t12) 0)).toNat)))], .box 30 (Cube.ch b), .box 30 [.arr .u64 12 [0, 0, 0, 0, 0, 0, 0, 0, 0, 0, 0, 0], .arr .u64 12 [0, 0, 0, 0, 0, 0, 0, 0, 0, 0, 0, 0]]]) (by kernel_rfl) rfl ?_
        refine DK.done (by kernel_rfl) (by kernel_rfl) ?_
        refine AR.reg hm cube_Meet_k3 (by kernel_rfl) ?_
        refine DK.seg hG 2 [2, 3, 4, 6, 12, 47, 48] (t' := [(2, .ptr 0 0 none), (3, .ptr 1 0 none), (4, .ptr 2 0 none), (6, .sc (.int .i64 ((t12 : Nat) : Int))), (12, .sc (.int .i64 ((t12 : Nat) : Int))), (47, .sc (.int .i64 ((t12 : Nat) : Int))), (48, .ptr 0 0 none)]) (h' := [.box 30 [.arr .u64 12 a_0, .arr .u64 12 (a_1.set (t12) (IntKind.u64.wrap ((BitVec.ofInt 64 (a_1.getD (t12) 0) ||| BitVec.ofInt 64 (b.Care.getD (t12) 0)).toNat)))], .box 30 (Cube.ch b), .box 30 [.arr .u64 12 [0, 0, 0, 0, 0, 0, 0, 0, 0, 0, 0, 0], .arr .u64 12 [0, 0, 0, 0, 0, 0, 0, 0, 0, 0, 0, 0]]]) (by kernel_rfl) rfl ?_
        have hreq := idx_in 12 hlt_t12 (by decide)
        refine DK.op' [2, 3, 4, 6, 12, 47, 49] (t' := [(2, .ptr 0 0 none), (3, .ptr 1 0 none), (4, .ptr 2 0 none), (6, .sc (.int .i64 ((t12 : Nat) : Int))), (12, .sc (.int .i64 ((t12 : Nat) : Int))), (47, .sc (.int .i64 ((t12 : Nat) : Int))), (49, .ptr 0 0 (some (t12, 12)))]) (h' := [.box 30 [.arr .u64 12 a_0, .arr .u64 12 (a_1.set (t12) (IntKind.u64.wrap ((BitVec.ofInt 64 (a_1.getD (t12) 0) ||| BitVec.ofInt 64 (b.Care.getD (t12) 0)).toNat)))], .box 30 (Cube.ch b), .box 30 [.arr .u64 12 [0, 0, 0, 0, 0, 0, 0, 0, 0, 0, 0, 0], .arr .u64 12 [0, 0, 0, 0, 0, 0, 0, 0, 0, 0, 0, 0]]]) (LSpec.idxPtr (o := 0) (off := 0) (m := 12) (j := ((t12 : Nat) : Int)) hG hreq (by kernel_rfl)) (by kernel_rfl) rfl (by kernel_rfl) rfl ?_
        refine DK.seg hG 3 [2, 3, 4, 12, 47, 50, 51, 52] (t' := [(2, .ptr 0 0 none), (3, .ptr 1 0 none), (4, .ptr 2 0 none), (12, .sc (.int .i64 ((t12 : Nat) : Int))), (47, .sc (.int .i64 ((t12 : Nat) : Int))), (50, .sc (.int .u64 (a_0.getD (t12) 0))), (51, .sc (.int .i64 ((t12 : Nat) : Int))), (52, .ptr 1 0 none)]) (h' := [.box 30 [.arr .u64 12 a_0, .arr .u64 12 (a_1.set (t12) (IntKind.u64.wrap ((BitVec.ofInt 64 (a_1.getD (t12) 0) ||| BitVec.ofInt 64 (b.Care.getD (t12) 0)).toNat)))], .box 30 (Cube.ch b), .box 30 [.arr .u64 12 [0, 0, 0, 0, 0, 0, 0, 0, 0, 0, 0, 0], .arr .u64 12 [0, 0, 0, 0, 0, 0, 0, 0, 0, 0, 0, 0]]]) (by kernel_rfl) rfl ?_
        have hreq := idx_in 12 hlt_t12 (by decide)
        refine DK.op' [2, 3, 4, 12, 47, 50, 53] (t' := [(2, .ptr 0 0 none), (3, .ptr 1 0 none), (4, .ptr 2 0 none), (12, .sc (.int .i64 ((t12 : Nat) : Int))), (47, .sc (.int .i64 ((t12 : Nat) : Int))), (50, .sc (.int .u64 (a_0.getD (t12) 0))), (53, .ptr 1 0 (some (t12, 12)))]) (h' := [.box 30 [.arr .u64 12 a_0, .arr .u64 12 (a_1.set (t12) (IntKind.u64.wrap ((BitVec.ofInt 64 (a_1.getD (t12) 0) ||| BitVec.ofInt 64 (b.Care.getD (t12) 0)).toNat)))], .box 30 (Cube.ch b), .box 30 [.arr .u64 12 [0, 0, 0, 0, 0, 0, 0, 0, 0, 0, 0, 0], .arr .u64 12 [0, 0, 0, 0, 0, 0, 0, 0, 0, 0, 0, 0]]]) (LSpec.idxPtr (o := 1) (off := 0) (m := 12) (j := ((t12 : Nat) : Int)) hG hreq (by kernel_rfl)) (by kernel_rfl) rfl (by kernel_rfl) rfl ?_
        refine DK.seg hG 3 [2, 3, 4, 12, 47, 55, 56] (t' := [(2, .ptr 0 0 none), (3, .ptr 1 0 none), (4, .ptr 2 0 none), (12, .sc (.int .i64 ((t12 : Nat) : Int))), (47, .sc (.int .i64 ((t12 : Nat) : Int))), (55, .sc (.int .u64 (IntKind.u64.wrap ((BitVec.ofInt 64 (a_0.getD (t12) 0) ||| BitVec.ofInt 64 (b.Value.getD (t12) 0)).toNat)))), (56, .ptr 0 0 none)]) (h' := [.box 30 [.arr .u64 12 a_0, .arr .u64 12 (a_1.set (t12) (IntKind.u64.wrap ((BitVec.ofInt 64 (a_1.getD (t12) 0) ||| BitVec.ofInt 64 (b.Care.getD (t12) 0)).toNat)))], .box 30 (Cube.ch b), .box 30 [.arr .u64 12 [0, 0, 0, 0, 0, 0, 0, 0, 0, 0, 0, 0], .arr .u64 12 [0, 0, 0, 0, 0, 0, 0, 0, 0, 0, 0, 0]]]) (by kernel_rfl) rfl ?_
        have hreq := idx_in 12 hlt_t12 (by decide)
        refine DK.op' [2, 3, 4, 12, 55, 57] (t' := [(2, .ptr 0 0 none), (3, .ptr 1 0 none), (4, .ptr 2 0 none), (12, .sc (.int .i64 ((t12 : Nat) : Int))), (55, .sc (.int .u64 (IntKind.u64.wrap ((BitVec.ofInt 64 (a_0.getD (t12) 0) ||| BitVec.ofInt 64 (b.Value.getD (t12) 0)).toNat)))), (57, .ptr 0 0 (some (t12, 12)))]) (h' := [.box 30 [.arr .u64 12 a_0, .arr .u64 12 (a_1.set (t12) (IntKind.u64.wrap ((BitVec.ofInt 64 (a_1.getD (t12) 0) ||| BitVec.ofInt 64 (b.Care.getD (t12) 0)).toNat)))], .box 30 (Cube.ch b), .box 30 [.arr .u64 12 [0, 0, 0, 0, 0, 0, 0, 0, 0, 0, 0, 0], .arr .u64 12 [0, 0, 0, 0, 0, 0, 0, 0, 0, 0, 0, 0]]]) (LSpec.idxPtr (o := 0) (off := 0) (m := 12) (j := ((t12 : Nat) : Int)) hG hreq (by kernel_rfl)) (by kernel_rfl) rfl (by kernel_rfl) rfl ?_
        refine DK.seg hG 1 [2, 3, 4, 12] (t' := [(2, .ptr 0 0 none), (3, .ptr 1 0 none), (4, .ptr 2 0 none), (12, .sc (.int .i64 ((t12 : Nat) : Int)))]) (h' := [.box 30 [.arr .u64 12 (a_0.set (t12) (IntKind.u64.wrap ((BitVec.ofInt 64 (a_0.getD (t12) 0) ||| BitVec.ofInt 64 (b.Value.getD (t12) 0)).toNat))), .arr .u64 12 (a_1.set (t12) (IntKind.u64.wrap ((BitVec.ofInt 64 (a_1.getD (t12) 0) ||| BitVec.ofInt 64 (b.Care.getD (t12) 0)).toNat)))], .box 30 (Cube.ch b), .box 30 [.arr .u64 12 [0, 0, 0, 0, 0, 0, 0, 0, 0, 0, 0, 0], .arr .u64 12 [0, 0, 0, 0, 0, 0, 0, 0, 0, 0, 0, 0]]]) (by kernel_rfl) rfl ?_
        refine DK.done (by kernel_rfl) (by kernel_rfl) ?_
        refine AR.seg hG hm 2 [2, 3, 4, 12] (k' := [.loop [1, 1, 0, 1, 0], .blk 0, .code [1, 1, 1]]) (t' := [(2, .ptr 0 0 none), (3, .ptr 1 0 none), (4, .ptr 2 0 none), (12, .sc (.int .i64 (IntKind.i64.wrap (((t12 : Nat) : Int) + 1))))]) (h' := [.box 30 [.arr .u64 12 (a_0.set (t12) (IntKind.u64.wrap ((BitVec.ofInt 64 (a_0.getD (t12) 0) ||| BitVec.ofInt 64 (b.Value.getD (t12) 0)).toNat))), .arr .u64 12 (a_1.set (t12) (IntKind.u64.wrap ((BitVec.ofInt 64 (a_1.getD (t12) 0) ||| BitVec.ofInt 64 (b.Care.getD (t12) 0)).toNat)))], .box 30 (Cube.ch b), .box 30 [.arr .u64 12 [0, 0, 0, 0, 0, 0, 0, 0, 0, 0, 0, 0], .arr .u64 12 [0, 0, 0, 0, 0, 0, 0, 0, 0, 0, 0, 0]]]) (by kernel_rfl) ?_
        refine AR.keep [2, 3, 4, 12] (t' := [(2, .ptr 0 0 none), (3, .ptr 1 0 none), (4, .ptr 2 0 none), (12, .sc (.int .i64 (IntKind.i64.wrap (((t12 : Nat) : Int) + 1))))]) (by kernel_rfl) ?_
        refine AR.loop_round ?_
        rw [hw]
        exact ih (t12 + 1) (by omega) (a_0.set (t12) (IntKind.u64.wrap ((BitVec.ofInt 64 (a_0.getD (t12) 0) ||| BitVec.ofInt 64 (b.Value.getD (t12) 0)).toNat))) (a_1.set (t12) (IntKind.u64.wrap ((BitVec.ofInt 64 (a_1.getD (t12) 0) ||| BitVec.ofInt 64 (b.Care.getD (t12) 0)).toNat))) H
    case hf9 => exact absurd (hc.symm.trans hb) (by decide)

def cube_Meet (a : Cube) (b : Cube) : Cube × Bool :=
  (bif (!(cube_both a b)) then
    (({ Value := [0, 0, 0, 0, 0, 0, 0, 0, 0, 0, 0, 0], Care := [0, 0, 0, 0, 0, 0, 0, 0, 0, 0, 0, 0] } : Cube), false)
  else
    sumG (fun q => q) (cube_Meet_l0s b 12 0 a.Value a.Care) fun v =>
    (({ Value := v.1, Care := v.2 } : Cube), true))
theorem cube_Meet_walk (a : Cube) (b : Cube) (r : Cube × Bool) (H : cube_Meet a b = r) :
    ACalls Try.prog tab.S 77 [Cube.av a, Cube.av b] [] (.tup [Cube.av r.1, .sc (.bool r.2)]) [] := by
  have hG := tab_ok
  have hm := mixed
  refine ACalls.of_AR (G := tab) cube_Meet_F (fn := Try.f77) Try.func77 (by kernel_rfl) (by kernel_rfl) (by kernel_rfl) (Nat.le_of_ble_eq_true (by kernel_rfl)) ?_
  intro c0 hc0
  replace hc0 : c0.m.length = 0 := hc0
  rw [cube_Meet] at H
  refine AR.seg hG hm 4 [2, 3, 4] (k' := [.code [1, 0, 0], .code [1, 0, 1], .code [1, 1]]) (t' := [(2, .ptr 0 0 none), (3, .ptr 1 0 none), (4, .ptr 2 0 none)]) (h' := [.box 30 (Cube.ch a), .box 30 (Cube.ch b), .box 30 [.arr .u64 12 [0, 0, 0, 0, 0, 0, 0, 0, 0, 0, 0, 0], .arr .u64 12 [0, 0, 0, 0, 0, 0, 0, 0, 0, 0, 0, 0]]]) (by kernel_rfl) ?_
  refine AR.reg hm cube_Meet_k0 (by kernel_rfl) ?_
  refine DK.seg hG 2 [2, 3, 4, 7, 8] (t' := [(2, .ptr 0 0 none), (3, .ptr 1 0 none), (4, .ptr 2 0 none), (7, Cube.av a), (8, Cube.av b)]) (h' := [.box 30 (Cube.ch a), .box 30 (Cube.ch b), .box 30 [.arr .u64 12 [0, 0, 0, 0, 0, 0, 0, 0, 0, 0, 0, 0], .arr .u64 12 [0, 0, 0, 0, 0, 0, 0, 0, 0, 0, 0, 0]]]) (by kernel_rfl) rfl ?_
  refine DK.op' [2, 3, 4, 9] (t' := [(2, .ptr 0 0 none), (3, .ptr 1 0 none), (4, .ptr 2 0 none), (9, .sc (.bool (cube_both a b)))]) (h' := [.box 30 (Cube.ch a), .box 30 (Cube.ch b), .box 30 [.arr .u64 12 [0, 0, 0, 0, 0, 0, 0, 0, 0, 0, 0, 0], .arr .u64 12 [0, 0, 0, 0, 0, 0, 0, 0, 0, 0, 0, 0]]]) (LSpec.callP' (cube_both_calls a b) (by kernel_rfl)) (by kernel_rfl) rfl (by kernel_rfl) rfl ?_
  refine DK.seg hG 1 [2, 3, 4, 10] (t' := [(2, .ptr 0 0 none), (3, .ptr 1 0 none), (4, .ptr 2 0 none), (10, .sc (.bool (!(cube_both a b))))]) (h' := [.box 30 (Cube.ch a), .box 30 (Cube.ch b), .box 30 [.arr .u64 12 [0, 0, 0, 0, 0, 0, 0, 0, 0, 0, 0, 0], .arr .u64 12 [0, 0, 0, 0, 0, 0, 0, 0, 0, 0, 0, 0]]]) (by kernel_rfl) rfl ?_
  refine DK.done (by kernel_rfl) (by kernel_rfl) ?_
  refine AR.cond (.tmp 10) (!(cube_both a b)) (by kernel_rfl) (by kernel_rfl) (fun hb => ?ht1) (fun hb => ?hf1)
  case ht1 =>
    replace H := cond_t hb H
    refine AR.seg hG hm 2 [4, 5] (k' := [.code [1, 0, 1, 0, 1], .code [1, 1]]) (t' := [(4, .ptr 2 0 none), (5, .sc (.bool false))]) (h' := [.box 30 (Cube.ch a), .box 30 (Cube.ch b), .box 30 [.arr .u64 12 [0, 0, 0, 0, 0, 0, 0, 0, 0, 0, 0, 0], .arr .u64 12 [0, 0, 0, 0, 0, 0, 0, 0, 0, 0, 0, 0]]]) (by kernel_rfl) ?_
    subst H
    exact AR.ret0 (fn := Try.f77) hG Try.func77 (by kernel_rfl) hc0 (r0 := .tup [.agg [.arr .u64 12 [0, 0, 0, 0, 0, 0, 0, 0, 0, 0, 0, 0], .arr .u64 12 [0, 0, 0, 0, 0, 0, 0, 0, 0, 0, 0, 0]], .sc (.bool false)]) (by kernel_rfl) (WkV.refl _)
  case hf1 =>
    replace H := cond_f hb H
    refine AR.seg hG hm 5 [2, 3, 4, 12] (k' := [.code [1, 1, 0, 1, 0], .blk 0, .code [1, 1, 1]]) (t' := [(2, .ptr 0 0 none), (3, .ptr 1 0 none), (4, .ptr 2 0 none), (12, .sc (.int .i64 0))]) (h' := [.box 30 (Cube.ch a), .box 30 (Cube.ch b), .box 30 [.arr .u64 12 [0, 0, 0, 0, 0, 0, 0, 0, 0, 0, 0, 0], .arr .u64 12 [0, 0, 0, 0, 0, 0, 0, 0, 0, 0, 0, 0]]]) (by kernel_rfl) ?_
    rcases sumG_eq H with ⟨v, hv, H⟩ | ⟨r1, hv, hr1⟩
    case inr =>
      refine AR.into (by kernel_rfl) ?_
      replace hr1 : r1 = r := hr1
      subst hr1
      exact cube_Meet_l0_walk a b _ c0 hc0 (.inr _) (fun _ e => by cases e) (fun _ e => (Sum.inr.inj e).symm) 12 0 rfl a.Value a.Care hv
    refine AR.into (by kernel_rfl) ?_
    refine cube_Meet_l0_walk a b r c0 hc0 (.inl v) (fun w e => ?_) (fun _ e => by cases e) 12 0 rfl a.Value a.Care hv
    have e := Sum.inl.inj e
    subst e
    refine AR.seg hG hm 2 [4, 5] (k' := [.code [1, 1, 1, 1]]) (t' := [(4, .ptr 2 0 none), (5, .sc (.bool true))]) (h' := [.box 30 [.arr .u64 12 v.1, .arr .u64 12 v.2], .box 30 (Cube.ch b), .box 30 [.arr .u64 12 v.1, .arr .u64 12 v.2]]) (by kernel_rfl) ?_
    subst H
    exact AR.ret0 (fn := Try.f77) hG Try.func77 (by kernel_rfl) hc0 (r0 := .tup [.agg [.arr .u64 12 v.1, .arr .u64 12 v.2], .sc (.bool true)]) (by kernel_rfl) (WkV.refl _)
theorem cube_Meet_calls (a : Cube) (b : Cube) : ACalls Try.prog tab.S 77 [Cube.av a, Cube.av b] [] (.tup [Cube.av ((cube_Meet a b).1), .sc (.bool ((cube_Meet a b).2))]) [] := cube_Meet_walk a b _ rfl

/-! ### cube.Within: function 62 -/
noncomputable def cube_Within_F : Go.Sh.Fn := ⟨62, bodyOf Try.f62, 19⟩
def cube_Within_k1 : List Kd := [.pure, .pure, .read, .read, .pure, .pure, .pure]
def cube_Within_k0 : List Kd := [.read, .read, .pure, .pure, .pure, .pure, .loud, .loud, .pure]
def cube_Within (a : Cube) (b : Cube) : Bool :=
  ((cube_Meet a b).2 && ((((cube_Meet a b).1).Value == a.Value) && (((cube_Meet a b).1).Care == a.Care)))
theorem cube_Within_walk (a : Cube) (b : Cube) (r : Bool) (H : cube_Within a b = r) :
    ACalls Try.prog tab.S 62 [Cube.av a, Cube.av b] [] (.sc (.bool r)) [] := by
  have hG := tab_ok
  have hm := mixed
  refine ACalls.of_AR (G := tab) cube_Within_F (fn := Try.f62) Try.func62 (by kernel_rfl) (by kernel_rfl) (by kernel_rfl) (Nat.le_of_ble_eq_true (by kernel_rfl)) ?_
  intro c0 hc0
  replace hc0 : c0.m.length = 0 := hc0
  rw [cube_Within] at H
  refine AR.seg hG hm 3 [2, 3] (k' := [.code [1, 0], .code [1, 1]]) (t' := [(2, .ptr 0 0 none), (3, .ptr 1 0 none)]) (h' := [.box 30 (Cube.ch a), .box 30 (Cube.ch b)]) (by kernel_rfl) ?_
  refine AR.reg hm cube_Within_k0 (by kernel_rfl) ?_
  refine DK.seg hG 2 [2, 8, 9] (t' := [(2, .ptr 0 0 none), (8, Cube.av a), (9, Cube.av b)]) (h' := [.box 30 (Cube.ch a), .box 30 (Cube.ch b)]) (by kernel_rfl) rfl ?_
  refine DK.op' [2, 10] (t' := [(2, .ptr 0 0 none), (10, .tup [Cube.av ((cube_Meet a b).1), .sc (.bool ((cube_Meet a b).2))])]) (h' := [.box 30 (Cube.ch a), .box 30 (Cube.ch b)]) (LSpec.callP' (cube_Meet_calls a b) (by kernel_rfl)) (by kernel_rfl) rfl (by kernel_rfl) rfl ?_
  refine DK.seg hG 6 [2, 5, 6] (t' := [(2, .ptr 0 0 none), (5, .ptr 2 0 none), (6, .sc (.bool ((cube_Meet a b).2)))]) (h' := [.box 30 (Cube.ch a), .box 30 (Cube.ch b), .box 30 (Cube.ch ((cube_Meet a b).1))]) (by kernel_rfl) rfl ?_
  refine DK.done (by kernel_rfl) (by kernel_rfl) ?_
  refine AR.seg hG hm 1 [2, 5, 6] (k' := [.code [1, 1, 0], .code [1, 1, 1]]) (t' := [(2, .ptr 0 0 none), (5, .ptr 2 0 none), (6, .sc (.bool ((cube_Meet a b).2)))]) (h' := [.box 30 (Cube.ch a), .box 30 (Cube.ch b), .box 30 (Cube.ch ((cube_Meet a b).1))]) (by kernel_rfl) ?_
  refine AR.reg hm cube_Within_k1 (by kernel_rfl) ?_
  refine DK.seg hG 2 [2, 5, 14] (t' := [(2, .ptr 0 0 none), (5, .ptr 2 0 none), (14, .sc (.bool ((cube_Meet a b).2)))]) (h' := [.box 30 (Cube.ch a), .box 30 (Cube.ch b), .box 30 (Cube.ch ((cube_Meet a b).1))]) (by kernel_rfl) rfl ?_
  refine DK.mux 14 ((cube_Meet a b).2) (j := 6) (h' := [.box 30 (Cube.ch a), .box 30 (Cube.ch b), .box 30 (Cube.ch ((cube_Meet a b).1))]) (by kernel_rfl) (fun z => [(18, .sc (.bool (z && ((((cube_Meet a b).1).Value == a.Value) && (((cube_Meet a b).1).Care == a.Care)))))]) ?J1 (fun hb J => ?ht1) (fun hb J => ?hf1)
  case ht1 =>
    refine DK.seg hG 2 [14, 15, 16] (t' := [(14, .sc (.bool true)), (15, Cube.av ((cube_Meet a b).1)), (16, Cube.av a)]) (h' := [.box 30 (Cube.ch a), .box 30 (Cube.ch b), .box 30 (Cube.ch ((cube_Meet a b).1))]) (by kernel_rfl) rfl ?_
    refine DK.op' [14, 17] (t' := [(14, .sc (.bool true)), (17, .sc (.bool ((((cube_Meet a b).1).Value == a.Value) && (((cube_Meet a b).1).Care == a.Care))))]) (h' := [.box 30 (Cube.ch a), .box 30 (Cube.ch b), .box 30 (Cube.ch ((cube_Meet a b).1))]) (LSpec.eq' 9 (r := ((((cube_Meet a b).1).Value == a.Value) && (((cube_Meet a b).1).Care == a.Care))) (by kernel_rfl)) (by kernel_rfl) rfl (by kernel_rfl) rfl ?_
    exact DK.seg hG 1 [18] (by kernel_rfl) rfl J
  case hf1 =>
    exact DK.seg hG 4 [18] (by kernel_rfl) rfl J
  refine DK.seg hG 1 [4] (t' := [(4, .sc (.bool ((cube_Meet a b).2 && ((((cube_Meet a b).1).Value == a.Value) && (((cube_Meet a b).1).Care == a.Care)))))]) (h' := [.box 30 (Cube.ch a), .box 30 (Cube.ch b), .box 30 (Cube.ch ((cube_Meet a b).1))]) (by kernel_rfl) rfl ?_
  refine DK.done (by kernel_rfl) (by kernel_rfl) ?_
  subst H
  exact AR.ret0 (fn := Try.f62) hG Try.func62 (by kernel_rfl) hc0 (r0 := .sc (.bool ((cube_Meet a b).2 && ((((cube_Meet a b).1).Value == a.Value) && (((cube_Meet a b).1).Care == a.Care))))) (by kernel_rfl) (WkV.refl _)
theorem cube_Within_calls (a : Cube) (b : Cube) : ACalls Try.prog tab.S 62 [Cube.av a, Cube.av b] [] (.sc (.bool (cube_Within a b))) [] := cube_Within_walk a b _ rfl

/-! ### mods.touches: function 33 -/
noncomputable def mods_touches_F : Go.Sh.Fn := ⟨33, bodyOf Try.f33, 36⟩
def mods_touches_k0 : List Kd := [.pure, .read, .pure, .read, .pure, .pure, .pure, .read, .pure, .read, .pure, .pure, .pure]
def mods_touches_k1 : List Kd := [.pure, .read, .pure, .read, .pure, .pure, .read, .read, .pure, .pure, .pure, .pure]
def mods_touches (m1 : Mod) (r2 : Rule) : Bool :=
  (bif (bif (m1.Kind == 2) then (m1.Kind == 2) else (m1.Kind == 3)) then
    ((r2.Owner == m1.Owner) && (cube_Within r2.Match m1.Match))
  else
    (bif (bif (m1.Kind == 4) then (m1.Kind == 4) else (m1.Kind == 5)) then
      ((r2.Owner == m1.Owner) && (rule_Key r2 (mods_Rule m1)))
    else
      false))
theorem mods_touches_walk (m1 : Mod) (r2 : Rule) (r : Bool) (H : mods_touches m1 r2 = r) :
    ACalls Try.prog tab.S 33 [Mod.av m1, Rule.av r2] [] (.sc (.bool r)) [] := by
  have hG := tab_ok
  have hm := mixed
  refine ACalls.of_AR (G := tab) mods_touches_F (fn := Try.f33) Try.func33 (by kernel_rfl) (by kernel_rfl) (by kernel_rfl) (Nat.le_of_ble_eq_true (by kernel_rfl)) ?_
  intro c0 hc0
  replace hc0 : c0.m.length = 0 := hc0
  rw [mods_touches] at H
  refine AR.seg hG hm 9 [2, 3, 6, 7] (k' := [.code [1, 0, 1, 0, 0, 1], .code [1, 0, 1, 0, 1], .blk 0, .code [1, 1]]) (t' := [(2, .ptr 0 0 none), (3, .ptr 1 0 none), (6, .sc (.int .i64 m1.Kind)), (7, .sc (.bool (m1.Kind == 2)))]) (h' := [.box 33 (Mod.ch m1), .box 51 (Rule.ch r2)]) (by kernel_rfl) ?_
  refine AR.join (.tmp 7) (m1.Kind == 2) (k' := [.code [1, 0, 1, 0, 1], .blk 0, .code [1, 1]]) (h' := [.box 33 (Mod.ch m1), .box 51 (Rule.ch r2)]) (by kernel_rfl) (by kernel_rfl) (fun z => [(2, .ptr 0 0 none), (3, .ptr 1 0 none), (6, .sc (.int .i64 m1.Kind)), (7, .sc (.bool (bif z then (m1.Kind == 2) else (m1.Kind == 3))))]) ?J1 (fun hb J => ?ht1) (fun hb J => ?hf1)
  case ht1 =>
    exact AR.seg hG hm 1 [2, 3, 6, 7] (by kernel_rfl) J
  case hf1 =>
    exact AR.seg hG hm 1 [2, 3, 6, 7] (by kernel_rfl) J
  refine AR.cond (.tmp 7) (bif (m1.Kind == 2) then (m1.Kind == 2) else (m1.Kind == 3)) (by kernel_rfl) (by kernel_rfl) (fun hb => ?ht3) (fun hb => ?hf3)
  case ht3 =>
    replace H := cond_t hb H
    refine AR.seg hG hm 1 [2, 3] (k' := [.code [1, 0, 1, 0, 1, 0, 0], .code [1, 0, 1, 0, 1, 0, 1], .blk 0, .code [1, 1]]) (t' := [(2, .ptr 0 0 none), (3, .ptr 1 0 none)]) (h' := [.box 33 (Mod.ch m1), .box 51 (Rule.ch r2)]) (by kernel_rfl) ?_
    refine AR.reg hm mods_touches_k0 (by kernel_rfl) ?_
    refine DK.seg hG 6 [2, 3, 15] (t' := [(2, .ptr 0 0 none), (3, .ptr 1 0 none), (15, .sc (.bool (r2.Owner == m1.Owner)))]) (h' := [.box 33 (Mod.ch m1), .box 51 (Rule.ch r2)]) (by kernel_rfl) rfl ?_
    refine DK.mux 15 (r2.Owner == m1.Owner) (j := 12) (h' := [.box 33 (Mod.ch m1), .box 51 (Rule.ch r2)]) (by kernel_rfl) (fun z => [(21, .sc (.bool (z && (cube_Within r2.Match m1.Match))))]) ?J4 (fun hb J => ?ht4) (fun hb J => ?hf4)
    case ht4 =>
      refine DK.seg hG 4 [15, 17, 19] (t' := [(15, .sc (.bool true)), (17, Cube.av r2.Match), (19, Cube.av m1.Match)]) (h' := [.box 33 (Mod.ch m1), .box 51 (Rule.ch r2)]) (by kernel_rfl) rfl ?_
      refine DK.op' [15, 20] (t' := [(15, .sc (.bool true)), (20, .sc (.bool (cube_Within r2.Match m1.Match)))]) (h' := [.box 33 (Mod.ch m1), .box 51 (Rule.ch r2)]) (LSpec.callP' (cube_Within_calls r2.Match m1.Match) (by kernel_rfl)) (by kernel_rfl) rfl (by kernel_rfl) rfl ?_
      exact DK.seg hG 1 [21] (by kernel_rfl) rfl J
    case hf4 =>
      exact DK.seg hG 6 [21] (by kernel_rfl) rfl J
    refine DK.seg hG 1 [4] (t' := [(4, .sc (.bool ((r2.Owner == m1.Owner) && (cube_Within r2.Match m1.Match))))]) (h' := [.box 33 (Mod.ch m1), .box 51 (Rule.ch r2)]) (by kernel_rfl) rfl ?_
    refine DK.done (by kernel_rfl) (by kernel_rfl) ?_
    subst H
    exact AR.ret0 (fn := Try.f33) hG Try.func33 (by kernel_rfl) hc0 (r0 := .sc (.bool ((r2.Owner == m1.Owner) && (cube_Within r2.Match m1.Match)))) (by kernel_rfl) (WkV.refl _)
  case hf3 =>
    replace H := cond_f hb H
    refine AR.seg hG hm 3 [2, 3, 6, 22] (k' := [.code [1, 0, 1, 0, 1, 1, 0, 1], .code [1, 0, 1, 0, 1, 1, 1], .blk 0, .code [1, 1]]) (t' := [(2, .ptr 0 0 none), (3, .ptr 1 0 none), (6, .sc (.int .i64 m1.Kind)), (22, .sc (.bool (m1.Kind == 4)))]) (h' := [.box 33 (Mod.ch m1), .box 51 (Rule.ch r2)]) (by kernel_rfl) ?_
    refine AR.join (.tmp 22) (m1.Kind == 4) (k' := [.code [1, 0, 1, 0, 1, 1, 1], .blk 0, .code [1, 1]]) (h' := [.box 33 (Mod.ch m1), .box 51 (Rule.ch r2)]) (by kernel_rfl) (by kernel_rfl) (fun z => [(2, .ptr 0 0 none), (3, .ptr 1 0 none), (22, .sc (.bool (bif z then (m1.Kind == 4) else (m1.Kind == 5))))]) ?J5 (fun hb J => ?ht5) (fun hb J => ?hf5)
    case ht5 =>
      exact AR.seg hG hm 1 [2, 3, 22] (by kernel_rfl) J
    case hf5 =>
      exact AR.seg hG hm 1 [2, 3, 22] (by kernel_rfl) J
    refine AR.cond (.tmp 22) (bif (m1.Kind == 4) then (m1.Kind == 4) else (m1.Kind == 5)) (by kernel_rfl) (by kernel_rfl) (fun hb => ?ht7) (fun hb => ?hf7)
    case ht7 =>
      replace H := cond_t hb H
      refine AR.seg hG hm 1 [2, 3] (k' := [.code [1, 0, 1, 0, 1, 1, 1, 0, 0], .code [1, 0, 1, 0, 1, 1, 1, 0, 1], .blk 0, .code [1, 1]]) (t' := [(2, .ptr 0 0 none), (3, .ptr 1 0 none)]) (h' := [.box 33 (Mod.ch m1), .box 51 (Rule.ch r2)]) (by kernel_rfl) ?_
      refine AR.reg hm mods_touches_k1 (by kernel_rfl) ?_
      refine DK.seg hG 6 [2, 3, 30] (t' := [(2, .ptr 0 0 none), (3, .ptr 1 0 none), (30, .sc (.bool (r2.Owner == m1.Owner)))]) (h' := [.box 33 (Mod.ch m1), .box 51 (Rule.ch r2)]) (by kernel_rfl) rfl ?_
      refine DK.mux 30 (r2.Owner == m1.Owner) (j := 11) (h' := [.box 33 (Mod.ch m1), .box 51 (Rule.ch r2)]) (by kernel_rfl) (fun z => [(35, .sc (.bool (z && (rule_Key r2 (mods_Rule m1)))))]) ?J8 (fun hb J => ?ht8) (fun hb J => ?hf8)
      case ht8 =>
        refine DK.seg hG 2 [30, 31, 32] (t' := [(30, .sc (.bool true)), (31, Rule.av r2), (32, Mod.av m1)]) (h' := [.box 33 (Mod.ch m1), .box 51 (Rule.ch r2)]) (by kernel_rfl) rfl ?_
        refine DK.op' [30, 31, 33] (t' := [(30, .sc (.bool true)), (31, Rule.av r2), (33, Rule.av (mods_Rule m1))]) (h' := [.box 33 (Mod.ch m1), .box 51 (Rule.ch r2)]) (LSpec.callP' (mods_Rule_calls m1) (by kernel_rfl)) (by kernel_rfl) rfl (by kernel_rfl) rfl ?_
        refine DK.op' [30, 34] (t' := [(30, .sc (.bool true)), (34, .sc (.bool (rule_Key r2 (mods_Rule m1))))]) (h' := [.box 33 (Mod.ch m1), .box 51 (Rule.ch r2)]) (LSpec.callP' (rule_Key_calls r2 (mods_Rule m1)) (by kernel_rfl)) (by kernel_rfl) rfl (by kernel_rfl) rfl ?_
        exact DK.seg hG 1 [35] (by kernel_rfl) rfl J
      case hf8 =>
        exact DK.seg hG 5 [35] (by kernel_rfl) rfl J
      refine DK.seg hG 1 [4] (t' := [(4, .sc (.bool ((r2.Owner == m1.Owner) && (rule_Key r2 (mods_Rule m1)))))]) (h' := [.box 33 (Mod.ch m1), .box 51 (Rule.ch r2)]) (by kernel_rfl) rfl ?_
      refine DK.done (by kernel_rfl) (by kernel_rfl) ?_
      subst H
      exact AR.ret0 (fn := Try.f33) hG Try.func33 (by kernel_rfl) hc0 (r0 := .sc (.bool ((r2.Owner == m1.Owner) && (rule_Key r2 (mods_Rule m1))))) (by kernel_rfl) (WkV.refl _)
    case hf7 =>
      replace H := cond_f hb H
      refine AR.seg hG hm 4 [4] (k' := [.code [1, 1, 1]]) (t' := [(4, .sc (.bool false))]) (h' := [.box 33 (Mod.ch m1), .box 51 (Rule.ch r2)]) (by kernel_rfl) ?_
      subst H
      exact AR.ret0 (fn := Try.f33) hG Try.func33 (by kernel_rfl) hc0 (r0 := .sc (.bool false)) (by kernel_rfl) (WkV.refl _)
theorem mods_touches_calls (m1 : Mod) (r2 : Rule) : ACalls Try.prog tab.S 33 [Mod.av m1, Rule.av r2] [] (.sc (.bool (mods_touches m1 r2))) [] := mods_touches_walk m1 r2 _ rfl

/-! ### rule.Overlap: function 59 -/
noncomputable def rule_Overlap_F : Go.Sh.Fn := ⟨59, bodyOf Try.f59, 23⟩
def rule_Overlap_k1 : List Kd := [.pure, .pure, .pure, .read, .pure, .read, .pure, .pure, .pure]
def rule_Overlap_k0 : List Kd := [.pure, .read, .pure, .read, .pure, .pure, .pure, .pure, .loud, .loud, .pure]
def rule_Overlap (a : Rule) (b : Rule) : Bool :=
  ((cube_Meet a.Match b.Match).2 && (a.Prio == b.Prio))
theorem rule_Overlap_walk (a : Rule) (b : Rule) (r : Bool) (H : rule_Overlap a b = r) :
    ACalls Try.prog tab.S 59 [Rule.av a, Rule.av b] [] (.sc (.bool r)) [] := by
  have hG := tab_ok
  have hm := mixed
  refine ACalls.of_AR (G := tab) rule_Overlap_F (fn := Try.f59) Try.func59 (by kernel_rfl) (by kernel_rfl) (by kernel_rfl) (Nat.le_of_ble_eq_true (by kernel_rfl)) ?_
  intro c0 hc0
  replace hc0 : c0.m.length = 0 := hc0
  rw [rule_Overlap] at H
  refine AR.seg hG hm 3 [2, 3] (k' := [.code [1, 0], .code [1, 1]]) (t' := [(2, .ptr 0 0 none), (3, .ptr 1 0 none)]) (h' := [.box 51 (Rule.ch a), .box 51 (Rule.ch b)]) (by kernel_rfl) ?_
  refine AR.reg hm rule_Overlap_k0 (by kernel_rfl) ?_
  refine DK.seg hG 4 [2, 3, 9, 11] (t' := [(2, .ptr 0 0 none), (3, .ptr 1 0 none), (9, Cube.av a.Match), (11, Cube.av b.Match)]) (h' := [.box 51 (Rule.ch a), .box 51 (Rule.ch b)]) (by kernel_rfl) rfl ?_
  refine DK.op' [2, 3, 12] (t' := [(2, .ptr 0 0 none), (3, .ptr 1 0 none), (12, .tup [Cube.av ((cube_Meet a.Match b.Match).1), .sc (.bool ((cube_Meet a.Match b.Match).2))])]) (h' := [.box 51 (Rule.ch a), .box 51 (Rule.ch b)]) (LSpec.callP' (cube_Meet_calls a.Match b.Match) (by kernel_rfl)) (by kernel_rfl) rfl (by kernel_rfl) rfl ?_
  refine DK.seg hG 6 [2, 3, 6] (t' := [(2, .ptr 0 0 none), (3, .ptr 1 0 none), (6, .sc (.bool ((cube_Meet a.Match b.Match).2)))]) (h' := [.box 51 (Rule.ch a), .box 51 (Rule.ch b), .box 30 (Cube.ch ((cube_Meet a.Match b.Match).1))]) (by kernel_rfl) rfl ?_
  refine DK.done (by kernel_rfl) (by kernel_rfl) ?_
  refine AR.seg hG hm 1 [2, 3, 6] (k' := [.code [1, 1, 0], .code [1, 1, 1]]) (t' := [(2, .ptr 0 0 none), (3, .ptr 1 0 none), (6, .sc (.bool ((cube_Meet a.Match b.Match).2)))]) (h' := [.box 51 (Rule.ch a), .box 51 (Rule.ch b), .box 30 (Cube.ch ((cube_Meet a.Match b.Match).1))]) (by kernel_rfl) ?_
  refine AR.reg hm rule_Overlap_k1 (by kernel_rfl) ?_
  refine DK.seg hG 2 [2, 3, 16] (t' := [(2, .ptr 0 0 none), (3, .ptr 1 0 none), (16, .sc (.bool ((cube_Meet a.Match b.Match).2)))]) (h' := [.box 51 (Rule.ch a), .box 51 (Rule.ch b), .box 30 (Cube.ch ((cube_Meet a.Match b.Match).1))]) (by kernel_rfl) rfl ?_
  refine DK.mux 16 ((cube_Meet a.Match b.Match).2) (j := 8) (h' := [.box 51 (Rule.ch a), .box 51 (Rule.ch b), .box 30 (Cube.ch ((cube_Meet a.Match b.Match).1))]) (by kernel_rfl) (fun z => [(22, .sc (.bool (z && (a.Prio == b.Prio))))]) ?J1 (fun hb J => ?ht1) (fun hb J => ?hf1)
  case ht1 =>
    exact DK.seg hG 6 [22] (by kernel_rfl) rfl J
  case hf1 =>
    exact DK.seg hG 6 [22] (by kernel_rfl) rfl J
  refine DK.seg hG 1 [4] (t' := [(4, .sc (.bool ((cube_Meet a.Match b.Match).2 && (a.Prio == b.Prio))))]) (h' := [.box 51 (Rule.ch a), .box 51 (Rule.ch b), .box 30 (Cube.ch ((cube_Meet a.Match b.Match).1))]) (by kernel_rfl) rfl ?_
  refine DK.done (by kernel_rfl) (by kernel_rfl) ?_
  subst H
  exact AR.ret0 (fn := Try.f59) hG Try.func59 (by kernel_rfl) hc0 (r0 := .sc (.bool ((cube_Meet a.Match b.Match).2 && (a.Prio == b.Prio)))) (by kernel_rfl) (WkV.refl _)
theorem rule_Overlap_calls (a : Rule) (b : Rule) : ACalls Try.prog tab.S 59 [Rule.av a, Rule.av b] [] (.sc (.bool (rule_Overlap a b))) [] := rule_Overlap_walk a b _ rfl

/-! ### slices.IndexFunc: function 56 -/
noncomputable def slices_IndexFunc__api_Rule_F : Go.Sh.Fn := ⟨56, bodyOf Try.f56, 19⟩
def slices_IndexFunc__api_Rule_k0 : List Kd := [.pure, .pure, .pure, .pure, .pure, .pure]
def slices_IndexFunc__api_Rule_l0s (f : Rule → Bool) : List Rule → Nat → Sum (Unit) (Int)
  | [], t8 =>
    (.inl ())
  | x :: rest, t8 =>
    (bif (f x) then
      (.inr ((t8 : Nat) : Int))
    else
      slices_IndexFunc__api_Rule_l0s f rest (t8 + 1) )
theorem slices_IndexFunc__api_Rule_l0_walk (s : List Rule) (F_f : FuncId) (C_f : List AV) (f : Rule → Bool) (P_f : plainL C_f = true) (O_f : C_f.all oneA = true) (H_f : ∀ (y0 : Rule), ACalls Try.prog tab.S F_f ([Rule.av y0] ++ C_f) [] (.sc (.bool (f y0))) []) (f_s : Bool) (r : Int) (c0 : Ctx) (hc0 : c0.m.length = 0) (res : Sum (Unit) (Int)) (J : ∀ w : Unit, res = .inl w → AR Try.prog tab slices_IndexFunc__api_Rule_F c0 (Rp tab.S c0 (.sc (.int .i64 r)) []) [.code [1, 1]] [] []) (Jr : ∀ w, res = .inr w → w = r) :
    ∀ (rest : List Rule) (t8 : Nat) (hd : s.drop t8 = rest) (H : slices_IndexFunc__api_Rule_l0s f rest t8 = res), AR Try.prog tab slices_IndexFunc__api_Rule_F c0 (Rp tab.S c0 (.sc (.int .i64 r)) []) [.code [1, 0, 1, 0, 0], .loop [1, 0, 1, 0], .blk 0, .code [1, 1]] [(0, .sl 51 (List.map Rule.av s) f_s), (1, .fn F_f C_f), (7, .sc (.int .i64 (((List.map Rule.av s).length : Nat) : Int))), (8, .sc (.int .i64 ((t8 : Nat) : Int)))] [] := by
  have hG := tab_ok
  have hm := mixed
  intro rest
  induction rest with
  | nil =>
    intro t8 hd  H
    rw [slices_IndexFunc__api_Rule_l0s] at H
    refine AR.facts 0 rfl fun hf => ?_
    have hlen : s.length ≤ 9223372036854775807 := by have hq := len_ok hf.2.1; rw [List.length_map] at hq; exact hq
    have hge : s.length ≤ t8 := List.drop_eq_nil_iff.1 hd
    have hc : (decide (((t8 : Nat) : Int) < (((List.map Rule.av s).length : Nat) : Int))) = false := by rw [List.length_map]; exact decide_eq_false (by omega)
    refine AR.seg hG hm 3 [0, 1, 7, 8, 9] (k' := [.code [1, 0, 1, 0, 0, 1, 0], .code [1, 0, 1, 0, 0, 1, 1], .loop [1, 0, 1, 0], .blk 0, .code [1, 1]]) (t' := [(0, .sl 51 (List.map Rule.av s) f_s), (1, .fn F_f C_f), (7, .sc (.int .i64 (((List.map Rule.av s).length : Nat) : Int))), (8, .sc (.int .i64 ((t8 : Nat) : Int))), (9, .sc (.bool (decide (((t8 : Nat) : Int) < (((List.map Rule.av s).length : Nat) : Int)))))]) (h' := []) (by kernel_rfl) ?_
    refine AR.cond (.tmp 9) (decide (((t8 : Nat) : Int) < (((List.map Rule.av s).length : Nat) : Int))) (by kernel_rfl) (by kernel_rfl) (fun hb => ?ht7) (fun hb => ?hf7)
    case ht7 => exact absurd (hb.symm.trans hc) (by decide)
    case hf7 =>
      refine AR.seg hG hm 1 [] (k' := [.code [1, 1]]) (t' := []) (h' := []) (by kernel_rfl) ?_
      refine AR.keep [] (t' := []) (by kernel_rfl) ?_
      exact J () H.symm
  | cons x rest ih =>
    intro t8 hd  H
    rw [slices_IndexFunc__api_Rule_l0s] at H
    refine AR.facts 0 rfl fun hf => ?_
    have hlen : s.length ≤ 9223372036854775807 := by have hq := len_ok hf.2.1; rw [List.length_map] at hq; exact hq
    obtain ⟨hlt, hv_t8, hd2⟩ := drop_cons hd
    have hc : (decide (((t8 : Nat) : Int) < (((List.map Rule.av s).length : Nat) : Int))) = true := by rw [List.length_map]; exact decide_eq_true (by omega)
    have hw : IntKind.i64.wrap (((t8 : Nat) : Int) + 1) = ((t8 + 1 : Nat) : Int) := wrapI_succ (by omega)
    refine AR.seg hG hm 3 [0, 1, 7, 8, 9] (k' := [.code [1, 0, 1, 0, 0, 1, 0], .code [1, 0, 1, 0, 0, 1, 1], .loop [1, 0, 1, 0], .blk 0, .code [1, 1]]) (t' := [(0, .sl 51 (List.map Rule.av s) f_s), (1, .fn F_f C_f), (7, .sc (.int .i64 (((List.map Rule.av s).length : Nat) : Int))), (8, .sc (.int .i64 ((t8 : Nat) : Int))), (9, .sc (.bool (decide (((t8 : Nat) : Int) < (((List.map Rule.av s).length : Nat) : Int)))))]) (h' := []) (by kernel_rfl) ?_
    refine AR.cond (.tmp 9) (decide (((t8 : Nat) : Int) < (((List.map Rule.av s).length : Nat) : Int))) (by kernel_rfl) (by kernel_rfl) (fun hb => ?ht8) (fun hb => ?hf8)
    case ht8 =>
      refine AR.seg hG hm 6 [0, 1, 5, 7, 8] (k' := [.code [1, 0, 1, 0, 0, 1, 1, 0, 0, 1, 0], .code [1, 0, 1, 0, 0, 1, 1, 0, 0, 1, 1], .blk 1, .code [1, 0, 1, 0, 0, 1, 1, 1], .loop [1, 0, 1, 0], .blk 0, .code [1, 1]]) (t' := [(0, .sl 51 (List.map Rule.av s) f_s), (1, .fn F_f C_f), (5, .sc (.int .i64 ((t8 : Nat) : Int))), (7, .sc (.int .i64 (((List.map Rule.av s).length : Nat) : Int))), (8, .sc (.int .i64 ((t8 : Nat) : Int)))]) (h' := []) (by kernel_rfl) ?_
      refine AR.reg hm slices_IndexFunc__api_Rule_k0 (by kernel_rfl) ?_
      refine DK.seg hG 3 [0, 1, 5, 7, 8, 11, 12, 13] (t' := [(0, .sl 51 (List.map Rule.av s) f_s), (1, .fn F_f C_f), (5, .sc (.int .i64 ((t8 : Nat) : Int))), (7, .sc (.int .i64 (((List.map Rule.av s).length : Nat) : Int))), (8, .sc (.int .i64 ((t8 : Nat) : Int))), (11, .fn F_f C_f), (12, .sl 51 (List.map Rule.av s) f_s), (13, .sc (.int .i64 ((t8 : Nat) : Int)))]) (h' := []) (by kernel_rfl) rfl ?_
      refine DK.op' [0, 1, 5, 7, 8, 11, 14] (t' := [(0, .sl 51 (List.map Rule.av s) f_s), (1, .fn F_f C_f), (5, .sc (.int .i64 ((t8 : Nat) : Int))), (7, .sc (.int .i64 (((List.map Rule.av s).length : Nat) : Int))), (8, .sc (.int .i64 ((t8 : Nat) : Int))), (11, .fn F_f C_f), (14, .ep [.arr .u64 12 x.Match.Value, .arr .u64 12 x.Match.Care, .sc (.int .i64 x.Prio), .sl 60 (List.map Act.av x.Acts) false, .sc (.int .i64 x.Idle), .sc (.int .i64 x.Hard), .sc (.int .i64 x.Owner), .sc (.int .i64 x.Hits), .sc (.int .i64 x.Quiet), .sc (.int .i64 x.Age)] 0 none)]) (h' := []) (LSpec.index' (r := Rule.av x) (fs := [.arr .u64 12 x.Match.Value, .arr .u64 12 x.Match.Care, .sc (.int .i64 x.Prio), .sl 60 (List.map Act.av x.Acts) false, .sc (.int .i64 x.Idle), .sc (.int .i64 x.Hard), .sc (.int .i64 x.Owner), .sc (.int .i64 x.Hits), .sc (.int .i64 x.Quiet), .sc (.int .i64 x.Age)]) hG (rows := List.map Rule.av s) (j := ((t8 : Nat) : Int)) (by kernel_rfl) (ixO_map hv_t8 _) (by kernel_rfl)) (by kernel_rfl) rfl (by kernel_rfl) rfl ?_
      refine DK.seg hG 1 [0, 1, 5, 7, 8, 11, 15] (t' := [(0, .sl 51 (List.map Rule.av s) f_s), (1, .fn F_f C_f), (5, .sc (.int .i64 ((t8 : Nat) : Int))), (7, .sc (.int .i64 (((List.map Rule.av s).length : Nat) : Int))), (8, .sc (.int .i64 ((t8 : Nat) : Int))), (11, .fn F_f C_f), (15, Rule.av x)]) (h' := []) (by kernel_rfl) rfl ?_
      refine DK.op' [0, 1, 5, 7, 8, 16] (t' := [(0, .sl 51 (List.map Rule.av s) f_s), (1, .fn F_f C_f), (5, .sc (.int .i64 ((t8 : Nat) : Int))), (7, .sc (.int .i64 (((List.map Rule.av s).length : Nat) : Int))), (8, .sc (.int .i64 ((t8 : Nat) : Int))), (16, .sc (.bool (f x)))]) (h' := []) (LSpec.callFP' (H_f x) (by kernel_rfl) P_f O_f) (by kernel_rfl) rfl (by kernel_rfl) rfl ?_
      refine DK.done (by kernel_rfl) (by kernel_rfl) ?_
      refine AR.cond (.tmp 16) (f x) (by kernel_rfl) (by kernel_rfl) (fun hb => ?ht9) (fun hb => ?hf9)
      case ht9 =>
        replace H := cond_t hb H
        refine AR.seg hG hm 2 [4] (k' := [.code [1, 0, 1, 0, 0, 1, 1, 0, 0, 1, 1, 0, 1], .blk 1, .code [1, 0, 1, 0, 0, 1, 1, 1], .loop [1, 0, 1, 0], .blk 0, .code [1, 1]]) (t' := [(4, .sc (.int .i64 ((t8 : Nat) : Int)))]) (h' := []) (by kernel_rfl) ?_
        subst H
        obtain rfl := Jr _ rfl
        exact AR.ret0 (fn := Try.f56) hG Try.func56 (by kernel_rfl) hc0 (r0 := .sc (.int .i64 ((t8 : Nat) : Int))) (by kernel_rfl) (WkV.refl _)
      case hf9 =>
        replace H := cond_f hb H
        refine AR.seg hG hm 3 [0, 1, 7, 8] (k' := [.loop [1, 0, 1, 0], .blk 0, .code [1, 1]]) (t' := [(0, .sl 51 (List.map Rule.av s) f_s), (1, .fn F_f C_f), (7, .sc (.int .i64 (((List.map Rule.av s).length : Nat) : Int))), (8, .sc (.int .i64 (IntKind.i64.wrap (((t8 : Nat) : Int) + 1))))]) (h' := []) (by kernel_rfl) ?_
        refine AR.keep [0, 1, 7, 8] (t' := [(0, .sl 51 (List.map Rule.av s) f_s), (1, .fn F_f C_f), (7, .sc (.int .i64 (((List.map Rule.av s).length : Nat) : Int))), (8, .sc (.int .i64 (IntKind.i64.wrap (((t8 : Nat) : Int) + 1))))]) (by kernel_rfl) ?_
        refine AR.loop_round ?_
        rw [hw]
        exact ih (t8 + 1) hd2 H
    case hf8 => exact absurd (hc.symm.trans hb) (by decide)

def slices_IndexFunc__api_Rule (s : List Rule) (f : Rule → Bool) : Int :=
  sumG (fun q => q) (slices_IndexFunc__api_Rule_l0s f s 0) fun v =>
  (-1)
theorem slices_IndexFunc__api_Rule_walk (s : List Rule) (F_f : FuncId) (C_f : List AV) (f : Rule → Bool) (P_f : plainL C_f = true) (O_f : C_f.all oneA = true) (H_f : ∀ (y0 : Rule), ACalls Try.prog tab.S F_f ([Rule.av y0] ++ C_f) [] (.sc (.bool (f y0))) []) (f_s : Bool) (r : Int) (H : slices_IndexFunc__api_Rule s f = r) :
    ACalls Try.prog tab.S 56 [.sl 51 (List.map Rule.av s) f_s, .fn F_f C_f] [] (.sc (.int .i64 r)) [] := by
  have hG := tab_ok
  have hm := mixed
  refine ACalls.of_AR (G := tab) slices_IndexFunc__api_Rule_F (fn := Try.f56) Try.func56 (by kernel_rfl) (by kernel_rfl) (by kernel_rfl) (Nat.le_of_ble_eq_true (by kernel_rfl)) ?_
  intro c0 hc0
  replace hc0 : c0.m.length = 0 := hc0
  rw [slices_IndexFunc__api_Rule] at H
  refine AR.seg hG hm 6 [0, 1, 7, 8] (k' := [.code [1, 0, 1, 0], .blk 0, .code [1, 1]]) (t' := [(0, .sl 51 (List.map Rule.av s) f_s), (1, .fn F_f C_f), (7, .sc (.int .i64 (((List.map Rule.av s).length : Nat) : Int))), (8, .sc (.int .i64 0))]) (h' := []) (by kernel_rfl) ?_
  rcases sumG_eq H with ⟨v, hv, H⟩ | ⟨r1, hv, hr1⟩
  case inr =>
    refine AR.into (by kernel_rfl) ?_
    replace hr1 : r1 = r := hr1
    subst hr1
    exact slices_IndexFunc__api_Rule_l0_walk s F_f C_f f P_f O_f H_f f_s _ c0 hc0 (.inr _) (fun _ e => by cases e) (fun _ e => (Sum.inr.inj e).symm) s 0 rfl hv
  refine AR.into (by kernel_rfl) ?_
  refine slices_IndexFunc__api_Rule_l0_walk s F_f C_f f P_f O_f H_f f_s r c0 hc0 (.inl v) (fun w e => ?_) (fun _ e => by cases e) s 0 rfl hv
  have e := Sum.inl.inj e
  subst e
  refine AR.seg hG hm 2 [4] (k' := [.code [1, 1, 1]]) (t' := [(4, .sc (.int .i64 (-1)))]) (h' := []) (by kernel_rfl) ?_
  subst H
  exact AR.ret0 (fn := Try.f56) hG Try.func56 (by kernel_rfl) hc0 (r0 := .sc (.int .i64 (-1))) (by kernel_rfl) (WkV.refl _)
theorem slices_IndexFunc__api_Rule_calls (s : List Rule) (F_f : FuncId) (C_f : List AV) (f : Rule → Bool) (P_f : plainL C_f = true) (O_f : C_f.all oneA = true) (H_f : ∀ (y0 : Rule), ACalls Try.prog tab.S F_f ([Rule.av y0] ++ C_f) [] (.sc (.bool (f y0))) []) (f_s : Bool) : ACalls Try.prog tab.S 56 [.sl 51 (List.map Rule.av s) f_s, .fn F_f C_f] [] (.sc (.int .i64 (slices_IndexFunc__api_Rule s f))) [] := slices_IndexFunc__api_Rule_walk s F_f C_f f P_f O_f H_f f_s _ rfl

theorem slices_IndexFunc__api_Rule_l0s_eq (f : Rule → Bool) : ∀ (l : List Rule) (i : Nat), slices_IndexFunc__api_Rule_l0s f l i = match l.findIdx? f with | some k => .inr ((i + k : Nat) : Int) | none => .inl ()
  | [], i => rfl
  | x :: l, i => by
      rw [slices_IndexFunc__api_Rule_l0s, List.findIdx?_cons, slices_IndexFunc__api_Rule_l0s_eq f l (i + 1)]
      cases f x
      · simp only [cond_false, Bool.false_eq_true, if_false]
        cases l.findIdx? f with
        | none => rfl
        | some k => simp only [Option.map_some]; rw [show i + 1 + k = i + (k + 1) by omega]
      · rfl
theorem slices_IndexFunc__api_Rule_idx (s : List Rule) (f : Rule → Bool) : slices_IndexFunc__api_Rule s f = idxF f s := by
  rw [slices_IndexFunc__api_Rule, slices_IndexFunc__api_Rule_l0s_eq]
  unfold idxF sumG
  cases s.findIdx? f with
  | none => rfl
  | some k => simp only [Nat.zero_add]

/-! ### slices.ContainsFunc: function 42 -/
noncomputable def slices_ContainsFunc__api_Rule_F : Go.Sh.Fn := ⟨42, bodyOf Try.f42, 9⟩
def slices_ContainsFunc__api_Rule_k0 : List Kd := [.pure, .pure, .read, .pure, .pure]
def slices_ContainsFunc__api_Rule (s : List Rule) (f : Rule → Bool) : Bool :=
  (decide ((slices_IndexFunc__api_Rule s f) ≥ 0))
theorem slices_ContainsFunc__api_Rule_walk (s : List Rule) (F_f : FuncId) (C_f : List AV) (f : Rule → Bool) (P_f : plainL C_f = true) (O_f : C_f.all oneA = true) (H_f : ∀ (y0 : Rule), ACalls Try.prog tab.S F_f ([Rule.av y0] ++ C_f) [] (.sc (.bool (f y0))) []) (f_s : Bool) (r : Bool) (H : slices_ContainsFunc__api_Rule s f = r) :
    ACalls Try.prog tab.S 42 [.sl 51 (List.map Rule.av s) f_s, .fn F_f C_f] [] (.sc (.bool r)) [] := by
  have hG := tab_ok
  have hm := mixed
  refine ACalls.of_AR (G := tab) slices_ContainsFunc__api_Rule_F (fn := Try.f42) Try.func42 (by kernel_rfl) (by kernel_rfl) (by kernel_rfl) (Nat.le_of_ble_eq_true (by kernel_rfl)) ?_
  intro c0 hc0
  replace hc0 : c0.m.length = 0 := hc0
  rw [slices_ContainsFunc__api_Rule] at H
  refine AR.seg hG hm 3 [0, 1] (k' := [.code [1, 0], .code [1, 1]]) (t' := [(0, .sl 51 (List.map Rule.av s) f_s), (1, .fn F_f C_f)]) (h' := []) (by kernel_rfl) ?_
  refine AR.reg hm slices_ContainsFunc__api_Rule_k0 (by kernel_rfl) ?_
  refine DK.seg hG 2 [5, 6] (t' := [(5, .sl 51 (List.map Rule.av s) f_s), (6, .fn F_f C_f)]) (h' := []) (by kernel_rfl) rfl ?_
  refine DK.op' [7] (t' := [(7, .sc (.int .i64 (slices_IndexFunc__api_Rule s f)))]) (h' := []) (LSpec.callF' (caps := []) (slices_IndexFunc__api_Rule_calls s F_f C_f f P_f O_f H_f f_s) (by kernel_rfl) (.same rfl (.fn (caps := C_f) (lendC_plain C_f P_f) .nil)) (by kernel_rfl) rfl rfl) (by kernel_rfl) rfl (by kernel_rfl) rfl ?_
  refine DK.seg hG 2 [4] (t' := [(4, .sc (.bool (decide ((slices_IndexFunc__api_Rule s f) ≥ 0))))]) (h' := []) (by kernel_rfl) rfl ?_
  refine DK.done (by kernel_rfl) (by kernel_rfl) ?_
  subst H
  exact AR.ret0 (fn := Try.f42) hG Try.func42 (by kernel_rfl) hc0 (r0 := .sc (.bool (decide ((slices_IndexFunc__api_Rule s f) ≥ 0)))) (by kernel_rfl) (WkV.refl _)
theorem slices_ContainsFunc__api_Rule_calls (s : List Rule) (F_f : FuncId) (C_f : List AV) (f : Rule → Bool) (P_f : plainL C_f = true) (O_f : C_f.all oneA = true) (H_f : ∀ (y0 : Rule), ACalls Try.prog tab.S F_f ([Rule.av y0] ++ C_f) [] (.sc (.bool (f y0))) []) (f_s : Bool) : ACalls Try.prog tab.S 42 [.sl 51 (List.map Rule.av s) f_s, .fn F_f C_f] [] (.sc (.bool (slices_ContainsFunc__api_Rule s f))) [] := slices_ContainsFunc__api_Rule_walk s F_f C_f f P_f O_f H_f f_s _ rfl

theorem slices_ContainsFunc__api_Rule_any (s : List Rule) (f : Rule → Bool) : slices_ContainsFunc__api_Rule s f = s.any f := by
  rw [slices_ContainsFunc__api_Rule, slices_IndexFunc__api_Rule_idx, idxF_any]

/-! ### mods.add$1: function 57 -/
noncomputable def mods_add_1_F : Go.Sh.Fn := ⟨57, bodyOf Try.f57, 7⟩
def mods_add_1_k0 : List Kd := [.read, .pure, .pure, .pure]
def mods_add_1 (x : Rule) (c : Rule) : Bool :=
  (rule_Key x c)
theorem mods_add_1_walk (x : Rule) (c : Rule) (r : Bool) (H : mods_add_1 x c = r) :
    ACalls Try.prog tab.S 57 [Rule.av x, .ep [.arr .u64 12 c.Match.Value, .arr .u64 12 c.Match.Care, .sc (.int .i64 c.Prio), .sl 60 (List.map Act.av c.Acts) false, .sc (.int .i64 c.Idle), .sc (.int .i64 c.Hard), .sc (.int .i64 c.Owner), .sc (.int .i64 c.Hits), .sc (.int .i64 c.Quiet), .sc (.int .i64 c.Age)] 0 none] [] (.sc (.bool r)) [] := by
  have hG := tab_ok
  have hm := mixed
  refine ACalls.of_AR (G := tab) mods_add_1_F (fn := Try.f57) Try.func57 (by kernel_rfl) (by kernel_rfl) (by kernel_rfl) (Nat.le_of_ble_eq_true (by kernel_rfl)) ?_
  intro c0 hc0
  replace hc0 : c0.m.length = 0 := hc0
  rw [mods_add_1] at H
  refine AR.seg hG hm 3 [1, 2] (k' := [.code [1, 0], .code [1, 1]]) (t' := [(1, .ep [.arr .u64 12 c.Match.Value, .arr .u64 12 c.Match.Care, .sc (.int .i64 c.Prio), .sl 60 (List.map Act.av c.Acts) false, .sc (.int .i64 c.Idle), .sc (.int .i64 c.Hard), .sc (.int .i64 c.Owner), .sc (.int .i64 c.Hits), .sc (.int .i64 c.Quiet), .sc (.int .i64 c.Age)] 0 none), (2, .ptr 0 0 none)]) (h' := [.box 51 (Rule.ch x)]) (by kernel_rfl) ?_
  refine AR.reg hm mods_add_1_k0 (by kernel_rfl) ?_
  refine DK.seg hG 2 [4, 5] (t' := [(4, Rule.av x), (5, Rule.av c)]) (h' := [.box 51 (Rule.ch x)]) (by kernel_rfl) rfl ?_
  refine DK.op' [6] (t' := [(6, .sc (.bool (rule_Key x c)))]) (h' := [.box 51 (Rule.ch x)]) (LSpec.callP' (rule_Key_calls x c) (by kernel_rfl)) (by kernel_rfl) rfl (by kernel_rfl) rfl ?_
  refine DK.seg hG 1 [3] (t' := [(3, .sc (.bool (rule_Key x c)))]) (h' := [.box 51 (Rule.ch x)]) (by kernel_rfl) rfl ?_
  refine DK.done (by kernel_rfl) (by kernel_rfl) ?_
  subst H
  exact AR.ret0 (fn := Try.f57) hG Try.func57 (by kernel_rfl) hc0 (r0 := .sc (.bool (rule_Key x c))) (by kernel_rfl) (WkV.refl _)
theorem mods_add_1_calls (x : Rule) (c : Rule) : ACalls Try.prog tab.S 57 [Rule.av x, .ep [.arr .u64 12 c.Match.Value, .arr .u64 12 c.Match.Care, .sc (.int .i64 c.Prio), .sl 60 (List.map Act.av c.Acts) false, .sc (.int .i64 c.Idle), .sc (.int .i64 c.Hard), .sc (.int .i64 c.Owner), .sc (.int .i64 c.Hits), .sc (.int .i64 c.Quiet), .sc (.int .i64 c.Age)] 0 none] [] (.sc (.bool (mods_add_1 x c))) [] := mods_add_1_walk x c _ rfl

/-! ### mods.add$2: function 58 -/
noncomputable def mods_add_2_F : Go.Sh.Fn := ⟨58, bodyOf Try.f58, 13⟩
def mods_add_2_k0 : List Kd := [.read, .pure, .pure, .pure, .pure, .read, .pure, .pure, .pure, .pure]
def mods_add_2 (x : Rule) (c : Rule) : Bool :=
  ((!(rule_Key x c)) && (rule_Overlap x c))
theorem mods_add_2_walk (x : Rule) (c : Rule) (r : Bool) (H : mods_add_2 x c = r) :
    ACalls Try.prog tab.S 58 [Rule.av x, .ep [.arr .u64 12 c.Match.Value, .arr .u64 12 c.Match.Care, .sc (.int .i64 c.Prio), .sl 60 (List.map Act.av c.Acts) false, .sc (.int .i64 c.Idle), .sc (.int .i64 c.Hard), .sc (.int .i64 c.Owner), .sc (.int .i64 c.Hits), .sc (.int .i64 c.Quiet), .sc (.int .i64 c.Age)] 0 none] [] (.sc (.bool r)) [] := by
  have hG := tab_ok
  have hm := mixed
  refine ACalls.of_AR (G := tab) mods_add_2_F (fn := Try.f58) Try.func58 (by kernel_rfl) (by kernel_rfl) (by kernel_rfl) (Nat.le_of_ble_eq_true (by kernel_rfl)) ?_
  intro c0 hc0
  replace hc0 : c0.m.length = 0 := hc0
  rw [mods_add_2] at H
  refine AR.seg hG hm 3 [1, 2] (k' := [.code [1, 0], .code [1, 1]]) (t' := [(1, .ep [.arr .u64 12 c.Match.Value, .arr .u64 12 c.Match.Care, .sc (.int .i64 c.Prio), .sl 60 (List.map Act.av c.Acts) false, .sc (.int .i64 c.Idle), .sc (.int .i64 c.Hard), .sc (.int .i64 c.Owner), .sc (.int .i64 c.Hits), .sc (.int .i64 c.Quiet), .sc (.int .i64 c.Age)] 0 none), (2, .ptr 0 0 none)]) (h' := [.box 51 (Rule.ch x)]) (by kernel_rfl) ?_
  refine AR.reg hm mods_add_2_k0 (by kernel_rfl) ?_
  refine DK.seg hG 2 [1, 2, 4, 5] (t' := [(1, .ep [.arr .u64 12 c.Match.Value, .arr .u64 12 c.Match.Care, .sc (.int .i64 c.Prio), .sl 60 (List.map Act.av c.Acts) false, .sc (.int .i64 c.Idle), .sc (.int .i64 c.Hard), .sc (.int .i64 c.Owner), .sc (.int .i64 c.Hits), .sc (.int .i64 c.Quiet), .sc (.int .i64 c.Age)] 0 none), (2, .ptr 0 0 none), (4, Rule.av x), (5, Rule.av c)]) (h' := [.box 51 (Rule.ch x)]) (by kernel_rfl) rfl ?_
  refine DK.op' [1, 2, 6] (t' := [(1, .ep [.arr .u64 12 c.Match.Value, .arr .u64 12 c.Match.Care, .sc (.int .i64 c.Prio), .sl 60 (List.map Act.av c.Acts) false, .sc (.int .i64 c.Idle), .sc (.int .i64 c.Hard), .sc (.int .i64 c.Owner), .sc (.int .i64 c.Hits), .sc (.int .i64 c.Quiet), .sc (.int .i64 c.Age)] 0 none), (2, .ptr 0 0 none), (6, .sc (.bool (rule_Key x c)))]) (h' := [.box 51 (Rule.ch x)]) (LSpec.callP' (rule_Key_calls x c) (by kernel_rfl)) (by kernel_rfl) rfl (by kernel_rfl) rfl ?_
  refine DK.seg hG 2 [1, 2, 8] (t' := [(1, .ep [.arr .u64 12 c.Match.Value, .arr .u64 12 c.Match.Care, .sc (.int .i64 c.Prio), .sl 60 (List.map Act.av c.Acts) false, .sc (.int .i64 c.Idle), .sc (.int .i64 c.Hard), .sc (.int .i64 c.Owner), .sc (.int .i64 c.Hits), .sc (.int .i64 c.Quiet), .sc (.int .i64 c.Age)] 0 none), (2, .ptr 0 0 none), (8, .sc (.bool (!(rule_Key x c))))]) (h' := [.box 51 (Rule.ch x)]) (by kernel_rfl) rfl ?_
  refine DK.mux 8 (!(rule_Key x c)) (j := 9) (h' := [.box 51 (Rule.ch x)]) (by kernel_rfl) (fun z => [(12, .sc (.bool (z && (rule_Overlap x c))))]) ?J1 (fun hb J => ?ht1) (fun hb J => ?hf1)
  case ht1 =>
    refine DK.seg hG 2 [8, 9, 10] (t' := [(8, .sc (.bool true)), (9, Rule.av x), (10, Rule.av c)]) (h' := [.box 51 (Rule.ch x)]) (by kernel_rfl) rfl ?_
    refine DK.op' [8, 11] (t' := [(8, .sc (.bool true)), (11, .sc (.bool (rule_Overlap x c)))]) (h' := [.box 51 (Rule.ch x)]) (LSpec.callP' (rule_Overlap_calls x c) (by kernel_rfl)) (by kernel_rfl) rfl (by kernel_rfl) rfl ?_
    exact DK.seg hG 1 [12] (by kernel_rfl) rfl J
  case hf1 =>
    exact DK.seg hG 4 [12] (by kernel_rfl) rfl J
  refine DK.seg hG 1 [3] (t' := [(3, .sc (.bool ((!(rule_Key x c)) && (rule_Overlap x c))))]) (h' := [.box 51 (Rule.ch x)]) (by kernel_rfl) rfl ?_
  refine DK.done (by kernel_rfl) (by kernel_rfl) ?_
  subst H
  exact AR.ret0 (fn := Try.f58) hG Try.func58 (by kernel_rfl) hc0 (r0 := .sc (.bool ((!(rule_Key x c)) && (rule_Overlap x c)))) (by kernel_rfl) (WkV.refl _)
theorem mods_add_2_calls (x : Rule) (c : Rule) : ACalls Try.prog tab.S 58 [Rule.av x, .ep [.arr .u64 12 c.Match.Value, .arr .u64 12 c.Match.Care, .sc (.int .i64 c.Prio), .sl 60 (List.map Act.av c.Acts) false, .sc (.int .i64 c.Idle), .sc (.int .i64 c.Hard), .sc (.int .i64 c.Owner), .sc (.int .i64 c.Hits), .sc (.int .i64 c.Quiet), .sc (.int .i64 c.Age)] 0 none] [] (.sc (.bool (mods_add_2 x c))) [] := mods_add_2_walk x c _ rfl

/-! ### mods.add: function 31 -/
noncomputable def mods_add_F : Go.Sh.Fn := ⟨31, bodyOf Try.f31, 53⟩
def mods_add_k5 : List Kd := [.pure, .pure, .read, .pure, .loud, .loud, .pure, .pure]
def mods_add_k4 : List Kd := [.pure, .pure, .pure, .pure, .pure, .pure, .pure, .pure, .pure]
def mods_add_k3 : List Kd := [.pure, .read, .pure, .pure, .pure, .read, .pure, .pure]
def mods_add_k8 : List Kd := [.pure, .pure, .read, .pure, .loud, .loud, .pure, .pure]
def mods_add_k7 : List Kd := [.pure, .pure, .pure, .pure, .pure, .pure, .pure, .pure, .pure]
def mods_add_k6 : List Kd := [.pure, .read, .pure, .pure, .pure, .read, .pure, .pure]
def mods_add_k2 : List Kd := [.pure, .pure, .pure, .pure, .pure, .pure, .pure, .pure, .pure, .read, .pure, .pure, .pure]
def mods_add_k1 : List Kd := [.pure, .pure, .read, .pure]
def mods_add_k0 : List Kd := [.read, .pure, .loud, .loud]
def mods_add_raw (list : List Rule) (m1 : Mod) (room : Int) : Option ((List Rule) × Int) :=
  (bif (decide ((slices_IndexFunc__api_Rule list (fun y0 => mods_add_1 y0 (mods_Rule m1))) ≥ 0)) then
    (ixO list (slices_IndexFunc__api_Rule list (fun y0 => mods_add_1 y0 (mods_Rule m1)))).bind fun x =>
    (bif (x.Owner != m1.Owner) then
      some ([], 7)
    else
      (bif (m1.Check && (slices_ContainsFunc__api_Rule list (fun y0 => mods_add_2 y0 (mods_Rule m1)))) then
        some ([], 6)
      else
        (bif ((decide ((slices_IndexFunc__api_Rule list (fun y0 => mods_add_1 y0 (mods_Rule m1))) < 0)) && (decide ((((List.map Rule.av list).length : Nat) : Int) ≥ room))) then
          some ([], 3)
        else
          fitO (list.length + [(mods_Rule m1)].length) 272 (
          some ((sortR (list ++ [(mods_Rule m1)])), 0)))))
  else
    (bif (m1.Check && (slices_ContainsFunc__api_Rule list (fun y0 => mods_add_2 y0 (mods_Rule m1)))) then
      some ([], 6)
    else
      (bif ((decide ((slices_IndexFunc__api_Rule list (fun y0 => mods_add_1 y0 (mods_Rule m1))) < 0)) && (decide ((((List.map Rule.av list).length : Nat) : Int) ≥ room))) then
        some ([], 3)
      else
        fitO (list.length + [(mods_Rule m1)].length) 272 (
        some ((sortR (list ++ [(mods_Rule m1)])), 0)))))
theorem mods_add_walk (list : List Rule) (m1 : Mod) (room : Int) (f_list : Bool) (r : (List Rule) × Int) (H : mods_add_raw list m1 room = some r) :
    ACalls Try.prog tab.S 31 [.sl 51 (List.map Rule.av list) f_list, Mod.av m1, .sc (.int .i64 room)] [] (.tup [.sl 51 (List.map Rule.av r.1) true, .sc (.int .i64 r.2)]) [] := by
  have hG := tab_ok
  have hm := mixed
  refine ACalls.of_AR (G := tab) mods_add_F (fn := Try.f31) Try.func31 (by kernel_rfl) (by kernel_rfl) (by kernel_rfl) (Nat.le_of_ble_eq_true (by kernel_rfl)) ?_
  intro c0 hc0
  replace hc0 : c0.m.length = 0 := hc0
  rw [mods_add_raw] at H
  refine AR.seg hG hm 3 [0, 2, 4] (k' := [.code [1, 0], .code [1, 1]]) (t' := [(0, .sl 51 (List.map Rule.av list) f_list), (2, .sc (.int .i64 room)), (4, .ptr 0 0 none)]) (h' := [.box 33 (Mod.ch m1)]) (by kernel_rfl) ?_
  refine AR.reg hm mods_add_k0 (by kernel_rfl) ?_
  refine DK.seg hG 1 [0, 2, 4, 11] (t' := [(0, .sl 51 (List.map Rule.av list) f_list), (2, .sc (.int .i64 room)), (4, .ptr 0 0 none), (11, Mod.av m1)]) (h' := [.box 33 (Mod.ch m1)]) (by kernel_rfl) rfl ?_
  refine DK.op' [0, 2, 4, 12] (t' := [(0, .sl 51 (List.map Rule.av list) f_list), (2, .sc (.int .i64 room)), (4, .ptr 0 0 none), (12, Rule.av (mods_Rule m1))]) (h' := [.box 33 (Mod.ch m1)]) (LSpec.callP' (mods_Rule_calls m1) (by kernel_rfl)) (by kernel_rfl) rfl (by kernel_rfl) rfl ?_
  refine DK.seg hG 2 [0, 2, 4, 8] (t' := [(0, .sl 51 (List.map Rule.av list) f_list), (2, .sc (.int .i64 room)), (4, .ptr 0 0 none), (8, .ptr 1 0 none)]) (h' := [.box 33 (Mod.ch m1), .box 51 (Rule.ch (mods_Rule m1))]) (by kernel_rfl) rfl ?_
  refine DK.done (by kernel_rfl) (by kernel_rfl) ?_
  refine AR.seg hG hm 1 [0, 2, 4, 8] (k' := [.code [1, 1, 0], .code [1, 1, 1]]) (t' := [(0, .sl 51 (List.map Rule.av list) f_list), (2, .sc (.int .i64 room)), (4, .ptr 0 0 none), (8, .ptr 1 0 none)]) (h' := [.box 33 (Mod.ch m1), .box 51 (Rule.ch (mods_Rule m1))]) (by kernel_rfl) ?_
  refine AR.reg hm mods_add_k1 (by kernel_rfl) ?_
  refine DK.seg hG 2 [0, 2, 4, 8, 13, 14] (t' := [(0, .sl 51 (List.map Rule.av list) f_list), (2, .sc (.int .i64 room)), (4, .ptr 0 0 none), (8, .ptr 1 0 none), (13, .sl 51 (List.map Rule.av list) f_list), (14, .fn 57 [.ptr 1 0 none])]) (h' := [.box 33 (Mod.ch m1), .box 51 (Rule.ch (mods_Rule m1))]) (by kernel_rfl) rfl ?_
  refine DK.op' [0, 2, 4, 8, 15] (t' := [(0, .sl 51 (List.map Rule.av list) f_list), (2, .sc (.int .i64 room)), (4, .ptr 0 0 none), (8, .ptr 1 0 none), (15, .sc (.int .i64 (slices_IndexFunc__api_Rule list (fun y0 => mods_add_1 y0 (mods_Rule m1)))))]) (h' := [.box 33 (Mod.ch m1), .box 51 (Rule.ch (mods_Rule m1))]) (LSpec.callF' (caps := []) (slices_IndexFunc__api_Rule_calls list 57 [.ep [.arr .u64 12 (((mods_Rule m1).Match).Value), .arr .u64 12 (((mods_Rule m1).Match).Care), .sc (.int .i64 ((mods_Rule m1).Prio)), .sl 60 (List.map Act.av ((mods_Rule m1).Acts)) false, .sc (.int .i64 ((mods_Rule m1).Idle)), .sc (.int .i64 ((mods_Rule m1).Hard)), .sc (.int .i64 ((mods_Rule m1).Owner)), .sc (.int .i64 ((mods_Rule m1).Hits)), .sc (.int .i64 ((mods_Rule m1).Quiet)), .sc (.int .i64 ((mods_Rule m1).Age))] 0 none] (fun y0 => mods_add_1 y0 (mods_Rule m1)) rfl rfl (fun y0 => mods_add_1_calls y0 (mods_Rule m1)) f_list) (by kernel_rfl) (.same rfl (.fn (caps := [.ptr 1 0 none]) (by kernel_rfl) .nil)) (by kernel_rfl) rfl rfl) (by kernel_rfl) rfl (by kernel_rfl) rfl ?_
  refine DK.seg hG 1 [0, 2, 4, 8, 9] (t' := [(0, .sl 51 (List.map Rule.av list) f_list), (2, .sc (.int .i64 room)), (4, .ptr 0 0 none), (8, .ptr 1 0 none), (9, .sc (.int .i64 (slices_IndexFunc__api_Rule list (fun y0 => mods_add_1 y0 (mods_Rule m1)))))]) (h' := [.box 33 (Mod.ch m1), .box 51 (Rule.ch (mods_Rule m1))]) (by kernel_rfl) rfl ?_
  refine DK.done (by kernel_rfl) (by kernel_rfl) ?_
  refine AR.seg hG hm 5 [0, 2, 4, 8, 9, 10] (k' := [.code [1, 1, 1, 1, 0, 0, 0], .code [1, 1, 1, 1, 0, 0, 1], .blk 0, .code [1, 1, 1, 1, 1]]) (t' := [(0, .sl 51 (List.map Rule.av list) f_list), (2, .sc (.int .i64 room)), (4, .ptr 0 0 none), (8, .ptr 1 0 none), (9, .sc (.int .i64 (slices_IndexFunc__api_Rule list (fun y0 => mods_add_1 y0 (mods_Rule m1))))), (10, .fn 58 [.ptr 1 0 none])]) (h' := [.box 33 (Mod.ch m1), .box 51 (Rule.ch (mods_Rule m1))]) (by kernel_rfl) ?_
  refine AR.reg hm mods_add_k2 (by kernel_rfl) ?_
  refine DK.seg hG 3 [0, 2, 4, 8, 9, 10, 20] (t' := [(0, .sl 51 (List.map Rule.av list) f_list), (2, .sc (.int .i64 room)), (4, .ptr 0 0 none), (8, .ptr 1 0 none), (9, .sc (.int .i64 (slices_IndexFunc__api_Rule list (fun y0 => mods_add_1 y0 (mods_Rule m1))))), (10, .fn 58 [.ptr 1 0 none]), (20, .sc (.bool (decide ((slices_IndexFunc__api_Rule list (fun y0 => mods_add_1 y0 (mods_Rule m1))) ≥ 0))))]) (h' := [.box 33 (Mod.ch m1), .box 51 (Rule.ch (mods_Rule m1))]) (by kernel_rfl) rfl ?_
  refine DK.split 20 (decide ((slices_IndexFunc__api_Rule list (fun y0 => mods_add_1 y0 (mods_Rule m1))) ≥ 0)) (by kernel_rfl) (fun hb => ?ht1) (fun hb => ?hf1)
  case ht1 =>
    replace H := cond_t hb H
    refine DK.seg hG 2 [0, 2, 4, 8, 9, 10, 20, 21, 22] (t' := [(0, .sl 51 (List.map Rule.av list) f_list), (2, .sc (.int .i64 room)), (4, .ptr 0 0 none), (8, .ptr 1 0 none), (9, .sc (.int .i64 (slices_IndexFunc__api_Rule list (fun y0 => mods_add_1 y0 (mods_Rule m1))))), (10, .fn 58 [.ptr 1 0 none]), (20, .sc (.bool true)), (21, .sl 51 (List.map Rule.av list) f_list), (22, .sc (.int .i64 (slices_IndexFunc__api_Rule list (fun y0 => mods_add_1 y0 (mods_Rule m1)))))]) (h' := [.box 33 (Mod.ch m1), .box 51 (Rule.ch (mods_Rule m1))]) (by kernel_rfl) rfl ?_
    obtain ⟨x, hv, H⟩ := Option.bind_eq_some_iff.1 H
    refine DK.op' [0, 2, 4, 8, 9, 10, 20, 23] (t' := [(0, .sl 51 (List.map Rule.av list) f_list), (2, .sc (.int .i64 room)), (4, .ptr 0 0 none), (8, .ptr 1 0 none), (9, .sc (.int .i64 (slices_IndexFunc__api_Rule list (fun y0 => mods_add_1 y0 (mods_Rule m1))))), (10, .fn 58 [.ptr 1 0 none]), (20, .sc (.bool true)), (23, .ep [.arr .u64 12 x.Match.Value, .arr .u64 12 x.Match.Care, .sc (.int .i64 x.Prio), .sl 60 (List.map Act.av x.Acts) false, .sc (.int .i64 x.Idle), .sc (.int .i64 x.Hard), .sc (.int .i64 x.Owner), .sc (.int .i64 x.Hits), .sc (.int .i64 x.Quiet), .sc (.int .i64 x.Age)] 0 none)]) (h' := [.box 33 (Mod.ch m1), .box 51 (Rule.ch (mods_Rule m1))]) (LSpec.index' (r := Rule.av x) (fs := [.arr .u64 12 x.Match.Value, .arr .u64 12 x.Match.Care, .sc (.int .i64 x.Prio), .sl 60 (List.map Act.av x.Acts) false, .sc (.int .i64 x.Idle), .sc (.int .i64 x.Hard), .sc (.int .i64 x.Owner), .sc (.int .i64 x.Hits), .sc (.int .i64 x.Quiet), .sc (.int .i64 x.Age)]) hG (rows := List.map Rule.av list) (j := (slices_IndexFunc__api_Rule list (fun y0 => mods_add_1 y0 (mods_Rule m1)))) (by kernel_rfl) (ixO_map hv _) (by kernel_rfl)) (by kernel_rfl) rfl (by kernel_rfl) rfl ?_
    refine DK.seg hG 7 [0, 2, 4, 8, 9, 10, 17] (t' := [(0, .sl 51 (List.map Rule.av list) f_list), (2, .sc (.int .i64 room)), (4, .ptr 0 0 none), (8, .ptr 1 0 none), (9, .sc (.int .i64 (slices_IndexFunc__api_Rule list (fun y0 => mods_add_1 y0 (mods_Rule m1))))), (10, .fn 58 [.ptr 1 0 none]), (17, .sc (.bool (x.Owner != m1.Owner)))]) (h' := [.box 33 (Mod.ch m1), .box 51 (Rule.ch (mods_Rule m1))]) (by kernel_rfl) rfl ?_
    refine DK.done (by kernel_rfl) (by kernel_rfl) ?_
    refine AR.cond (.tmp 17) (x.Owner != m1.Owner) (by kernel_rfl) (by kernel_rfl) (fun hb => ?ht2) (fun hb => ?hf2)
    case ht2 =>
      replace H := cond_t hb H
      refine AR.seg hG hm 2 [6, 7] (k' := [.code [1, 1, 1, 1, 0, 0, 1, 0, 1], .blk 0, .code [1, 1, 1, 1, 1]]) (t' := [(6, .sl 0 [] true), (7, .sc (.int .i64 7))]) (h' := [.box 33 (Mod.ch m1), .box 51 (Rule.ch (mods_Rule m1))]) (by kernel_rfl) ?_
      obtain rfl := Option.some.inj H
      exact AR.ret0 (fn := Try.f31) hG Try.func31 (by kernel_rfl) hc0 (r0 := .tup [.sl 0 [] true, .sc (.int .i64 7)]) (by kernel_rfl) (WkV.tup (Wks.cons (WkV.sl (Wk1.nil 51 true)) trivial trivial (Wks.cons (WkV.refl _) trivial trivial Wks.nil)))
    case hf2 =>
      replace H := cond_f hb H
      refine AR.seg hG hm 1 [0, 2, 4, 8, 9, 10] (k' := [.code [1, 1, 1, 1, 0, 0, 1, 1, 0], .code [1, 1, 1, 1, 0, 0, 1, 1, 1], .blk 0, .code [1, 1, 1, 1, 1]]) (t' := [(0, .sl 51 (List.map Rule.av list) f_list), (2, .sc (.int .i64 room)), (4, .ptr 0 0 none), (8, .ptr 1 0 none), (9, .sc (.int .i64 (slices_IndexFunc__api_Rule list (fun y0 => mods_add_1 y0 (mods_Rule m1))))), (10, .fn 58 [.ptr 1 0 none])]) (h' := [.box 33 (Mod.ch m1), .box 51 (Rule.ch (mods_Rule m1))]) (by kernel_rfl) ?_
      refine AR.reg hm mods_add_k3 (by kernel_rfl) ?_
      refine DK.seg hG 3 [0, 2, 8, 9, 10, 33] (t' := [(0, .sl 51 (List.map Rule.av list) f_list), (2, .sc (.int .i64 room)), (8, .ptr 1 0 none), (9, .sc (.int .i64 (slices_IndexFunc__api_Rule list (fun y0 => mods_add_1 y0 (mods_Rule m1))))), (10, .fn 58 [.ptr 1 0 none]), (33, .sc (.bool m1.Check))]) (h' := [.box 33 (Mod.ch m1), .box 51 (Rule.ch (mods_Rule m1))]) (by kernel_rfl) rfl ?_
      refine DK.mux 33 m1.Check (j := 7) (h' := [.box 33 (Mod.ch m1), .box 51 (Rule.ch (mods_Rule m1))]) (by kernel_rfl) (fun z => [(0, .sl 51 (List.map Rule.av list) f_list), (2, .sc (.int .i64 room)), (8, .ptr 1 0 none), (9, .sc (.int .i64 (slices_IndexFunc__api_Rule list (fun y0 => mods_add_1 y0 (mods_Rule m1))))), (37, .sc (.bool (z && (slices_ContainsFunc__api_Rule list (fun y0 => mods_add_2 y0 (mods_Rule m1))))))]) ?J3 (fun hb J => ?ht3) (fun hb J => ?hf3)
      case ht3 =>
        refine DK.seg hG 2 [0, 2, 8, 9, 33, 34, 35] (t' := [(0, .sl 51 (List.map Rule.av list) f_list), (2, .sc (.int .i64 room)), (8, .ptr 1 0 none), (9, .sc (.int .i64 (slices_IndexFunc__api_Rule list (fun y0 => mods_add_1 y0 (mods_Rule m1))))), (33, .sc (.bool true)), (34, .sl 51 (List.map Rule.av list) f_list), (35, .fn 58 [.ptr 1 0 none])]) (h' := [.box 33 (Mod.ch m1), .box 51 (Rule.ch (mods_Rule m1))]) (by kernel_rfl) rfl ?_
        refine DK.op' [0, 2, 8, 9, 33, 36] (t' := [(0, .sl 51 (List.map Rule.av list) f_list), (2, .sc (.int .i64 room)), (8, .ptr 1 0 none), (9, .sc (.int .i64 (slices_IndexFunc__api_Rule list (fun y0 => mods_add_1 y0 (mods_Rule m1))))), (33, .sc (.bool true)), (36, .sc (.bool (slices_ContainsFunc__api_Rule list (fun y0 => mods_add_2 y0 (mods_Rule m1)))))]) (h' := [.box 33 (Mod.ch m1), .box 51 (Rule.ch (mods_Rule m1))]) (LSpec.callF' (caps := []) (slices_ContainsFunc__api_Rule_calls list 58 [.ep [.arr .u64 12 (((mods_Rule m1).Match).Value), .arr .u64 12 (((mods_Rule m1).Match).Care), .sc (.int .i64 ((mods_Rule m1).Prio)), .sl 60 (List.map Act.av ((mods_Rule m1).Acts)) false, .sc (.int .i64 ((mods_Rule m1).Idle)), .sc (.int .i64 ((mods_Rule m1).Hard)), .sc (.int .i64 ((mods_Rule m1).Owner)), .sc (.int .i64 ((mods_Rule m1).Hits)), .sc (.int .i64 ((mods_Rule m1).Quiet)), .sc (.int .i64 ((mods_Rule m1).Age))] 0 none] (fun y0 => mods_add_2 y0 (mods_Rule m1)) rfl rfl (fun y0 => mods_add_2_calls y0 (mods_Rule m1)) f_list) (by kernel_rfl) (.same rfl (.fn (caps := [.ptr 1 0 none]) (by kernel_rfl) .nil)) (by kernel_rfl) rfl rfl) (by kernel_rfl) rfl (by kernel_rfl) rfl ?_
        exact DK.seg hG 1 [0, 2, 8, 9, 37] (by kernel_rfl) rfl J
      case hf3 =>
        exact DK.seg hG 4 [0, 2, 8, 9, 37] (by kernel_rfl) rfl J
      refine DK.seg hG 1 [0, 2, 8, 9, 30] (t' := [(0, .sl 51 (List.map Rule.av list) f_list), (2, .sc (.int .i64 room)), (8, .ptr 1 0 none), (9, .sc (.int .i64 (slices_IndexFunc__api_Rule list (fun y0 => mods_add_1 y0 (mods_Rule m1))))), (30, .sc (.bool (m1.Check && (slices_ContainsFunc__api_Rule list (fun y0 => mods_add_2 y0 (mods_Rule m1))))))]) (h' := [.box 33 (Mod.ch m1), .box 51 (Rule.ch (mods_Rule m1))]) (by kernel_rfl) rfl ?_
      refine DK.done (by kernel_rfl) (by kernel_rfl) ?_
      refine AR.cond (.tmp 30) (m1.Check && (slices_ContainsFunc__api_Rule list (fun y0 => mods_add_2 y0 (mods_Rule m1)))) (by kernel_rfl) (by kernel_rfl) (fun hb => ?ht4) (fun hb => ?hf4)
      case ht4 =>
        replace H := cond_t hb H
        refine AR.seg hG hm 2 [6, 7] (k' := [.code [1, 1, 1, 1, 0, 0, 1, 1, 1, 0, 1], .blk 0, .code [1, 1, 1, 1, 1]]) (t' := [(6, .sl 0 [] true), (7, .sc (.int .i64 6))]) (h' := [.box 33 (Mod.ch m1), .box 51 (Rule.ch (mods_Rule m1))]) (by kernel_rfl) ?_
        obtain rfl := Option.some.inj H
        exact AR.ret0 (fn := Try.f31) hG Try.func31 (by kernel_rfl) hc0 (r0 := .tup [.sl 0 [] true, .sc (.int .i64 6)]) (by kernel_rfl) (WkV.tup (Wks.cons (WkV.sl (Wk1.nil 51 true)) trivial trivial (Wks.cons (WkV.refl _) trivial trivial Wks.nil)))
      case hf4 =>
        replace H := cond_f hb H
        refine AR.seg hG hm 1 [0, 2, 8, 9] (k' := [.code [1, 1, 1, 1, 0, 0, 1, 1, 1, 1, 0], .code [1, 1, 1, 1, 0, 0, 1, 1, 1, 1, 1], .blk 0, .code [1, 1, 1, 1, 1]]) (t' := [(0, .sl 51 (List.map Rule.av list) f_list), (2, .sc (.int .i64 room)), (8, .ptr 1 0 none), (9, .sc (.int .i64 (slices_IndexFunc__api_Rule list (fun y0 => mods_add_1 y0 (mods_Rule m1)))))]) (h' := [.box 33 (Mod.ch m1), .box 51 (Rule.ch (mods_Rule m1))]) (by kernel_rfl) ?_
        refine AR.reg hm mods_add_k4 (by kernel_rfl) ?_
        refine DK.seg hG 3 [0, 2, 8, 41] (t' := [(0, .sl 51 (List.map Rule.av list) f_list), (2, .sc (.int .i64 room)), (8, .ptr 1 0 none), (41, .sc (.bool (decide ((slices_IndexFunc__api_Rule list (fun y0 => mods_add_1 y0 (mods_Rule m1))) < 0))))]) (h' := [.box 33 (Mod.ch m1), .box 51 (Rule.ch (mods_Rule m1))]) (by kernel_rfl) rfl ?_
        refine DK.mux 41 (decide ((slices_IndexFunc__api_Rule list (fun y0 => mods_add_1 y0 (mods_Rule m1))) < 0)) (j := 8) (h' := [.box 33 (Mod.ch m1), .box 51 (Rule.ch (mods_Rule m1))]) (by kernel_rfl) (fun z => [(0, .sl 51 (List.map Rule.av list) f_list), (8, .ptr 1 0 none), (46, .sc (.bool (z && (decide ((((List.map Rule.av list).length : Nat) : Int) ≥ room)))))]) ?J5 (fun hb J => ?ht5) (fun hb J => ?hf5)
        case ht5 =>
          exact DK.seg hG 5 [0, 8, 46] (by kernel_rfl) rfl J
        case hf5 =>
          exact DK.seg hG 5 [0, 8, 46] (by kernel_rfl) rfl J
        refine DK.seg hG 1 [0, 8, 38] (t' := [(0, .sl 51 (List.map Rule.av list) f_list), (8, .ptr 1 0 none), (38, .sc (.bool ((decide ((slices_IndexFunc__api_Rule list (fun y0 => mods_add_1 y0 (mods_Rule m1))) < 0)) && (decide ((((List.map Rule.av list).length : Nat) : Int) ≥ room)))))]) (h' := [.box 33 (Mod.ch m1), .box 51 (Rule.ch (mods_Rule m1))]) (by kernel_rfl) rfl ?_
        refine DK.done (by kernel_rfl) (by kernel_rfl) ?_
        refine AR.cond (.tmp 38) ((decide ((slices_IndexFunc__api_Rule list (fun y0 => mods_add_1 y0 (mods_Rule m1))) < 0)) && (decide ((((List.map Rule.av list).length : Nat) : Int) ≥ room))) (by kernel_rfl) (by kernel_rfl) (fun hb => ?ht6) (fun hb => ?hf6)
        case ht6 =>
          replace H := cond_t hb H
          refine AR.seg hG hm 2 [6, 7] (k' := [.code [1, 1, 1, 1, 0, 0, 1, 1, 1, 1, 1, 0, 1], .blk 0, .code [1, 1, 1, 1, 1]]) (t' := [(6, .sl 0 [] true), (7, .sc (.int .i64 3))]) (h' := [.box 33 (Mod.ch m1), .box 51 (Rule.ch (mods_Rule m1))]) (by kernel_rfl) ?_
          obtain rfl := Option.some.inj H
          exact AR.ret0 (fn := Try.f31) hG Try.func31 (by kernel_rfl) hc0 (r0 := .tup [.sl 0 [] true, .sc (.int .i64 3)]) (by kernel_rfl) (WkV.tup (Wks.cons (WkV.sl (Wk1.nil 51 true)) trivial trivial (Wks.cons (WkV.refl _) trivial trivial Wks.nil)))
        case hf6 =>
          replace H := cond_f hb H
          refine AR.seg hG hm 3 [0, 8] (k' := [.code [1, 1, 1, 1, 1, 0], .code [1, 1, 1, 1, 1, 1]]) (t' := [(0, .sl 51 (List.map Rule.av list) f_list), (8, .ptr 1 0 none)]) (h' := [.box 33 (Mod.ch m1), .box 51 (Rule.ch (mods_Rule m1))]) (by kernel_rfl) ?_
          refine AR.reg hm mods_add_k5 (by kernel_rfl) ?_
          refine DK.seg hG 1 [8, 47] (t' := [(8, .ptr 1 0 none), (47, .sl 51 (List.map Rule.av list) f_list)]) (h' := [.box 33 (Mod.ch m1), .box 51 (Rule.ch (mods_Rule m1))]) (by kernel_rfl) rfl ?_
          refine DK.op' [8, 48] (t' := [(8, .ptr 1 0 none), (48, .sl 51 (List.map Rule.av list) true)]) (h' := [.box 33 (Mod.ch m1), .box 51 (Rule.ch (mods_Rule m1))]) (LSpec.callP' (rule_Copy_ok list f_list) (by kernel_rfl)) (by kernel_rfl) rfl (by kernel_rfl) rfl ?_
          refine DK.seg hG 2 [48, 50] (t' := [(48, .sl 51 (List.map Rule.av list) true), (50, .sl 51 (List.map Rule.av [(mods_Rule m1)]) true)]) (h' := [.box 33 (Mod.ch m1), .box 51 (Rule.ch (mods_Rule m1))]) (by kernel_rfl) rfl ?_
          obtain ⟨hfit, H⟩ := fitO_some H
          refine DK.op' [51] (t' := [(51, .own 2 1)]) (h' := [.box 33 (Mod.ch m1), .box 51 (Rule.ch (mods_Rule m1)), .row 51 (List.map Rule.av (list ++ [(mods_Rule m1)])) 1 true]) (LSpec.appendN hG Rule.av list [(mods_Rule m1)] 51 272 hfit (by kernel_rfl)) (by kernel_rfl) (by kernel_rfl) (by kernel_rfl) rfl ?_
          refine DK.op' [52] (t' := [(52, .sl 51 (List.map Rule.av (sortR (list ++ [(mods_Rule m1)]))) true)]) (h' := [.box 33 (Mod.ch m1), .box 51 (Rule.ch (mods_Rule m1)), .row 51 (List.map Rule.av (list ++ [(mods_Rule m1)])) 1 false]) (LSpec.callC' [2] (rule_Sort_ok (list ++ [(mods_Rule m1)]) false) (by kernel_rfl) (by kernel_rfl)) (by kernel_rfl) (by kernel_rfl) (by kernel_rfl) rfl ?_
          refine DK.seg hG 2 [6, 7] (t' := [(6, .sl 51 (List.map Rule.av (sortR (list ++ [(mods_Rule m1)]))) true), (7, .sc (.int .i64 0))]) (h' := [.box 33 (Mod.ch m1), .box 51 (Rule.ch (mods_Rule m1)), .row 51 (List.map Rule.av (list ++ [(mods_Rule m1)])) 1 false]) (by kernel_rfl) rfl ?_
          refine DK.done (by kernel_rfl) (by kernel_rfl) ?_
          obtain rfl := Option.some.inj H
          exact AR.ret0 (fn := Try.f31) hG Try.func31 (by kernel_rfl) hc0 (r0 := .tup [.sl 51 (List.map Rule.av (sortR (list ++ [(mods_Rule m1)]))) true, .sc (.int .i64 0)]) (by kernel_rfl) (WkV.refl _)
  case hf1 =>
    replace H := cond_f hb H
    refine DK.seg hG 10 [0, 2, 4, 8, 9, 10, 17] (t' := [(0, .sl 51 (List.map Rule.av list) f_list), (2, .sc (.int .i64 room)), (4, .ptr 0 0 none), (8, .ptr 1 0 none), (9, .sc (.int .i64 (slices_IndexFunc__api_Rule list (fun y0 => mods_add_1 y0 (mods_Rule m1))))), (10, .fn 58 [.ptr 1 0 none]), (17, .sc (.bool false))]) (h' := [.box 33 (Mod.ch m1), .box 51 (Rule.ch (mods_Rule m1))]) (by kernel_rfl) rfl ?_
    refine DK.done (by kernel_rfl) (by kernel_rfl) ?_
    refine AR.seg hG hm 2 [0, 2, 4, 8, 9, 10] (k' := [.code [1, 1, 1, 1, 0, 0, 1, 1, 0], .code [1, 1, 1, 1, 0, 0, 1, 1, 1], .blk 0, .code [1, 1, 1, 1, 1]]) (t' := [(0, .sl 51 (List.map Rule.av list) f_list), (2, .sc (.int .i64 room)), (4, .ptr 0 0 none), (8, .ptr 1 0 none), (9, .sc (.int .i64 (slices_IndexFunc__api_Rule list (fun y0 => mods_add_1 y0 (mods_Rule m1))))), (10, .fn 58 [.ptr 1 0 none])]) (h' := [.box 33 (Mod.ch m1), .box 51 (Rule.ch (mods_Rule m1))]) (by kernel_rfl) ?_
    refine AR.reg hm mods_add_k6 (by kernel_rfl) ?_
    refine DK.seg hG 3 [0, 2, 8, 9, 10, 33] (t' := [(0, .sl 51 (List.map Rule.av list) f_list), (2, .sc (.int .i64 room)), (8, .ptr 1 0 none), (9, .sc (.int .i64 (slices_IndexFunc__api_Rule list (fun y0 => mods_add_1 y0 (mods_Rule m1))))), (10, .fn 58 [.ptr 1 0 none]), (33, .sc (.bool m1.Check))]) (h' := [.box 33 (Mod.ch m1), .box 51 (Rule.ch (mods_Rule m1))]) (by kernel_rfl) rfl ?_
    refine DK.mux 33 m1.Check (j := 7) (h' := [.box 33 (Mod.ch m1), .box 51 (Rule.ch (mods_Rule m1))]) (by kernel_rfl) (fun z => [(0, .sl 51 (List.map Rule.av list) f_list), (2, .sc (.int .i64 room)), (8, .ptr 1 0 none), (9, .sc (.int .i64 (slices_IndexFunc__api_Rule list (fun y0 => mods_add_1 y0 (mods_Rule m1))))), (37, .sc (.bool (z && (slices_ContainsFunc__api_Rule list (fun y0 => mods_add_2 y0 (mods_Rule m1))))))]) ?J7 (fun hb J => ?ht7) (fun hb J => ?hf7)
    case ht7 =>
      refine DK.seg hG 2 [0, 2, 8, 9, 33, 34, 35] (t' := [(0, .sl 51 (List.map Rule.av list) f_list), (2, .sc (.int .i64 room)), (8, .ptr 1 0 none), (9, .sc (.int .i64 (slices_IndexFunc__api_Rule list (fun y0 => mods_add_1 y0 (mods_Rule m1))))), (33, .sc (.bool true)), (34, .sl 51 (List.map Rule.av list) f_list), (35, .fn 58 [.ptr 1 0 none])]) (h' := [.box 33 (Mod.ch m1), .box 51 (Rule.ch (mods_Rule m1))]) (by kernel_rfl) rfl ?_
      refine DK.op' [0, 2, 8, 9, 33, 36] (t' := [(0, .sl 51 (List.map Rule.av list) f_list), (2, .sc (.int .i64 room)), (8, .ptr 1 0 none), (9, .sc (.int .i64 (slices_IndexFunc__api_Rule list (fun y0 => mods_add_1 y0 (mods_Rule m1))))), (33, .sc (.bool true)), (36, .sc (.bool (slices_ContainsFunc__api_Rule list (fun y0 => mods_add_2 y0 (mods_Rule m1)))))]) (h' := [.box 33 (Mod.ch m1), .box 51 (Rule.ch (mods_Rule m1))]) (LSpec.callF' (caps := []) (slices_ContainsFunc__api_Rule_calls list 58 [.ep [.arr .u64 12 (((mods_Rule m1).Match).Value), .arr .u64 12 (((mods_Rule m1).Match).Care), .sc (.int .i64 ((mods_Rule m1).Prio)), .sl 60 (List.map Act.av ((mods_Rule m1).Acts)) false, .sc (.int .i64 ((mods_Rule m1).Idle)), .sc (.int .i64 ((mods_Rule m1).Hard)), .sc (.int .i64 ((mods_Rule m1).Owner)), .sc (.int .i64 ((mods_Rule m1).Hits)), .sc (.int .i64 ((mods_Rule m1).Quiet)), .sc (.int .i64 ((mods_Rule m1).Age))] 0 none] (fun y0 => mods_add_2 y0 (mods_Rule m1)) rfl rfl (fun y0 => mods_add_2_calls y0 (mods_Rule m1)) f_list) (by kernel_rfl) (.same rfl (.fn (caps := [.ptr 1 0 none]) (by kernel_rfl) .nil)) (by kernel_rfl) rfl rfl) (by kernel_rfl) rfl (by kernel_rfl) rfl ?_
      exact DK.seg hG 1 [0, 2, 8, 9, 37] (by kernel_rfl) rfl J
    case hf7 =>
      exact DK.seg hG 4 [0, 2, 8, 9, 37] (by kernel_rfl) rfl J
    refine DK.seg hG 1 [0, 2, 8, 9, 30] (t' := [(0, .sl 51 (List.map Rule.av list) f_list), (2, .sc (.int .i64 room)), (8, .ptr 1 0 none), (9, .sc (.int .i64 (slices_IndexFunc__api_Rule list (fun y0 => mods_add_1 y0 (mods_Rule m1))))), (30, .sc (.bool (m1.Check && (slices_ContainsFunc__api_Rule list (fun y0 => mods_add_2 y0 (mods_Rule m1))))))]) (h' := [.box 33 (Mod.ch m1), .box 51 (Rule.ch (mods_Rule m1))]) (by kernel_rfl) rfl ?_
    refine DK.done (by kernel_rfl) (by kernel_rfl) ?_
    refine AR.cond (.tmp 30) (m1.Check && (slices_ContainsFunc__api_Rule list (fun y0 => mods_add_2 y0 (mods_Rule m1)))) (by kernel_rfl) (by kernel_rfl) (fun hb => ?ht8) (fun hb => ?hf8)
    case ht8 =>
      replace H := cond_t hb H
      refine AR.seg hG hm 2 [6, 7] (k' := [.code [1, 1, 1, 1, 0, 0, 1, 1, 1, 0, 1], .blk 0, .code [1, 1, 1, 1, 1]]) (t' := [(6, .sl 0 [] true), (7, .sc (.int .i64 6))]) (h' := [.box 33 (Mod.ch m1), .box 51 (Rule.ch (mods_Rule m1))]) (by kernel_rfl) ?_
      obtain rfl := Option.some.inj H
      exact AR.ret0 (fn := Try.f31) hG Try.func31 (by kernel_rfl) hc0 (r0 := .tup [.sl 0 [] true, .sc (.int .i64 6)]) (by kernel_rfl) (WkV.tup (Wks.cons (WkV.sl (Wk1.nil 51 true)) trivial trivial (Wks.cons (WkV.refl _) trivial trivial Wks.nil)))
    case hf8 =>
      replace H := cond_f hb H
      refine AR.seg hG hm 1 [0, 2, 8, 9] (k' := [.code [1, 1, 1, 1, 0, 0, 1, 1, 1, 1, 0], .code [1, 1, 1, 1, 0, 0, 1, 1, 1, 1, 1], .blk 0, .code [1, 1, 1, 1, 1]]) (t' := [(0, .sl 51 (List.map Rule.av list) f_list), (2, .sc (.int .i64 room)), (8, .ptr 1 0 none), (9, .sc (.int .i64 (slices_IndexFunc__api_Rule list (fun y0 => mods_add_1 y0 (mods_Rule m1)))))]) (h' := [.box 33 (Mod.ch m1), .box 51 (Rule.ch (mods_Rule m1))]) (by kernel_rfl) ?_
      refine AR.reg hm mods_add_k7 (by kernel_rfl) ?_
      refine DK.seg hG 3 [0, 2, 8, 41] (t' := [(0, .sl 51 (List.map Rule.av list) f_list), (2, .sc (.int .i64 room)), (8, .ptr 1 0 none), (41, .sc (.bool (decide ((slices_IndexFunc__api_Rule list (fun y0 => mods_add_1 y0 (mods_Rule m1))) < 0))))]) (h' := [.box 33 (Mod.ch m1), .box 51 (Rule.ch (mods_Rule m1))]) (by kernel_rfl) rfl ?_
      refine DK.mux 41 (decide ((slices_IndexFunc__api_Rule list (fun y0 => mods_add_1 y0 (mods_Rule m1))) < 0)) (j := 8) (h' := [.box 33 (Mod.ch m1), .box 51 (Rule.ch (mods_Rule m1))]) (by kernel_rfl) (fun z => [(0, .sl 51 (List.map Rule.av list) f_list), (8, .ptr 1 0 none), (46, .sc (.bool (z && (decide ((((List.map Rule.av list).length : Nat) : Int) ≥ room)))))]) ?J9 (fun hb J => ?ht9) (fun hb J => ?hf9)
      case ht9 =>
        exact DK.seg hG 5 [0, 8, 46] (by kernel_rfl) rfl J
      case hf9 =>
        exact DK.seg hG 5 [0, 8, 46] (by kernel_rfl) rfl J
      refine DK.seg hG 1 [0, 8, 38] (t' := [(0, .sl 51 (List.map Rule.av list) f_list), (8, .ptr 1 0 none), (38, .sc (.bool ((decide ((slices_IndexFunc__api_Rule list (fun y0 => mods_add_1 y0 (mods_Rule m1))) < 0)) && (decide ((((List.map Rule.av list).length : Nat) : Int) ≥ room)))))]) (h' := [.box 33 (Mod.ch m1), .box 51 (Rule.ch (mods_Rule m1))]) (by kernel_rfl) rfl ?_
      refine DK.done (by kernel_rfl) (by kernel_rfl) ?_
      refine AR.cond (.tmp 38) ((decide ((slices_IndexFunc__api_Rule list (fun y0 => mods_add_1 y0 (mods_Rule m1))) < 0)) && (decide ((((List.map Rule.av list).length : Nat) : Int) ≥ room))) (by kernel_rfl) (by kernel_rfl) (fun hb => ?ht10) (fun hb => ?hf10)
      case ht10 =>
        replace H := cond_t hb H
        refine AR.seg hG hm 2 [6, 7] (k' := [.code [1, 1, 1, 1, 0, 0, 1, 1, 1, 1, 1, 0, 1], .blk 0, .code [1, 1, 1, 1, 1]]) (t' := [(6, .sl 0 [] true), (7, .sc (.int .i64 3))]) (h' := [.box 33 (Mod.ch m1), .box 51 (Rule.ch (mods_Rule m1))]) (by kernel_rfl) ?_
        obtain rfl := Option.some.inj H
        exact AR.ret0 (fn := Try.f31) hG Try.func31 (by kernel_rfl) hc0 (r0 := .tup [.sl 0 [] true, .sc (.int .i64 3)]) (by kernel_rfl) (WkV.tup (Wks.cons (WkV.sl (Wk1.nil 51 true)) trivial trivial (Wks.cons (WkV.refl _) trivial trivial Wks.nil)))
      case hf10 =>
        replace H := cond_f hb H
        refine AR.seg hG hm 3 [0, 8] (k' := [.code [1, 1, 1, 1, 1, 0], .code [1, 1, 1, 1, 1, 1]]) (t' := [(0, .sl 51 (List.map Rule.av list) f_list), (8, .ptr 1 0 none)]) (h' := [.box 33 (Mod.ch m1), .box 51 (Rule.ch (mods_Rule m1))]) (by kernel_rfl) ?_
        refine AR.reg hm mods_add_k8 (by kernel_rfl) ?_
        refine DK.seg hG 1 [8, 47] (t' := [(8, .ptr 1 0 none), (47, .sl 51 (List.map Rule.av list) f_list)]) (h' := [.box 33 (Mod.ch m1), .box 51 (Rule.ch (mods_Rule m1))]) (by kernel_rfl) rfl ?_
        refine DK.op' [8, 48] (t' := [(8, .ptr 1 0 none), (48, .sl 51 (List.map Rule.av list) true)]) (h' := [.box 33 (Mod.ch m1), .box 51 (Rule.ch (mods_Rule m1))]) (LSpec.callP' (rule_Copy_ok list f_list) (by kernel_rfl)) (by kernel_rfl) rfl (by kernel_rfl) rfl ?_
        refine DK.seg hG 2 [48, 50] (t' := [(48, .sl 51 (List.map Rule.av list) true), (50, .sl 51 (List.map Rule.av [(mods_Rule m1)]) true)]) (h' := [.box 33 (Mod.ch m1), .box 51 (Rule.ch (mods_Rule m1))]) (by kernel_rfl) rfl ?_
        obtain ⟨hfit, H⟩ := fitO_some H
        refine DK.op' [51] (t' := [(51, .own 2 1)]) (h' := [.box 33 (Mod.ch m1), .box 51 (Rule.ch (mods_Rule m1)), .row 51 (List.map Rule.av (list ++ [(mods_Rule m1)])) 1 true]) (LSpec.appendN hG Rule.av list [(mods_Rule m1)] 51 272 hfit (by kernel_rfl)) (by kernel_rfl) (by kernel_rfl) (by kernel_rfl) rfl ?_
        refine DK.op' [52] (t' := [(52, .sl 51 (List.map Rule.av (sortR (list ++ [(mods_Rule m1)]))) true)]) (h' := [.box 33 (Mod.ch m1), .box 51 (Rule.ch (mods_Rule m1)), .row 51 (List.map Rule.av (list ++ [(mods_Rule m1)])) 1 false]) (LSpec.callC' [2] (rule_Sort_ok (list ++ [(mods_Rule m1)]) false) (by kernel_rfl) (by kernel_rfl)) (by kernel_rfl) (by kernel_rfl) (by kernel_rfl) rfl ?_
        refine DK.seg hG 2 [6, 7] (t' := [(6, .sl 51 (List.map Rule.av (sortR (list ++ [(mods_Rule m1)]))) true), (7, .sc (.int .i64 0))]) (h' := [.box 33 (Mod.ch m1), .box 51 (Rule.ch (mods_Rule m1)), .row 51 (List.map Rule.av (list ++ [(mods_Rule m1)])) 1 false]) (by kernel_rfl) rfl ?_
        refine DK.done (by kernel_rfl) (by kernel_rfl) ?_
        obtain rfl := Option.some.inj H
        exact AR.ret0 (fn := Try.f31) hG Try.func31 (by kernel_rfl) hc0 (r0 := .tup [.sl 51 (List.map Rule.av (sortR (list ++ [(mods_Rule m1)]))) true, .sc (.int .i64 0)]) (by kernel_rfl) (WkV.refl _)

end Go.Proofs.Ytlfiemphadkimaa

set_option linter.unusedVariables false
set_option linter.unusedSimpArgs false
set_option maxRecDepth 100000
set_option maxHeartbeats 4000000
namespace Go.Proofs.Ytlfiemphadkimaa
open Go.Sh
def addM (l : List Rule) (m : Mod) (room : Int) : List Rule × Int :=
  match l.find? (fun x => rule_Key x (mods_Rule m)) with
  | some x => if x.Owner != m.Owner then ([], 7) else if m.Check && l.any (fun x => mods_add_2 x (mods_Rule m)) then ([], 6) else (sortR (l ++ [mods_Rule m]), 0)
  | none => if m.Check && l.any (fun x => mods_add_2 x (mods_Rule m)) then ([], 6) else if decide ((l.length : Int) ≥ room) then ([], 3) else (sortR (l ++ [mods_Rule m]), 0)
def addO (l : List Rule) (m : Mod) (room : Int) : Option (List Rule × Int) := if l.length ≤ 1000000 then some (addM l m room) else none
theorem mods_add_eq (l : List Rule) (m : Mod) (room : Int) (h : l.length ≤ 1000000) : mods_add_raw l m room = some (addM l m room) := by
  rw [mods_add_raw, slices_ContainsFunc__api_Rule_any, slices_IndexFunc__api_Rule_idx, fitO_eq (by rw [List.length_cons, List.length_nil]; omega)]
  unfold addM idxF
  have e1 : (fun y0 => mods_add_1 y0 (mods_Rule m)) = (fun y0 => rule_Key y0 (mods_Rule m)) := rfl
  rw [e1, List.length_map]
  cases hf : l.findIdx? (fun y0 => rule_Key y0 (mods_Rule m)) with
  | none =>
    have hn : l.find? (fun x => rule_Key x (mods_Rule m)) = none := by
      rw [List.find?_eq_none]
      intro x hx
      simp [List.findIdx?_eq_none_iff.1 hf x hx]
    rw [hn]
    simp only [Int.reduceNeg, ge_iff_le, Int.reduceLE, decide_false, cond_false, Int.reduceLT, decide_true, Bool.true_and]
    cases m.Check && l.any (fun x => mods_add_2 x (mods_Rule m))
    · cases decide (room ≤ (l.length : Int)) <;> rfl
    · rfl
  | some i =>
    obtain ⟨hlt, hp, hbe⟩ := List.findIdx?_eq_some_iff_getElem.1 hf
    have hn : l.find? (fun x => rule_Key x (mods_Rule m)) = some l[i] := by
      rw [List.find?_eq_some_iff_getElem]
      exact ⟨hp, i, hlt, rfl, fun j hj => by simpa using hbe j hj⟩
    rw [hn]
    simp only
    rw [decide_eq_true (show ((i : Nat) : Int) ≥ 0 by omega), cond_true, ixO_lt hlt, Option.bind_some, decide_eq_false (show ¬ ((i : Nat) : Int) < 0 by omega), Bool.false_and]
    cases l[i].Owner != m.Owner
    · cases m.Check && l.any (fun x => mods_add_2 x (mods_Rule m)) <;> rfl
    · rfl
theorem mods_add_ok (l : List Rule) (m : Mod) (room : Int) (f : Bool) (x : List Rule × Int) (h : addO l m room = some x) : ACalls Try.prog tab.S 31 [.sl 51 (List.map Rule.av l) f, Mod.av m, .sc (.int .i64 room)] [] (.tup [.sl 51 (List.map Rule.av x.1) true, .sc (.int .i64 x.2)]) [] := by
  unfold addO at h
  split at h
  · rename_i hl
    exact mods_add_walk l m room f x ((mods_add_eq l m room hl).trans h)
  · cases h

end Go.Proofs.Ytlfiemphadkimaa

set_option linter.unusedVariables false
set_option linter.unusedSimpArgs false
set_option maxRecDepth 100000
set_option maxHeartbeats 4000000
namespace Go.Proofs.Ytlfiemphadkimaa
open Go.Sh
/-! ### mods.Apply: function 18 -/
noncomputable def mods_Apply_F : Go.Sh.Fn := ⟨18, bodyOf Try.f18, 57⟩
def mods_Apply_k1 : List Kd := [.pure, .read, .pure, .pure, .pure, .pure, .pure, .pure]
def mods_Apply_k7 : List Kd := [.pure, .read, .pure, .loud, .pure]
def mods_Apply_k6 : List Kd := [.pure, .read, .pure, .pure, .pure, .loud]
def mods_Apply_k5 : List Kd := [.pure, .read, .pure, .pure, .pure, .read, .pure, .pure]
def mods_Apply_k8 : List Kd := [.pure, .read, .pure, .loud, .pure]
def mods_Apply_k4 : List Kd := [.read, .read, .pure]
def mods_Apply_k3 : List Kd := [.pure, .pure, .loud, .loud]
def mods_Apply_k2 : List Kd := [.pure, .pure, .pure, .pure]
def mods_Apply_k0 : List Kd := [.pure, .pure, .pure, .pure, .read, .pure, .pure, .pure]
def mods_Apply_l0s (m1 : Mod) : List Rule → List Rule → Option ((List Rule))
  | [], out =>
    some out
  | x1 :: rest, out =>
    (bif (mods_touches m1 x1) then
      (bif ((m1.Kind == 3) || (m1.Kind == 5)) then
        mods_Apply_l0s m1 rest out
      else
        fitO (out.length + [({ x1 with Acts := m1.Acts } : Rule)].length) 272 (
        mods_Apply_l0s m1 rest (out ++ [({ x1 with Acts := m1.Acts } : Rule)])))
    else
      fitO (out.length + [x1].length) 272 (
      mods_Apply_l0s m1 rest (out ++ [x1])))
theorem mods_Apply_l0_walk (list : List Rule) (m1 : Mod) (room : Int) (f_list : Bool) (r : (List Rule) × Int) (c0 : Ctx) (hc0 : c0.m.length = 0) (res : (List Rule)) (J : AR Try.prog tab mods_Apply_F c0 (Rp tab.S c0 (.tup [.sl 51 (List.map Rule.av r.1) false, .sc (.int .i64 r.2)]) []) [.code [1, 1, 1, 1, 1]] [(8, .own 1 1000000)] [.box 33 (Mod.ch m1), .row 51 (List.map Rule.av res) 1000000 true]) :
    ∀ (rest : List Rule) (t31 : Nat) (hd : list.drop t31 = rest) (out : List Rule) (H : mods_Apply_l0s m1 rest out = some res), AR Try.prog tab mods_Apply_F c0 (Rp tab.S c0 (.tup [.sl 51 (List.map Rule.av r.1) false, .sc (.int .i64 r.2)]) []) [.code [1, 1, 1, 1, 0, 1, 0, 0], .loop [1, 1, 1, 1, 0, 1, 0], .blk 0, .code [1, 1, 1, 1, 1]] [(4, .ptr 0 0 none), (8, .own 1 1000000), (29, .sl 51 (List.map Rule.av list) true), (30, .sc (.int .i64 (((List.map Rule.av list).length : Nat) : Int))), (31, .sc (.int .i64 ((t31 : Nat) : Int)))] [.box 33 (Mod.ch m1), .row 51 (List.map Rule.av out) 1000000 true] := by
  have hG := tab_ok
  have hm := mixed
  intro rest
  induction rest with
  | nil =>
    intro t31 hd out H
    rw [mods_Apply_l0s] at H
    refine AR.facts 29 rfl fun hf => ?_
    have hlen : list.length ≤ 9223372036854775807 := by have hq := len_ok hf.2.1; rw [List.length_map] at hq; exact hq
    have hge : list.length ≤ t31 := List.drop_eq_nil_iff.1 hd
    have hc : (decide (((t31 : Nat) : Int) < (((List.map Rule.av list).length : Nat) : Int))) = false := by rw [List.length_map]; exact decide_eq_false (by omega)
    refine AR.seg hG hm 3 [4, 8, 29, 30, 31, 32] (k' := [.code [1, 1, 1, 1, 0, 1, 0, 0, 1, 0], .code [1, 1, 1, 1, 0, 1, 0, 0, 1, 1], .loop [1, 1, 1, 1, 0, 1, 0], .blk 0, .code [1, 1, 1, 1, 1]]) (t' := [(4, .ptr 0 0 none), (8, .own 1 1000000), (29, .sl 51 (List.map Rule.av list) true), (30, .sc (.int .i64 (((List.map Rule.av list).length : Nat) : Int))), (31, .sc (.int .i64 ((t31 : Nat) : Int))), (32, .sc (.bool (decide (((t31 : Nat) : Int) < (((List.map Rule.av list).length : Nat) : Int)))))]) (h' := [.box 33 (Mod.ch m1), .row 51 (List.map Rule.av out) 1000000 true]) (by kernel_rfl) ?_
    refine AR.cond (.tmp 32) (decide (((t31 : Nat) : Int) < (((List.map Rule.av list).length : Nat) : Int))) (by kernel_rfl) (by kernel_rfl) (fun hb => ?ht28) (fun hb => ?hf28)
    case ht28 => exact absurd (hb.symm.trans hc) (by decide)
    case hf28 =>
      refine AR.seg hG hm 1 [8] (k' := [.code [1, 1, 1, 1, 1]]) (t' := [(8, .own 1 1000000)]) (h' := [.box 33 (Mod.ch m1), .row 51 (List.map Rule.av out) 1000000 true]) (by kernel_rfl) ?_
      refine AR.keep [8] (t' := [(8, .own 1 1000000)]) (by kernel_rfl) ?_
      obtain rfl := Option.some.inj H
      exact J
  | cons x1 rest ih =>
    intro t31 hd out H
    rw [mods_Apply_l0s] at H
    refine AR.facts 29 rfl fun hf => ?_
    have hlen : list.length ≤ 9223372036854775807 := by have hq := len_ok hf.2.1; rw [List.length_map] at hq; exact hq
    obtain ⟨hlt, hv_t31, hd2⟩ := drop_cons hd
    have hc : (decide (((t31 : Nat) : Int) < (((List.map Rule.av list).length : Nat) : Int))) = true := by rw [List.length_map]; exact decide_eq_true (by omega)
    have hw : IntKind.i64.wrap (((t31 : Nat) : Int) + 1) = ((t31 + 1 : Nat) : Int) := wrapI_succ (by omega)
    refine AR.seg hG hm 3 [4, 8, 29, 30, 31, 32] (k' := [.code [1, 1, 1, 1, 0, 1, 0, 0, 1, 0], .code [1, 1, 1, 1, 0, 1, 0, 0, 1, 1], .loop [1, 1, 1, 1, 0, 1, 0], .blk 0, .code [1, 1, 1, 1, 1]]) (t' := [(4, .ptr 0 0 none), (8, .own 1 1000000), (29, .sl 51 (List.map Rule.av list) true), (30, .sc (.int .i64 (((List.map Rule.av list).length : Nat) : Int))), (31, .sc (.int .i64 ((t31 : Nat) : Int))), (32, .sc (.bool (decide (((t31 : Nat) : Int) < (((List.map Rule.av list).length : Nat) : Int)))))]) (h' := [.box 33 (Mod.ch m1), .row 51 (List.map Rule.av out) 1000000 true]) (by kernel_rfl) ?_
    refine AR.cond (.tmp 32) (decide (((t31 : Nat) : Int) < (((List.map Rule.av list).length : Nat) : Int))) (by kernel_rfl) (by kernel_rfl) (fun hb => ?ht29) (fun hb => ?hf29)
    case ht29 =>
      refine AR.seg hG hm 4 [4, 8, 29, 30, 31] (k' := [.code [1, 1, 1, 1, 0, 1, 0, 0, 1, 1, 0, 0, 0], .code [1, 1, 1, 1, 0, 1, 0, 0, 1, 1, 0, 0, 1], .blk 1, .code [1, 1, 1, 1, 0, 1, 0, 0, 1, 1, 1], .loop [1, 1, 1, 1, 0, 1, 0], .blk 0, .code [1, 1, 1, 1, 1]]) (t' := [(4, .ptr 0 0 none), (8, .own 1 1000000), (29, .sl 51 (List.map Rule.av list) true), (30, .sc (.int .i64 (((List.map Rule.av list).length : Nat) : Int))), (31, .sc (.int .i64 ((t31 : Nat) : Int)))]) (h' := [.box 33 (Mod.ch m1), .row 51 (List.map Rule.av out) 1000000 true]) (by kernel_rfl) ?_
      refine AR.reg hm mods_Apply_k3 (by kernel_rfl) ?_
      refine DK.op' [4, 8, 29, 30, 31, 33] (t' := [(4, .ptr 0 0 none), (8, .own 1 1000000), (29, .sl 51 (List.map Rule.av list) true), (30, .sc (.int .i64 (((List.map Rule.av list).length : Nat) : Int))), (31, .sc (.int .i64 ((t31 : Nat) : Int))), (33, .ep [.arr .u64 12 x1.Match.Value, .arr .u64 12 x1.Match.Care, .sc (.int .i64 x1.Prio), .sl 60 (List.map Act.av x1.Acts) false, .sc (.int .i64 x1.Idle), .sc (.int .i64 x1.Hard), .sc (.int .i64 x1.Owner), .sc (.int .i64 x1.Hits), .sc (.int .i64 x1.Quiet), .sc (.int .i64 x1.Age)] 0 none)]) (h' := [.box 33 (Mod.ch m1), .row 51 (List.map Rule.av out) 1000000 true]) (LSpec.index' (r := Rule.av x1) (fs := [.arr .u64 12 x1.Match.Value, .arr .u64 12 x1.Match.Care, .sc (.int .i64 x1.Prio), .sl 60 (List.map Act.av x1.Acts) false, .sc (.int .i64 x1.Idle), .sc (.int .i64 x1.Hard), .sc (.int .i64 x1.Owner), .sc (.int .i64 x1.Hits), .sc (.int .i64 x1.Quiet), .sc (.int .i64 x1.Age)]) hG (rows := List.map Rule.av list) (j := ((t31 : Nat) : Int)) (by kernel_rfl) (ixO_map hv_t31 _) (by kernel_rfl)) (by kernel_rfl) rfl (by kernel_rfl) rfl ?_
      refine DK.seg hG 3 [4, 8, 10, 29, 30, 31] (t' := [(4, .ptr 0 0 none), (8, .own 1 1000000), (10, .ptr 2 0 none), (29, .sl 51 (List.map Rule.av list) true), (30, .sc (.int .i64 (((List.map Rule.av list).length : Nat) : Int))), (31, .sc (.int .i64 ((t31 : Nat) : Int)))]) (h' := [.box 33 (Mod.ch m1), .row 51 (List.map Rule.av out) 1000000 true, .box 51 (Rule.ch x1)]) (by kernel_rfl) rfl ?_
      refine DK.done (by kernel_rfl) (by kernel_rfl) ?_
      refine AR.seg hG hm 2 [4, 8, 10, 29, 30, 31] (k' := [.code [1, 1, 1, 1, 0, 1, 0, 0, 1, 1, 0, 0, 1, 0, 0], .code [1, 1, 1, 1, 0, 1, 0, 0, 1, 1, 0, 0, 1, 0, 1], .code [1, 1, 1, 1, 0, 1, 0, 0, 1, 1, 0, 0, 1, 1], .blk 1, .code [1, 1, 1, 1, 0, 1, 0, 0, 1, 1, 1], .loop [1, 1, 1, 1, 0, 1, 0], .blk 0, .code [1, 1, 1, 1, 1]]) (t' := [(4, .ptr 0 0 none), (8, .own 1 1000000), (10, .ptr 2 0 none), (29, .sl 51 (List.map Rule.av list) true), (30, .sc (.int .i64 (((List.map Rule.av list).length : Nat) : Int))), (31, .sc (.int .i64 ((t31 : Nat) : Int)))]) (h' := [.box 33 (Mod.ch m1), .row 51 (List.map Rule.av out) 1000000 true, .box 51 (Rule.ch x1)]) (by kernel_rfl) ?_
      refine AR.reg hm mods_Apply_k4 (by kernel_rfl) ?_
      refine DK.seg hG 2 [4, 8, 10, 29, 30, 31, 35, 36] (t' := [(4, .ptr 0 0 none), (8, .own 1 1000000), (10, .ptr 2 0 none), (29, .sl 51 (List.map Rule.av list) true), (30, .sc (.int .i64 (((List.map Rule.av list).length : Nat) : Int))), (31, .sc (.int .i64 ((t31 : Nat) : Int))), (35, Mod.av m1), (36, Rule.av x1)]) (h' := [.box 33 (Mod.ch m1), .row 51 (List.map Rule.av out) 1000000 true, .box 51 (Rule.ch x1)]) (by kernel_rfl) rfl ?_
      refine DK.op' [4, 8, 10, 29, 30, 31, 37] (t' := [(4, .ptr 0 0 none), (8, .own 1 1000000), (10, .ptr 2 0 none), (29, .sl 51 (List.map Rule.av list) true), (30, .sc (.int .i64 (((List.map Rule.av list).length : Nat) : Int))), (31, .sc (.int .i64 ((t31 : Nat) : Int))), (37, .sc (.bool (mods_touches m1 x1)))]) (h' := [.box 33 (Mod.ch m1), .row 51 (List.map Rule.av out) 1000000 true, .box 51 (Rule.ch x1)]) (LSpec.callP' (mods_touches_calls m1 x1) (by kernel_rfl)) (by kernel_rfl) rfl (by kernel_rfl) rfl ?_
      refine DK.done (by kernel_rfl) (by kernel_rfl) ?_
      refine AR.cond (.tmp 37) (mods_touches m1 x1) (by kernel_rfl) (by kernel_rfl) (fun hb => ?ht32) (fun hb => ?hf32)
      case ht32 =>
        replace H := cond_t hb H
        refine AR.seg hG hm 2 [4, 8, 10, 29, 30, 31] (k' := [.code [1, 1, 1, 1, 0, 1, 0, 0, 1, 1, 0, 0, 1, 0, 1, 0, 0, 0], .code [1, 1, 1, 1, 0, 1, 0, 0, 1, 1, 0, 0, 1, 0, 1, 0, 0, 1], .code [1, 1, 1, 1, 0, 1, 0, 0, 1, 1, 0, 0, 1, 0, 1, 0, 1], .code [1, 1, 1, 1, 0, 1, 0, 0, 1, 1, 0, 0, 1, 1], .blk 1, .code [1, 1, 1, 1, 0, 1, 0, 0, 1, 1, 1], .loop [1, 1, 1, 1, 0, 1, 0], .blk 0, .code [1, 1, 1, 1, 1]]) (t' := [(4, .ptr 0 0 none), (8, .own 1 1000000), (10, .ptr 2 0 none), (29, .sl 51 (List.map Rule.av list) true), (30, .sc (.int .i64 (((List.map Rule.av list).length : Nat) : Int))), (31, .sc (.int .i64 ((t31 : Nat) : Int)))]) (h' := [.box 33 (Mod.ch m1), .row 51 (List.map Rule.av out) 1000000 true, .box 51 (Rule.ch x1)]) (by kernel_rfl) ?_
        refine AR.reg hm mods_Apply_k5 (by kernel_rfl) ?_
        refine DK.seg hG 4 [4, 8, 10, 29, 30, 31, 41] (t' := [(4, .ptr 0 0 none), (8, .own 1 1000000), (10, .ptr 2 0 none), (29, .sl 51 (List.map Rule.av list) true), (30, .sc (.int .i64 (((List.map Rule.av list).length : Nat) : Int))), (31, .sc (.int .i64 ((t31 : Nat) : Int))), (41, .sc (.bool (m1.Kind == 3)))]) (h' := [.box 33 (Mod.ch m1), .row 51 (List.map Rule.av out) 1000000 true, .box 51 (Rule.ch x1)]) (by kernel_rfl) rfl ?_
        refine DK.mux 41 (m1.Kind == 3) (j := 8) (h' := [.box 33 (Mod.ch m1), .row 51 (List.map Rule.av out) 1000000 true, .box 51 (Rule.ch x1)]) (by kernel_rfl) (fun z => [(4, .ptr 0 0 none), (8, .own 1 1000000), (10, .ptr 2 0 none), (29, .sl 51 (List.map Rule.av list) true), (30, .sc (.int .i64 (((List.map Rule.av list).length : Nat) : Int))), (31, .sc (.int .i64 ((t31 : Nat) : Int))), (45, .sc (.bool (z || (m1.Kind == 5))))]) ?J33 (fun hb J => ?ht33) (fun hb J => ?hf33)
        case ht33 =>
          exact DK.seg hG 4 [4, 8, 10, 29, 30, 31, 45] (by kernel_rfl) rfl J
        case hf33 =>
          exact DK.seg hG 4 [4, 8, 10, 29, 30, 31, 45] (by kernel_rfl) rfl J
        refine DK.done (by kernel_rfl) (by kernel_rfl) ?_
        refine AR.cond (.tmp 45) ((m1.Kind == 3) || (m1.Kind == 5)) (by kernel_rfl) (by kernel_rfl) (fun hb => ?ht34) (fun hb => ?hf34)
        case ht34 =>
          replace H := cond_t hb H
          refine AR.seg hG hm 2 [4, 8, 29, 30, 31] (k' := [.loop [1, 1, 1, 1, 0, 1, 0], .blk 0, .code [1, 1, 1, 1, 1]]) (t' := [(4, .ptr 0 0 none), (8, .own 1 1000000), (29, .sl 51 (List.map Rule.av list) true), (30, .sc (.int .i64 (((List.map Rule.av list).length : Nat) : Int))), (31, .sc (.int .i64 (IntKind.i64.wrap (((t31 : Nat) : Int) + 1))))]) (h' := [.box 33 (Mod.ch m1), .row 51 (List.map Rule.av out) 1000000 true, .box 51 (Rule.ch x1)]) (by kernel_rfl) ?_
          refine AR.keep [4, 8, 29, 30, 31] (t' := [(4, .ptr 0 0 none), (8, .own 1 1000000), (29, .sl 51 (List.map Rule.av list) true), (30, .sc (.int .i64 (((List.map Rule.av list).length : Nat) : Int))), (31, .sc (.int .i64 (IntKind.i64.wrap (((t31 : Nat) : Int) + 1))))]) (by kernel_rfl) ?_
          refine AR.drop' 2 hc0 (t' := [(4, .ptr 0 0 none), (8, .own 1 1000000), (29, .sl 51 (List.map Rule.av list) true), (30, .sc (.int .i64 (((List.map Rule.av list).length : Nat) : Int))), (31, .sc (.int .i64 (IntKind.i64.wrap (((t31 : Nat) : Int) + 1))))]) (h' := [.box 33 (Mod.ch m1), .row 51 (List.map Rule.av out) 1000000 true]) (by kernel_rfl) ?_
          refine AR.loop_round ?_
          rw [hw]
          exact ih (t31 + 1) hd2 out H
        case hf34 =>
          replace H := cond_f hb H
          refine AR.seg hG hm 1 [4, 8, 10, 29, 30, 31] (k' := [.code [1, 1, 1, 1, 0, 1, 0, 0, 1, 1, 0, 0, 1, 0, 1, 0, 1], .code [1, 1, 1, 1, 0, 1, 0, 0, 1, 1, 0, 0, 1, 1], .blk 1, .code [1, 1, 1, 1, 0, 1, 0, 0, 1, 1, 1], .loop [1, 1, 1, 1, 0, 1, 0], .blk 0, .code [1, 1, 1, 1, 1]]) (t' := [(4, .ptr 0 0 none), (8, .own 1 1000000), (10, .ptr 2 0 none), (29, .sl 51 (List.map Rule.av list) true), (30, .sc (.int .i64 (((List.map Rule.av list).length : Nat) : Int))), (31, .sc (.int .i64 ((t31 : Nat) : Int)))]) (h' := [.box 33 (Mod.ch m1), .row 51 (List.map Rule.av out) 1000000 true, .box 51 (Rule.ch x1)]) (by kernel_rfl) ?_
          refine AR.reg hm mods_Apply_k6 (by kernel_rfl) ?_
          refine DK.seg hG 2 [4, 8, 10, 29, 30, 31, 47] (t' := [(4, .ptr 0 0 none), (8, .own 1 1000000), (10, .ptr 2 0 none), (29, .sl 51 (List.map Rule.av list) true), (30, .sc (.int .i64 (((List.map Rule.av list).length : Nat) : Int))), (31, .sc (.int .i64 ((t31 : Nat) : Int))), (47, .sl 60 (List.map Act.av m1.Acts) false)]) (h' := [.box 33 (Mod.ch m1), .row 51 (List.map Rule.av out) 1000000 true, .box 51 (Rule.ch x1)]) (by kernel_rfl) rfl ?_
          refine DK.op' [4, 8, 10, 29, 30, 31, 48] (t' := [(4, .ptr 0 0 none), (8, .own 1 1000000), (10, .ptr 2 0 none), (29, .sl 51 (List.map Rule.av list) true), (30, .sc (.int .i64 (((List.map Rule.av list).length : Nat) : Int))), (31, .sc (.int .i64 ((t31 : Nat) : Int))), (48, .sl 60 (List.map Act.av m1.Acts) false)]) (h' := [.box 33 (Mod.ch m1), .row 51 (List.map Rule.av out) 1000000 true, .box 51 (Rule.ch x1)]) (LSpec.callP' (slices_Clone__api_Act_calls m1.Acts false) (by kernel_rfl)) (by kernel_rfl) rfl (by kernel_rfl) rfl ?_
          refine DK.op' [4, 8, 10, 29, 30, 31, 49] (t' := [(4, .ptr 0 0 none), (8, .own 1 1000000), (10, .ptr 2 0 none), (29, .sl 51 (List.map Rule.av list) true), (30, .sc (.int .i64 (((List.map Rule.av list).length : Nat) : Int))), (31, .sc (.int .i64 ((t31 : Nat) : Int))), (49, .sl 60 (List.map Act.av m1.Acts) true)]) (h' := [.box 33 (Mod.ch m1), .row 51 (List.map Rule.av out) 1000000 true, .box 51 (Rule.ch x1)]) (LSpec.callP' (slices_Clip__api_Act_calls m1.Acts false) (by kernel_rfl)) (by kernel_rfl) rfl (by kernel_rfl) rfl ?_
          refine DK.seg hG 2 [4, 8, 10, 29, 30, 31] (t' := [(4, .ptr 0 0 none), (8, .own 1 1000000), (10, .ptr 2 0 none), (29, .sl 51 (List.map Rule.av list) true), (30, .sc (.int .i64 (((List.map Rule.av list).length : Nat) : Int))), (31, .sc (.int .i64 ((t31 : Nat) : Int)))]) (h' := [.box 33 (Mod.ch m1), .row 51 (List.map Rule.av out) 1000000 true, .box 51 [.arr .u64 12 x1.Match.Value, .arr .u64 12 x1.Match.Care, .sc (.int .i64 x1.Prio), .sl 60 (List.map Act.av m1.Acts) true, .sc (.int .i64 x1.Idle), .sc (.int .i64 x1.Hard), .sc (.int .i64 x1.Owner), .sc (.int .i64 x1.Hits), .sc (.int .i64 x1.Quiet), .sc (.int .i64 x1.Age)]]) (by kernel_rfl) rfl ?_
          refine DK.done (by kernel_rfl) (by kernel_rfl) ?_
          refine AR.reg hm mods_Apply_k7 (by kernel_rfl) ?_
          refine DK.seg hG 2 [4, 29, 30, 31, 51, 52] (t' := [(4, .ptr 0 0 none), (29, .sl 51 (List.map Rule.av list) true), (30, .sc (.int .i64 (((List.map Rule.av list).length : Nat) : Int))), (31, .sc (.int .i64 ((t31 : Nat) : Int))), (51, .own 1 1000000), (52, .agg [.arr .u64 12 x1.Match.Value, .arr .u64 12 x1.Match.Care, .sc (.int .i64 x1.Prio), .sl 60 (List.map Act.av m1.Acts) true, .sc (.int .i64 x1.Idle), .sc (.int .i64 x1.Hard), .sc (.int .i64 x1.Owner), .sc (.int .i64 x1.Hits), .sc (.int .i64 x1.Quiet), .sc (.int .i64 x1.Age)])]) (h' := [.box 33 (Mod.ch m1), .row 51 (List.map Rule.av out) 1000000 true, .box 51 [.arr .u64 12 x1.Match.Value, .arr .u64 12 x1.Match.Care, .sc (.int .i64 x1.Prio), .sl 60 (List.map Act.av m1.Acts) true, .sc (.int .i64 x1.Idle), .sc (.int .i64 x1.Hard), .sc (.int .i64 x1.Owner), .sc (.int .i64 x1.Hits), .sc (.int .i64 x1.Quiet), .sc (.int .i64 x1.Age)]]) (by kernel_rfl) rfl ?_
          refine DK.wk 52 (.agg [.arr .u64 12 x1.Match.Value, .arr .u64 12 x1.Match.Care, .sc (.int .i64 x1.Prio), .sl 60 (List.map Act.av m1.Acts) false, .sc (.int .i64 x1.Idle), .sc (.int .i64 x1.Hard), .sc (.int .i64 x1.Owner), .sc (.int .i64 x1.Hits), .sc (.int .i64 x1.Quiet), .sc (.int .i64 x1.Age)]) rfl (WkV.agg (WkL.cons (Wk1.refl _) (WkL.cons (Wk1.refl _) (WkL.cons (Wk1.refl _) (WkL.cons (Wk1.anyFull true) (WkL.cons (Wk1.refl _) (WkL.cons (Wk1.refl _) (WkL.cons (Wk1.refl _) (WkL.cons (Wk1.refl _) (WkL.cons (Wk1.refl _) (WkL.cons (Wk1.refl _) WkL.nil))))))))))) (t' := [(52, .agg [.arr .u64 12 x1.Match.Value, .arr .u64 12 x1.Match.Care, .sc (.int .i64 x1.Prio), .sl 60 (List.map Act.av m1.Acts) false, .sc (.int .i64 x1.Idle), .sc (.int .i64 x1.Hard), .sc (.int .i64 x1.Owner), .sc (.int .i64 x1.Hits), .sc (.int .i64 x1.Quiet), .sc (.int .i64 x1.Age)]), (4, .ptr 0 0 none), (29, .sl 51 (List.map Rule.av list) true), (30, .sc (.int .i64 (((List.map Rule.av list).length : Nat) : Int))), (31, .sc (.int .i64 ((t31 : Nat) : Int))), (51, .own 1 1000000)]) (by kernel_rfl) ?_
          refine DK.seg hG 1 [4, 29, 30, 31, 51, 53] (t' := [(4, .ptr 0 0 none), (29, .sl 51 (List.map Rule.av list) true), (30, .sc (.int .i64 (((List.map Rule.av list).length : Nat) : Int))), (31, .sc (.int .i64 ((t31 : Nat) : Int))), (51, .own 1 1000000), (53, .sl 51 (List.map Rule.av [({ x1 with Acts := m1.Acts } : Rule)]) true)]) (h' := [.box 33 (Mod.ch m1), .row 51 (List.map Rule.av out) 1000000 true, .box 51 [.arr .u64 12 x1.Match.Value, .arr .u64 12 x1.Match.Care, .sc (.int .i64 x1.Prio), .sl 60 (List.map Act.av m1.Acts) true, .sc (.int .i64 x1.Idle), .sc (.int .i64 x1.Hard), .sc (.int .i64 x1.Owner), .sc (.int .i64 x1.Hits), .sc (.int .i64 x1.Quiet), .sc (.int .i64 x1.Age)]]) (by kernel_rfl) rfl ?_
          obtain ⟨hfit, H⟩ := fitO_some H
          refine DK.op' [4, 29, 30, 31, 54] (t' := [(4, .ptr 0 0 none), (29, .sl 51 (List.map Rule.av list) true), (30, .sc (.int .i64 (((List.map Rule.av list).length : Nat) : Int))), (31, .sc (.int .i64 ((t31 : Nat) : Int))), (54, .own 1 1000001)]) (h' := [.box 33 (Mod.ch m1), .row 51 (List.map Rule.av (out ++ [({ x1 with Acts := m1.Acts } : Rule)])) 1000001 true, .box 51 [.arr .u64 12 x1.Match.Value, .arr .u64 12 x1.Match.Care, .sc (.int .i64 x1.Prio), .sl 60 (List.map Act.av m1.Acts) true, .sc (.int .i64 x1.Idle), .sc (.int .i64 x1.Hard), .sc (.int .i64 x1.Owner), .sc (.int .i64 x1.Hits), .sc (.int .i64 x1.Quiet), .sc (.int .i64 x1.Age)]]) (LSpec.append' hG Rule.av out [({ x1 with Acts := m1.Acts } : Rule)] 1 1000000 51 272 hfit (by kernel_rfl)) (by kernel_rfl) (by kernel_rfl) (by kernel_rfl) rfl ?_
          refine DK.seg hG 1 [4, 8, 29, 30, 31] (t' := [(4, .ptr 0 0 none), (8, .own 1 1000001), (29, .sl 51 (List.map Rule.av list) true), (30, .sc (.int .i64 (((List.map Rule.av list).length : Nat) : Int))), (31, .sc (.int .i64 ((t31 : Nat) : Int)))]) (h' := [.box 33 (Mod.ch m1), .row 51 (List.map Rule.av (out ++ [({ x1 with Acts := m1.Acts } : Rule)])) 1000001 true, .box 51 [.arr .u64 12 x1.Match.Value, .arr .u64 12 x1.Match.Care, .sc (.int .i64 x1.Prio), .sl 60 (List.map Act.av m1.Acts) true, .sc (.int .i64 x1.Idle), .sc (.int .i64 x1.Hard), .sc (.int .i64 x1.Owner), .sc (.int .i64 x1.Hits), .sc (.int .i64 x1.Quiet), .sc (.int .i64 x1.Age)]]) (by kernel_rfl) rfl ?_
          refine DK.done (by kernel_rfl) (by kernel_rfl) ?_
          refine AR.seg hG hm 2 [4, 8, 29, 30, 31] (k' := [.loop [1, 1, 1, 1, 0, 1, 0], .blk 0, .code [1, 1, 1, 1, 1]]) (t' := [(4, .ptr 0 0 none), (8, .own 1 1000001), (29, .sl 51 (List.map Rule.av list) true), (30, .sc (.int .i64 (((List.map Rule.av list).length : Nat) : Int))), (31, .sc (.int .i64 (IntKind.i64.wrap (((t31 : Nat) : Int) + 1))))]) (h' := [.box 33 (Mod.ch m1), .row 51 (List.map Rule.av (out ++ [({ x1 with Acts := m1.Acts } : Rule)])) 1000001 true, .box 51 [.arr .u64 12 x1.Match.Value, .arr .u64 12 x1.Match.Care, .sc (.int .i64 x1.Prio), .sl 60 (List.map Act.av m1.Acts) true, .sc (.int .i64 x1.Idle), .sc (.int .i64 x1.Hard), .sc (.int .i64 x1.Owner), .sc (.int .i64 x1.Hits), .sc (.int .i64 x1.Quiet), .sc (.int .i64 x1.Age)]]) (by kernel_rfl) ?_
          refine AR.keep [4, 8, 29, 30, 31] (t' := [(4, .ptr 0 0 none), (8, .own 1 1000001), (29, .sl 51 (List.map Rule.av list) true), (30, .sc (.int .i64 (((List.map Rule.av list).length : Nat) : Int))), (31, .sc (.int .i64 (IntKind.i64.wrap (((t31 : Nat) : Int) + 1))))]) (by kernel_rfl) ?_
          refine AR.norm' 1 1000000 hc0 (t' := [(4, .ptr 0 0 none), (8, .own 1 1000000), (29, .sl 51 (List.map Rule.av list) true), (30, .sc (.int .i64 (((List.map Rule.av list).length : Nat) : Int))), (31, .sc (.int .i64 (IntKind.i64.wrap (((t31 : Nat) : Int) + 1))))]) (h' := [.box 33 (Mod.ch m1), .row 51 (List.map Rule.av (out ++ [({ x1 with Acts := m1.Acts } : Rule)])) 1000000 true, .box 51 [.arr .u64 12 x1.Match.Value, .arr .u64 12 x1.Match.Care, .sc (.int .i64 x1.Prio), .sl 60 (List.map Act.av m1.Acts) true, .sc (.int .i64 x1.Idle), .sc (.int .i64 x1.Hard), .sc (.int .i64 x1.Owner), .sc (.int .i64 x1.Hits), .sc (.int .i64 x1.Quiet), .sc (.int .i64 x1.Age)]]) (by kernel_rfl) ?_
          refine AR.drop' 2 hc0 (t' := [(4, .ptr 0 0 none), (8, .own 1 1000000), (29, .sl 51 (List.map Rule.av list) true), (30, .sc (.int .i64 (((List.map Rule.av list).length : Nat) : Int))), (31, .sc (.int .i64 (IntKind.i64.wrap (((t31 : Nat) : Int) + 1))))]) (h' := [.box 33 (Mod.ch m1), .row 51 (List.map Rule.av (out ++ [({ x1 with Acts := m1.Acts } : Rule)])) 1000000 true]) (by kernel_rfl) ?_
          refine AR.loop_round ?_
          rw [hw]
          exact ih (t31 + 1) hd2 (out ++ [({ x1 with Acts := m1.Acts } : Rule)]) H
      case hf32 =>
        replace H := cond_f hb H
        refine AR.seg hG hm 1 [4, 8, 10, 29, 30, 31] (k' := [.code [1, 1, 1, 1, 0, 1, 0, 0, 1, 1, 0, 0, 1, 1], .blk 1, .code [1, 1, 1, 1, 0, 1, 0, 0, 1, 1, 1], .loop [1, 1, 1, 1, 0, 1, 0], .blk 0, .code [1, 1, 1, 1, 1]]) (t' := [(4, .ptr 0 0 none), (8, .own 1 1000000), (10, .ptr 2 0 none), (29, .sl 51 (List.map Rule.av list) true), (30, .sc (.int .i64 (((List.map Rule.av list).length : Nat) : Int))), (31, .sc (.int .i64 ((t31 : Nat) : Int)))]) (h' := [.box 33 (Mod.ch m1), .row 51 (List.map Rule.av out) 1000000 true, .box 51 (Rule.ch x1)]) (by kernel_rfl) ?_
        refine AR.reg hm mods_Apply_k8 (by kernel_rfl) ?_
        refine DK.seg hG 3 [4, 29, 30, 31, 51, 53] (t' := [(4, .ptr 0 0 none), (29, .sl 51 (List.map Rule.av list) true), (30, .sc (.int .i64 (((List.map Rule.av list).length : Nat) : Int))), (31, .sc (.int .i64 ((t31 : Nat) : Int))), (51, .own 1 1000000), (53, .sl 51 (List.map Rule.av [x1]) true)]) (h' := [.box 33 (Mod.ch m1), .row 51 (List.map Rule.av out) 1000000 true, .box 51 (Rule.ch x1)]) (by kernel_rfl) rfl ?_
        obtain ⟨hfit, H⟩ := fitO_some H
        refine DK.op' [4, 29, 30, 31, 54] (t' := [(4, .ptr 0 0 none), (29, .sl 51 (List.map Rule.av list) true), (30, .sc (.int .i64 (((List.map Rule.av list).length : Nat) : Int))), (31, .sc (.int .i64 ((t31 : Nat) : Int))), (54, .own 1 1000001)]) (h' := [.box 33 (Mod.ch m1), .row 51 (List.map Rule.av (out ++ [x1])) 1000001 true, .box 51 (Rule.ch x1)]) (LSpec.append' hG Rule.av out [x1] 1 1000000 51 272 hfit (by kernel_rfl)) (by kernel_rfl) (by kernel_rfl) (by kernel_rfl) rfl ?_
        refine DK.seg hG 1 [4, 8, 29, 30, 31] (t' := [(4, .ptr 0 0 none), (8, .own 1 1000001), (29, .sl 51 (List.map Rule.av list) true), (30, .sc (.int .i64 (((List.map Rule.av list).length : Nat) : Int))), (31, .sc (.int .i64 ((t31 : Nat) : Int)))]) (h' := [.box 33 (Mod.ch m1), .row 51 (List.map Rule.av (out ++ [x1])) 1000001 true, .box 51 (Rule.ch x1)]) (by kernel_rfl) rfl ?_
        refine DK.done (by kernel_rfl) (by kernel_rfl) ?_
        refine AR.seg hG hm 2 [4, 8, 29, 30, 31] (k' := [.loop [1, 1, 1, 1, 0, 1, 0], .blk 0, .code [1, 1, 1, 1, 1]]) (t' := [(4, .ptr 0 0 none), (8, .own 1 1000001), (29, .sl 51 (List.map Rule.av list) true), (30, .sc (.int .i64 (((List.map Rule.av list).length : Nat) : Int))), (31, .sc (.int .i64 (IntKind.i64.wrap (((t31 : Nat) : Int) + 1))))]) (h' := [.box 33 (Mod.ch m1), .row 51 (List.map Rule.av (out ++ [x1])) 1000001 true, .box 51 (Rule.ch x1)]) (by kernel_rfl) ?_
        refine AR.keep [4, 8, 29, 30, 31] (t' := [(4, .ptr 0 0 none), (8, .own 1 1000001), (29, .sl 51 (List.map Rule.av list) true), (30, .sc (.int .i64 (((List.map Rule.av list).length : Nat) : Int))), (31, .sc (.int .i64 (IntKind.i64.wrap (((t31 : Nat) : Int) + 1))))]) (by kernel_rfl) ?_
        refine AR.norm' 1 1000000 hc0 (t' := [(4, .ptr 0 0 none), (8, .own 1 1000000), (29, .sl 51 (List.map Rule.av list) true), (30, .sc (.int .i64 (((List.map Rule.av list).length : Nat) : Int))), (31, .sc (.int .i64 (IntKind.i64.wrap (((t31 : Nat) : Int) + 1))))]) (h' := [.box 33 (Mod.ch m1), .row 51 (List.map Rule.av (out ++ [x1])) 1000000 true, .box 51 (Rule.ch x1)]) (by kernel_rfl) ?_
        refine AR.drop' 2 hc0 (t' := [(4, .ptr 0 0 none), (8, .own 1 1000000), (29, .sl 51 (List.map Rule.av list) true), (30, .sc (.int .i64 (((List.map Rule.av list).length : Nat) : Int))), (31, .sc (.int .i64 (IntKind.i64.wrap (((t31 : Nat) : Int) + 1))))]) (h' := [.box 33 (Mod.ch m1), .row 51 (List.map Rule.av (out ++ [x1])) 1000000 true]) (by kernel_rfl) ?_
        refine AR.loop_round ?_
        rw [hw]
        exact ih (t31 + 1) hd2 (out ++ [x1]) H
    case hf29 => exact absurd (hc.symm.trans hb) (by decide)

def mods_Apply_raw (list : List Rule) (m1 : Mod) (room : Int) : Option ((List Rule) × Int) :=
  (bif ((!(tableR list)) || (!(mods_Sound m1))) then
    some ([], 2)
  else
    (bif (m1.Kind == 1) then
      (addO list m1 room).bind fun x =>
      some (x.1, x.2)
    else
      (mods_Apply_l0s m1 list ([] : List Rule)).bind fun v =>
      some (v, 0)))
theorem mods_Apply_walk (list : List Rule) (m1 : Mod) (room : Int) (f_list : Bool) (r : (List Rule) × Int) (H : mods_Apply_raw list m1 room = some r) :
    ACalls Try.prog tab.S 18 [.sl 51 (List.map Rule.av list) f_list, Mod.av m1, .sc (.int .i64 room)] [] (.tup [.sl 51 (List.map Rule.av r.1) false, .sc (.int .i64 r.2)]) [] := by
  have hG := tab_ok
  have hm := mixed
  refine ACalls.of_AR (G := tab) mods_Apply_F (fn := Try.f18) Try.func18 (by kernel_rfl) (by kernel_rfl) (by kernel_rfl) (Nat.le_of_ble_eq_true (by kernel_rfl)) ?_
  intro c0 hc0
  replace hc0 : c0.m.length = 0 := hc0
  rw [mods_Apply_raw] at H
  refine AR.seg hG hm 4 [0, 2, 4] (k' := [.code [1, 0, 0], .code [1, 0, 1], .code [1, 1]]) (t' := [(0, .sl 51 (List.map Rule.av list) f_list), (2, .sc (.int .i64 room)), (4, .ptr 0 0 none)]) (h' := [.box 33 (Mod.ch m1)]) (by kernel_rfl) ?_
  refine AR.reg hm mods_Apply_k0 (by kernel_rfl) ?_
  refine DK.seg hG 1 [0, 2, 4, 11] (t' := [(0, .sl 51 (List.map Rule.av list) f_list), (2, .sc (.int .i64 room)), (4, .ptr 0 0 none), (11, .sl 51 (List.map Rule.av list) f_list)]) (h' := [.box 33 (Mod.ch m1)]) (by kernel_rfl) rfl ?_
  refine DK.op' [0, 2, 4, 12] (t' := [(0, .sl 51 (List.map Rule.av list) f_list), (2, .sc (.int .i64 room)), (4, .ptr 0 0 none), (12, .sc (.bool (tableR list)))]) (h' := [.box 33 (Mod.ch m1)]) (LSpec.callP' (rule_Table_ok list f_list) (by kernel_rfl)) (by kernel_rfl) rfl (by kernel_rfl) rfl ?_
  refine DK.seg hG 2 [0, 2, 4, 14] (t' := [(0, .sl 51 (List.map Rule.av list) f_list), (2, .sc (.int .i64 room)), (4, .ptr 0 0 none), (14, .sc (.bool (!(tableR list))))]) (h' := [.box 33 (Mod.ch m1)]) (by kernel_rfl) rfl ?_
  refine DK.mux 14 (!(tableR list)) (j := 8) (h' := [.box 33 (Mod.ch m1)]) (by kernel_rfl) (fun z => [(0, .sl 51 (List.map Rule.av list) f_list), (2, .sc (.int .i64 room)), (4, .ptr 0 0 none), (18, .sc (.bool (z || (!(mods_Sound m1)))))]) ?J1 (fun hb J => ?ht1) (fun hb J => ?hf1)
  case ht1 =>
    exact DK.seg hG 4 [0, 2, 4, 18] (by kernel_rfl) rfl J
  case hf1 =>
    refine DK.seg hG 1 [0, 2, 4, 14, 15] (t' := [(0, .sl 51 (List.map Rule.av list) f_list), (2, .sc (.int .i64 room)), (4, .ptr 0 0 none), (14, .sc (.bool false)), (15, Mod.av m1)]) (h' := [.box 33 (Mod.ch m1)]) (by kernel_rfl) rfl ?_
    refine DK.op' [0, 2, 4, 14, 16] (t' := [(0, .sl 51 (List.map Rule.av list) f_list), (2, .sc (.int .i64 room)), (4, .ptr 0 0 none), (14, .sc (.bool false)), (16, .sc (.bool (mods_Sound m1)))]) (h' := [.box 33 (Mod.ch m1)]) (LSpec.callP' (mods_Sound_calls m1) (by kernel_rfl)) (by kernel_rfl) rfl (by kernel_rfl) rfl ?_
    exact DK.seg hG 2 [0, 2, 4, 18] (by kernel_rfl) rfl J
  refine DK.done (by kernel_rfl) (by kernel_rfl) ?_
  refine AR.cond (.tmp 18) ((!(tableR list)) || (!(mods_Sound m1))) (by kernel_rfl) (by kernel_rfl) (fun hb => ?ht2) (fun hb => ?hf2)
  case ht2 =>
    replace H := cond_t hb H
    refine AR.seg hG hm 2 [6, 7] (k' := [.code [1, 0, 1, 0, 1], .code [1, 1]]) (t' := [(6, .sl 0 [] true), (7, .sc (.int .i64 2))]) (h' := [.box 33 (Mod.ch m1)]) (by kernel_rfl) ?_
    obtain rfl := Option.some.inj H
    exact AR.ret0 (fn := Try.f18) hG Try.func18 (by kernel_rfl) hc0 (r0 := .tup [.sl 0 [] true, .sc (.int .i64 2)]) (by kernel_rfl) (WkV.tup (Wks.cons (WkV.sl (Wk1.nil 51 false)) trivial trivial (Wks.cons (WkV.refl _) trivial trivial Wks.nil)))
  case hf2 =>
    replace H := cond_f hb H
    refine AR.seg hG hm 4 [0, 2, 4, 21] (k' := [.code [1, 1, 0, 1], .code [1, 1, 1]]) (t' := [(0, .sl 51 (List.map Rule.av list) f_list), (2, .sc (.int .i64 room)), (4, .ptr 0 0 none), (21, .sc (.bool (m1.Kind == 1)))]) (h' := [.box 33 (Mod.ch m1)]) (by kernel_rfl) ?_
    refine AR.cond (.tmp 21) (m1.Kind == 1) (by kernel_rfl) (by kernel_rfl) (fun hb => ?ht3) (fun hb => ?hf3)
    case ht3 =>
      replace H := cond_t hb H
      refine AR.seg hG hm 1 [0, 2, 4] (k' := [.code [1, 1, 0, 1, 0, 0], .code [1, 1, 0, 1, 0, 1], .code [1, 1, 1]]) (t' := [(0, .sl 51 (List.map Rule.av list) f_list), (2, .sc (.int .i64 room)), (4, .ptr 0 0 none)]) (h' := [.box 33 (Mod.ch m1)]) (by kernel_rfl) ?_
      refine AR.reg hm mods_Apply_k1 (by kernel_rfl) ?_
      refine DK.seg hG 3 [22, 23, 24] (t' := [(22, .sl 51 (List.map Rule.av list) f_list), (23, Mod.av m1), (24, .sc (.int .i64 room))]) (h' := [.box 33 (Mod.ch m1)]) (by kernel_rfl) rfl ?_
      obtain ⟨x, hv, H⟩ := Option.bind_eq_some_iff.1 H
      refine DK.op' [25] (t' := [(25, .tup [.sl 51 (List.map Rule.av x.1) true, .sc (.int .i64 x.2)])]) (h' := [.box 33 (Mod.ch m1)]) (LSpec.callP' (mods_add_ok list m1 room f_list x hv) (by kernel_rfl)) (by kernel_rfl) rfl (by kernel_rfl) rfl ?_
      refine DK.seg hG 4 [6, 7] (t' := [(6, .sl 51 (List.map Rule.av x.1) true), (7, .sc (.int .i64 x.2))]) (h' := [.box 33 (Mod.ch m1)]) (by kernel_rfl) rfl ?_
      refine DK.done (by kernel_rfl) (by kernel_rfl) ?_
      obtain rfl := Option.some.inj H
      exact AR.ret0 (fn := Try.f18) hG Try.func18 (by kernel_rfl) hc0 (r0 := .tup [.sl 51 (List.map Rule.av x.1) true, .sc (.int .i64 x.2)]) (by kernel_rfl) (WkV.tup (Wks.cons (WkV.sl (Wk1.anyFull true)) trivial trivial (Wks.cons (WkV.refl _) trivial trivial Wks.nil)))
    case hf3 =>
      replace H := cond_f hb H
      refine AR.seg hG hm 5 [0, 4, 8] (k' := [.code [1, 1, 1, 1, 0, 0], .code [1, 1, 1, 1, 0, 1], .code [1, 1, 1, 1, 1]]) (t' := [(0, .sl 51 (List.map Rule.av list) f_list), (4, .ptr 0 0 none), (8, .sl 0 [] true)]) (h' := [.box 33 (Mod.ch m1)]) (by kernel_rfl) ?_
      refine AR.reg hm mods_Apply_k2 (by kernel_rfl) ?_
      refine DK.seg hG 1 [4, 8, 28] (t' := [(4, .ptr 0 0 none), (8, .sl 0 [] true), (28, .sl 51 (List.map Rule.av list) f_list)]) (h' := [.box 33 (Mod.ch m1)]) (by kernel_rfl) rfl ?_
      refine DK.op' [4, 8, 29] (t' := [(4, .ptr 0 0 none), (8, .sl 0 [] true), (29, .sl 51 (List.map Rule.av list) true)]) (h' := [.box 33 (Mod.ch m1)]) (LSpec.callP' (rule_Copy_ok list f_list) (by kernel_rfl)) (by kernel_rfl) rfl (by kernel_rfl) rfl ?_
      refine DK.seg hG 2 [4, 8, 29, 30, 31] (t' := [(4, .ptr 0 0 none), (8, .sl 0 [] true), (29, .sl 51 (List.map Rule.av list) true), (30, .sc (.int .i64 (((List.map Rule.av list).length : Nat) : Int))), (31, .sc (.int .i64 0))]) (h' := [.box 33 (Mod.ch m1)]) (by kernel_rfl) rfl ?_
      refine DK.done (by kernel_rfl) (by kernel_rfl) ?_
      refine AR.seg hG hm 1 [4, 8, 29, 30, 31] (k' := [.code [1, 1, 1, 1, 0, 1, 0], .blk 0, .code [1, 1, 1, 1, 1]]) (t' := [(4, .ptr 0 0 none), (8, .sl 0 [] true), (29, .sl 51 (List.map Rule.av list) true), (30, .sc (.int .i64 (((List.map Rule.av list).length : Nat) : Int))), (31, .sc (.int .i64 0))]) (h' := [.box 33 (Mod.ch m1)]) (by kernel_rfl) ?_
      refine AR.adoptB' 8 51 (t' := [(8, .own 1 1000000), (4, .ptr 0 0 none), (29, .sl 51 (List.map Rule.av list) true), (30, .sc (.int .i64 (((List.map Rule.av list).length : Nat) : Int))), (31, .sc (.int .i64 0))]) (h' := [.box 33 (Mod.ch m1), .row 51 (List.map Rule.av ([] : List Rule)) 1000000 true]) (by kernel_rfl) ?_
      refine AR.keep [4, 8, 29, 30, 31] (t' := [(4, .ptr 0 0 none), (8, .own 1 1000000), (29, .sl 51 (List.map Rule.av list) true), (30, .sc (.int .i64 (((List.map Rule.av list).length : Nat) : Int))), (31, .sc (.int .i64 0))]) (by kernel_rfl) ?_
      obtain ⟨v, hv, H⟩ := Option.bind_eq_some_iff.1 H
      refine AR.into (by kernel_rfl) ?_
      refine mods_Apply_l0_walk list m1 room f_list r c0 hc0 v ?_ list 0 rfl ([] : List Rule) hv
      refine AR.seg hG hm 2 [6, 7] (k' := [.code [1, 1, 1, 1, 1, 1]]) (t' := [(6, .own 1 1000000), (7, .sc (.int .i64 0))]) (h' := [.box 33 (Mod.ch m1), .row 51 (List.map Rule.av v) 1000000 true]) (by kernel_rfl) ?_
      obtain rfl := Option.some.inj H
      exact AR.ret0 (fn := Try.f18) hG Try.func18 (by kernel_rfl) hc0 (r0 := .tup [.sl 51 (List.map Rule.av v) false, .sc (.int .i64 0)]) (by kernel_rfl) (WkV.refl _)

def stepM (m : Mod) (x : Rule) : Option Rule := bif mods_touches m x then (bif ((m.Kind == 3) || (m.Kind == 5)) then none else some ({ x with Acts := m.Acts } : Rule)) else some x
def applyM (l : List Rule) (m : Mod) (room : Int) : List Rule × Int :=
  bif (!(tableR l)) || (!(mods_Sound m)) then ([], 2) else bif m.Kind == 1 then addM l m room else (l.filterMap (stepM m), 0)
def applyO (l : List Rule) (m : Mod) (room : Int) : Option (List Rule × Int) := if l.length ≤ 1000000 then some (applyM l m room) else none
theorem mods_Apply_l0s_eq (m : Mod) : ∀ (l out : List Rule), (out.length + l.length) ≤ 1000000 → mods_Apply_l0s m l out = some (out ++ l.filterMap (stepM m))
  | [], out, _ => by rw [mods_Apply_l0s, List.filterMap_nil, List.append_nil]
  | x :: l, out, h => by
      rw [List.length_cons] at h
      have step : ∀ y : Rule, mods_Apply_l0s m l (out ++ [y]) = some (out ++ y :: l.filterMap (stepM m)) := fun y => by
        rw [mods_Apply_l0s_eq m l (out ++ [y]) (by rw [List.length_append, List.length_cons, List.length_nil]; omega), List.append_assoc]; rfl
      rw [mods_Apply_l0s, List.filterMap_cons, fitO_eq (by rw [List.length_cons, List.length_nil]; omega), fitO_eq (by rw [List.length_cons, List.length_nil]; omega)]
      have e : stepM m x = bif mods_touches m x then (bif ((m.Kind == 3) || (m.Kind == 5)) then none else some ({ x with Acts := m.Acts } : Rule)) else some x := rfl
      rw [e]
      cases mods_touches m x
      · exact step x
      · cases (m.Kind == 3) || (m.Kind == 5)
        · exact step _
        · exact mods_Apply_l0s_eq m l out (by omega)
theorem mods_Apply_eq (l : List Rule) (m : Mod) (room : Int) (h : l.length ≤ 1000000) : mods_Apply_raw l m room = some (applyM l m room) := by
  rw [mods_Apply_raw, mods_Apply_l0s_eq m l [] (by rw [List.length_nil]; omega)]
  unfold applyM addO
  rw [if_pos h]
  cases (!(tableR l)) || (!(mods_Sound m))
  · cases m.Kind == 1 <;> rfl
  · rfl
theorem mods_Apply_ok (l : List Rule) (m : Mod) (room : Int) (f : Bool) (x : List Rule × Int) (h : applyO l m room = some x) : ACalls Try.prog tab.S 18 [.sl 51 (List.map Rule.av l) f, Mod.av m, .sc (.int .i64 room)] [] (.tup [.sl 51 (List.map Rule.av x.1) false, .sc (.int .i64 x.2)]) [] := by
  unfold applyO at h
  split at h
  · rename_i hl
    exact mods_Apply_walk l m room f x ((mods_Apply_eq l m room hl).trans h)
  · cases h

end Go.Proofs.Ytlfiemphadkimaa
