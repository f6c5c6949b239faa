/- For every three rules the statement podestalaw05.RuleOrder answers true, and its arguments read as they did before. There is no condition. -/
import Derived.Test.YtadolbhmdimbkaaRows
import Derived.Test.YtadolbhmdimbkaaM3RuleOrder
set_option linter.unusedVariables false
set_option linter.unusedSimpArgs false
set_option maxRecDepth 100000
set_option maxHeartbeats 4000000
namespace Go.Proofs.Ytadolbhmdimbkaa
open Go.Sh
set_option maxRecDepth 100000
open Go.ChangeShapes Go.WideShapes Go.ChangeAt Go.RowKit
theorem RuleOrder_law (x0 : Rule) (x1 : Rule) (x2 : Rule)  (w0 : Rule.wf x0) (w1 : Rule.wf x1) (w2 : Rule.wf x2) : ACalls Try.prog tab.S 4 [Rule.av x0, Rule.av x1, Rule.av x2] [] (.sc (.bool true)) [] := by
  have h := podestalaw05_RuleOrder_calls x0 x1 x2
  have e : podestalaw05_RuleOrder x0 x1 x2 = true := RuleOrder_true x0 x1 x2 w0 w1 w2
  rw [e] at h
  exact h
namespace ruleOrder
theorem own : ownKnob Try.prog.godebug = none := by kernel_rfl
set_option maxRecDepth 100000 in
theorem lifted (os : Os) (started : os.Started) (H : Type) (enc : TypeId × Value → H) :
    ReturnsInHanded {} Try.checked os 4 .any (Rows.ruleOrderSpec.pre6 enc Try.prog Try.f4 Rows.ruleOrderRow.domain false) (Rows.ruleOrderSpec.post enc Try.prog Try.f4 false true false false) := by
  refine returnsInHanded_of_change_sized (C := Try.checked) own started (by kernel_rfl) Try.func4
    (ChangeSpec.witness6 (enc := enc) (C := Try.checked) false ⟨#[], #[.agg #[.int .u64 0, .int .u64 0, .int .u64 0, .int .u64 0, .int .u64 0, .int .u64 0, .int .u64 0, .int .u64 0, .int .u64 0, .int .u64 0, .int .u64 0, .int .u64 0, .int .u64 0, .int .u64 0, .int .u64 0, .int .u64 0, .int .u64 0, .int .u64 0, .int .u64 0, .int .u64 0, .int .u64 0, .int .u64 0, .int .u64 0, .int .u64 0, .int .i64 0, .slice none 0 0, .int .i64 0, .int .i64 0, .int .i64 0, .int .i64 0, .int .i64 0, .int .i64 0], .agg #[.int .u64 0, .int .u64 0, .int .u64 0, .int .u64 0, .int .u64 0, .int .u64 0, .int .u64 0, .int .u64 0, .int .u64 0, .int .u64 0, .int .u64 0, .int .u64 0, .int .u64 0, .int .u64 0, .int .u64 0, .int .u64 0, .int .u64 0, .int .u64 0, .int .u64 0, .int .u64 0, .int .u64 0, .int .u64 0, .int .u64 0, .int .u64 0, .int .i64 0, .slice none 0 0, .int .i64 0, .int .i64 0, .int .i64 0, .int .i64 0, .int .i64 0, .int .i64 0], .agg #[.int .u64 0, .int .u64 0, .int .u64 0, .int .u64 0, .int .u64 0, .int .u64 0, .int .u64 0, .int .u64 0, .int .u64 0, .int .u64 0, .int .u64 0, .int .u64 0, .int .u64 0, .int .u64 0, .int .u64 0, .int .u64 0, .int .u64 0, .int .u64 0, .int .u64 0, .int .u64 0, .int .u64 0, .int .u64 0, .int .u64 0, .int .u64 0, .int .i64 0, .slice none 0 0, .int .i64 0, .int .i64 0, .int .i64 0, .int .i64 0, .int .i64 0, .int .i64 0]], []⟩ 8 (by kernel_rfl) (by kernel_rfl) (by kernel_rfl) (by kernel_rfl)) ?_
  intro W base args ds gs before hval0 hW hcnd hsz0 _
  have hsz : (DataW.weightsEach Try.prog (Try.f4.params.toList ++ Rows.ruleOrderSpec.plain.varTypes Try.prog) (ds ++ gs)).all (· ≤ reachBytes) = true := hsz0
  have hval : ∀ (j : Nat) t v, Try.f4.params[j]? = some t → args[j]? = some v → Value.okWide Try.prog W .any base t v := hval0
  have hW' := hW
  obtain ⟨p, q, hA0, hV, rfl, hfz, hnd⟩ := hW
  have hA : DataW.TrodAll enc Try.prog W 0 (fun _ => true) true Try.f4.params.toList args.toList ds p := hA0
  rw [Try.params4] at hA hval hsz
  obtain ⟨v0, vs0, d0, ds0, p0, q0, hargs, rfl, rfl, h0, r0⟩ := trodAll_cons hA
  obtain ⟨v1, vs1, d1, ds1, p1, q1, rfl, rfl, rfl, h1, r1⟩ := trodAll_cons r0
  obtain ⟨v2, vs2, d2, ds2, p2, q2, rfl, rfl, rfl, h2, r2⟩ := trodAll_cons r1
  obtain ⟨rfl, rfl, rfl⟩ := trodAll_nil r2
  obtain rfl : args = #[v0, v1, v2] := by cases args; simp_all
  obtain ⟨rfl, rfl⟩ := trodVars_none hV
  obtain ⟨g0, s0, e0⟩ := open_arg tab_ok (m := 12) (by kernel_rfl) (hval 0 34 v0 rfl rfl) h0 (weights_of hsz (j := 0) rfl rfl)
  obtain ⟨x0, rfl, w0⟩ := Rule.shaped s0
  obtain ⟨g1, s1, e1⟩ := open_arg tab_ok (m := 12) (by kernel_rfl) (hval 1 34 v1 rfl rfl) h1 (weights_of hsz (j := 1) rfl rfl)
  obtain ⟨x1, rfl, w1⟩ := Rule.shaped s1
  obtain ⟨g2, s2, e2⟩ := open_arg tab_ok (m := 12) (by kernel_rfl) (hval 2 34 v2 rfl rfl) h2 (weights_of hsz (j := 2) rfl rfl)
  obtain ⟨x2, rfl, w2⟩ := Rule.shaped s2
  refine (law_call (vals := #[v0, v1, v2]) (RuleOrder_law x0 x1 x2 w0 w1 w2) (.cons e0 (.cons e1 (.cons e2 .nil)))).mono fun e W' ⟨he, bel⟩ => ?_
  subst he
  exact ⟨_, rfl, _, _, _, [], _, [], hW', trodAll_mk1 (shut_bool Try.underlying4 _), (trodAll_cons_mk (shut_arg (by kernel_rfl) (by kernel_rfl) (of_decide_eq_true (by kernel_rfl)) h0 bel) (trodAll_cons_mk (shut_arg (by kernel_rfl) (by kernel_rfl) (of_decide_eq_true (by kernel_rfl)) h1 bel) (trodAll_cons_mk (shut_arg (by kernel_rfl) (by kernel_rfl) (of_decide_eq_true (by kernel_rfl)) h2 bel) trodAll_mk0))), rfl, bel.frame _, fun h => by cases h⟩
theorem over : Rows.ruleOrderRow.holds Try.pinned (OpenSpec.ofChange Rows.ruleOrderSpec) :=
  OpenClaim.holds_of_wide 4 Try.f4 rfl rfl rfl rfl rfl rfl rfl ⟨rfl, rfl, rfl, rfl, rfl⟩ rfl rfl rfl rfl rfl (by kernel_rfl) Try.func4 (by kernel_rfl)
    (of_decide_eq_true (by kernel_rfl)) (by unfold Func.isWrapper; first | (rw [if_pos (by decide +kernel)]; kernel_rfl) | (rw [if_neg (by decide +kernel)]; exact ⟨rfl, rfl⟩))
    (fun os started H enc _ => lifted os started H enc)
end ruleOrder
/-- The row, for the claim. -/
theorem ruleOrder_holds : Rows.RuleOrderSaid := ruleOrder.over
#print axioms ruleOrder_holds

end Go.Proofs.Ytadolbhmdimbkaa
