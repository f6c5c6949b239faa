/- For every list of rules the statement podestalaw05.RuleOwn answers true, and its arguments read as they did before. There is no condition. -/
import Derived.Test.YtjicebidjfbkpaaRows
import Derived.Test.YtjicebidjfbkpaaM5RuleOwn
set_option linter.unusedVariables false
set_option linter.unusedSimpArgs false
set_option maxRecDepth 100000
set_option maxHeartbeats 4000000
namespace Go.Proofs.Ytjicebidjfbkpaa
open Go.Sh
set_option maxRecDepth 100000
open Go.ChangeShapes Go.WideShapes Go.ChangeAt Go.RowKit
theorem RuleOwn_law (x0 : List Rule) (f0 : Bool) (w0 : (∀ y ∈ x0, Rule.wf y)) : ACalls Try.prog tab.S 3 [.sl 31 (List.map Rule.av x0) f0] [] (.sc (.bool true)) [] := by
  exact ro_hand x0 f0
namespace ruleOwn
theorem own : ownKnob Try.prog.godebug = none := by kernel_rfl
set_option maxRecDepth 100000 in
theorem lifted (os : Os) (started : os.Started) (H : Type) (enc : TypeId × Value → H) :
    ReturnsInHanded {} Try.checked os 3 .any (Rows.ruleOwnSpec.pre6 enc Try.prog Try.f3 Rows.ruleOwnRow.domain false) (Rows.ruleOwnSpec.post enc Try.prog Try.f3 false true false false) := by
  refine returnsInHanded_of_change_sized (C := Try.checked) own started (by kernel_rfl) Try.func3
    (ChangeSpec.witness6 (enc := enc) (C := Try.checked) false ⟨#[], #[.slice none 0 0], []⟩ 8 (by kernel_rfl) (by kernel_rfl) (by kernel_rfl) (by kernel_rfl)) ?_
  intro W base args ds gs before hval0 hW hcnd hsz0 _
  have hsz : (DataW.weightsEach Try.prog (Try.f3.params.toList ++ Rows.ruleOwnSpec.plain.varTypes Try.prog) (ds ++ gs)).all (· ≤ reachBytes) = true := hsz0
  have hval : ∀ (j : Nat) t v, Try.f3.params[j]? = some t → args[j]? = some v → Value.okWide Try.prog W .any base t v := hval0
  have hW' := hW
  obtain ⟨p, q, hA0, hV, rfl, hfz, hnd⟩ := hW
  have hA : DataW.TrodAll enc Try.prog W 0 (fun _ => true) true Try.f3.params.toList args.toList ds p := hA0
  rw [Try.params3] at hA hval hsz
  obtain ⟨v0, vs0, d0, ds0, p0, q0, hargs, rfl, rfl, h0, r0⟩ := trodAll_cons hA
  obtain ⟨rfl, rfl, rfl⟩ := trodAll_nil r0
  obtain rfl : args = #[v0] := by cases args; simp_all
  obtain ⟨rfl, rfl⟩ := trodVars_none hV
  obtain ⟨g0, s0, e0⟩ := open_arg tab_ok (m := 12) (by kernel_rfl) (hval 0 22 v0 rfl rfl) h0 (weights_of hsz (j := 0) rfl rfl)
  obtain ⟨q0, rfl, hq0⟩ := Shaped.slice_inv (e := 31) (by kernel_rfl) s0
  obtain ⟨x0, hx0, w0⟩ := rows_typedW (G := tab) (e := 31) (av := Rule.av) (wf := fun y => Rule.wf y) q0 (fun g hg => by obtain ⟨x, rfl, w⟩ := Rule.shaped (hq0 g hg); exact ⟨x, (by kernel_rfl), w⟩)
  rw [hx0] at e0
  refine (law_call (vals := #[v0]) (RuleOwn_law x0 false w0) (.cons e0 .nil)).mono fun e W' ⟨he, bel⟩ => ?_
  subst he
  exact ⟨_, rfl, _, _, _, [], _, [], hW', trodAll_mk1 (shut_bool Try.underlying4 _), (trodAll_cons_mk (shut_arg (by kernel_rfl) (by kernel_rfl) (of_decide_eq_true (by kernel_rfl)) h0 bel) trodAll_mk0), rfl, bel.frame _, fun h => by cases h⟩
theorem over : Rows.ruleOwnRow.holds Try.pinned (OpenSpec.ofChange Rows.ruleOwnSpec) :=
  OpenClaim.holds_of_wide 3 Try.f3 rfl rfl rfl rfl rfl rfl rfl ⟨rfl, rfl, rfl, rfl, rfl⟩ rfl rfl rfl rfl rfl (by kernel_rfl) Try.func3 (by kernel_rfl)
    (of_decide_eq_true (by kernel_rfl)) (by unfold Func.isWrapper; first | (rw [if_pos (by decide +kernel)]; kernel_rfl) | (rw [if_neg (by decide +kernel)]; exact ⟨rfl, rfl⟩))
    (fun os started H enc _ => lifted os started H enc)
end ruleOwn
/-- The row, for the claim. -/
theorem ruleOwn_holds : Rows.RuleOwnSaid := ruleOwn.over
#print axioms ruleOwn_holds

end Go.Proofs.Ytjicebidjfbkpaa
