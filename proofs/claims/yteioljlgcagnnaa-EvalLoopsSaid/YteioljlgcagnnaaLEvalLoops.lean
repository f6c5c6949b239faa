/- A loop runs the specified number of times if there is enough fuel, each round uses the specified amount. No condition. -/
import Derived.Test.YteioljlgcagnnaaRows
import Derived.Test.YteioljlgcagnnaaM6EvalLoops
set_option linter.unusedVariables false
set_option linter.unusedSimpArgs false
set_option maxRecDepth 100000
set_option maxHeartbeats 4000000
namespace Go.Proofs.Yteioljlgcagnnaa
open Go.Sh
set_option maxRecDepth 100000
open Go.ChangeShapes Go.WideShapes Go.ChangeAt Go.RowKit
theorem EvalLoops_law (x0 : Int) (x1 : Int)  (w0 : intW .u8 x0) (w1 : intW .u16 x1) : ACalls Try.prog tab.S 7 [.sc (.int .u8 x0), .sc (.int .u16 x1)] [] (.sc (.bool true)) [] := by
  refine ACalls.facts (ent_of Try.func7 (by kernel_rfl) (by kernel_rfl)) fun hf => ?_
  have h := EvalLoops_true x0 x1 w0 w1
  exact z7_walk x0 x1 true h
namespace evalLoops
theorem own : ownKnob Try.prog.godebug = none := by kernel_rfl
set_option maxRecDepth 100000 in
theorem lifted (os : Os) (started : os.Started) (H : Type) (enc : TypeId × Value → H) :
    ReturnsInHanded {} Try.checked os 7 .any (Rows.evalLoopsSpec.pre6 enc Try.prog Try.f7 Rows.evalLoopsRow.domain false) (Rows.evalLoopsSpec.post enc Try.prog Try.f7 false true false false) := by
  refine returnsInHanded_of_change_sized (C := Try.checked) own started (by kernel_rfl) Try.func7
    (ChangeSpec.witness6 (enc := enc) (C := Try.checked) false ⟨#[], #[.int .u8 0, .int .u16 0], []⟩ 8 (by kernel_rfl) (by kernel_rfl) (by kernel_rfl) (by kernel_rfl)) ?_
  intro W base args ds gs before hval0 hW hcnd hsz0 _
  have hsz : (DataW.weightsEach Try.prog (Try.f7.params.toList ++ Rows.evalLoopsSpec.plain.varTypes Try.prog) (ds ++ gs)).all (· ≤ reachBytes) = true := hsz0
  have hval : ∀ (j : Nat) t v, Try.f7.params[j]? = some t → args[j]? = some v → Value.okWide Try.prog W .any base t v := hval0
  have hW' := hW
  obtain ⟨p, q, hA0, hV, rfl, hfz, hnd⟩ := hW
  have hA : DataW.TrodAll enc Try.prog W 0 (fun _ => true) true Try.f7.params.toList args.toList ds p := hA0
  rw [Try.params7] at hA hval hsz
  obtain ⟨v0, vs0, d0, ds0, p0, q0, hargs, rfl, rfl, h0, r0⟩ := trodAll_cons hA
  obtain ⟨v1, vs1, d1, ds1, p1, q1, rfl, rfl, rfl, h1, r1⟩ := trodAll_cons r0
  obtain ⟨rfl, rfl, rfl⟩ := trodAll_nil r1
  obtain rfl : args = #[v0, v1] := by cases args; simp_all
  obtain ⟨rfl, rfl⟩ := trodVars_none hV
  obtain ⟨g0, s0, e0⟩ := open_arg tab_ok (m := 12) (by kernel_rfl) (hval 0 5 v0 rfl rfl) h0 (weights_of hsz (j := 0) rfl rfl)
  obtain ⟨x0, rfl, w0⟩ := Shaped.int_inv (k := .u8) (by kernel_rfl) s0
  obtain ⟨g1, s1, e1⟩ := open_arg tab_ok (m := 12) (by kernel_rfl) (hval 1 63 v1 rfl rfl) h1 (weights_of hsz (j := 1) rfl rfl)
  obtain ⟨x1, rfl, w1⟩ := Shaped.int_inv (k := .u16) (by kernel_rfl) s1
  refine (law_call (vals := #[v0, v1]) (EvalLoops_law x0 x1 w0 w1) (.cons e0 (.cons e1 .nil))).mono fun e W' ⟨he, bel⟩ => ?_
  subst he
  exact ⟨_, rfl, _, _, _, [], _, [], hW', trodAll_mk1 (shut_bool Try.underlying4 _), (trodAll_cons_mk (shut_arg (by kernel_rfl) (by kernel_rfl) (of_decide_eq_true (by kernel_rfl)) h0 bel) (trodAll_cons_mk (shut_arg (by kernel_rfl) (by kernel_rfl) (of_decide_eq_true (by kernel_rfl)) h1 bel) trodAll_mk0)), rfl, bel.frame _, fun h => by cases h⟩
theorem over : Rows.evalLoopsRow.holds Try.pinned (OpenSpec.ofChange Rows.evalLoopsSpec) :=
  OpenClaim.holds_of_wide 7 Try.f7 rfl rfl rfl rfl rfl rfl rfl ⟨rfl, rfl, rfl, rfl, rfl⟩ rfl rfl rfl rfl rfl (by kernel_rfl) Try.func7 (by kernel_rfl)
    (of_decide_eq_true (by kernel_rfl)) (by unfold Func.isWrapper; first | (rw [if_pos (by decide +kernel)]; kernel_rfl) | (rw [if_neg (by decide +kernel)]; exact ⟨rfl, rfl⟩))
    (fun os started H enc _ => lifted os started H enc)
end evalLoops
/-- The row, for the claim. -/
theorem evalLoops_holds : Rows.EvalLoopsSaid := evalLoops.over
#print axioms evalLoops_holds

end Go.Proofs.Yteioljlgcagnnaa
