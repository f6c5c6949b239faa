/- For every setup, every byte and every yes or no the statement podestalaw12.TopoTwice answers true, and its arguments read as they did before. There is no condition. -/
import Derived.Test.YtlnpkofmaemgpaaRows
import Derived.Test.YtlnpkofmaemgpaaM4TopoTwice
set_option linter.unusedVariables false
set_option linter.unusedSimpArgs false
set_option maxRecDepth 100000
set_option maxHeartbeats 4000000
namespace Go.Proofs.Ytlnpkofmaemgpaa
open Go.Sh
set_option maxRecDepth 100000
open Go.ChangeShapes Go.WideShapes Go.ChangeAt Go.RowKit
theorem TopoTwice_law (x0 : Setup) (x1 : Int) (x2 : Bool)  (w0 : Setup.wf x0) (w1 : intW .u8 x1) (w2 : True) : ACalls Try.prog tab.S 5 [Setup.av x0, .sc (.int .u8 x1), .sc (.bool x2)] [] (.sc (.bool true)) [] := by
  refine ACalls.facts (ent_of Try.func5 (by kernel_rfl) (by kernel_rfl)) fun hf => ?_
  have l0_3 : x0.Links.length * 32 ≤ 140737488355328 := by have h := hf.1.2.2.2.1.1; rw [List.length_map] at h; exact h
  have h := TopoTwice_true x0 x1 x2 w0 w1 w2 l0_3
  exact podestalaw12_TopoTwice_walk x0 x1 x2 true h
namespace topoTwice
theorem own : ownKnob Try.prog.godebug = none := by kernel_rfl
set_option maxRecDepth 100000 in
theorem lifted (os : Os) (started : os.Started) (H : Type) (enc : TypeId × Value → H) :
    ReturnsInHanded {} Try.checked os 5 .any (Rows.topoTwiceSpec.pre6 enc Try.prog Try.f5 Rows.topoTwiceRow.domain false) (Rows.topoTwiceSpec.post enc Try.prog Try.f5 false true false false) := by
  refine returnsInHanded_of_change_sized (C := Try.checked) own started (by kernel_rfl) Try.func5
    (ChangeSpec.witness6 (enc := enc) (C := Try.checked) false ⟨#[], #[.agg #[.int .i64 0, .int .i64 0, .int .i64 0, .slice none 0 0], .int .u8 0, .bool false], []⟩ 8 (by kernel_rfl) (by kernel_rfl) (by kernel_rfl) (by kernel_rfl)) ?_
  intro W base args ds gs before hval0 hW hcnd hsz0 _
  have hsz : (DataW.weightsEach Try.prog (Try.f5.params.toList ++ Rows.topoTwiceSpec.plain.varTypes Try.prog) (ds ++ gs)).all (· ≤ reachBytes) = true := hsz0
  have hval : ∀ (j : Nat) t v, Try.f5.params[j]? = some t → args[j]? = some v → Value.okWide Try.prog W .any base t v := hval0
  have hW' := hW
  obtain ⟨p, q, hA0, hV, rfl, hfz, hnd⟩ := hW
  have hA : DataW.TrodAll enc Try.prog W 0 (fun _ => true) true Try.f5.params.toList args.toList ds p := hA0
  rw [Try.params5] at hA hval hsz
  obtain ⟨v0, vs0, d0, ds0, p0, q0, hargs, rfl, rfl, h0, r0⟩ := trodAll_cons hA
  obtain ⟨v1, vs1, d1, ds1, p1, q1, rfl, rfl, rfl, h1, r1⟩ := trodAll_cons r0
  obtain ⟨v2, vs2, d2, ds2, p2, q2, rfl, rfl, rfl, h2, r2⟩ := trodAll_cons r1
  obtain ⟨rfl, rfl, rfl⟩ := trodAll_nil r2
  obtain rfl : args = #[v0, v1, v2] := by cases args; simp_all
  obtain ⟨rfl, rfl⟩ := trodVars_none hV
  obtain ⟨g0, s0, e0⟩ := open_arg tab_ok (m := 12) (by kernel_rfl) (hval 0 24 v0 rfl rfl) h0 (weights_of hsz (j := 0) rfl rfl)
  obtain ⟨x0, rfl, w0⟩ := Setup.shaped s0
  obtain ⟨g1, s1, e1⟩ := open_arg tab_ok (m := 12) (by kernel_rfl) (hval 1 5 v1 rfl rfl) h1 (weights_of hsz (j := 1) rfl rfl)
  obtain ⟨x1, rfl, w1⟩ := Shaped.int_inv (k := .u8) (by kernel_rfl) s1
  obtain ⟨g2, s2, e2⟩ := open_arg tab_ok (m := 12) (by kernel_rfl) (hval 2 4 v2 rfl rfl) h2 (weights_of hsz (j := 2) rfl rfl)
  obtain ⟨x2, rfl⟩ := Shaped.bool_inv (by kernel_rfl) s2
  refine (law_call (vals := #[v0, v1, v2]) (TopoTwice_law x0 x1 x2 w0 w1 trivial) (.cons e0 (.cons e1 (.cons e2 .nil)))).mono fun e W' ⟨he, bel⟩ => ?_
  subst he
  exact ⟨_, rfl, _, _, _, [], _, [], hW', trodAll_mk1 (shut_bool Try.underlying4 _), (trodAll_cons_mk (shut_arg (by kernel_rfl) (by kernel_rfl) (of_decide_eq_true (by kernel_rfl)) h0 bel) (trodAll_cons_mk (shut_arg (by kernel_rfl) (by kernel_rfl) (of_decide_eq_true (by kernel_rfl)) h1 bel) (trodAll_cons_mk (shut_arg (by kernel_rfl) (by kernel_rfl) (of_decide_eq_true (by kernel_rfl)) h2 bel) trodAll_mk0))), rfl, bel.frame _, fun h => by cases h⟩
theorem over : Rows.topoTwiceRow.holds Try.pinned (OpenSpec.ofChange Rows.topoTwiceSpec) :=
  OpenClaim.holds_of_wide 5 Try.f5 rfl rfl rfl rfl rfl rfl rfl ⟨rfl, rfl, rfl, rfl, rfl⟩ rfl rfl rfl rfl rfl (by kernel_rfl) Try.func5 (by kernel_rfl)
    (of_decide_eq_true (by kernel_rfl)) (by unfold Func.isWrapper; first | (rw [if_pos (by decide +kernel)]; kernel_rfl) | (rw [if_neg (by decide +kernel)]; exact ⟨rfl, rfl⟩))
    (fun os started H enc _ => lifted os started H enc)
end topoTwice
/-- The row, for the claim. -/
theorem topoTwice_holds : Rows.TopoTwiceSaid := topoTwice.over
#print axioms topoTwice_holds

end Go.Proofs.Ytlnpkofmaemgpaa
