/- What was dropped may be taken again, by anybody; what nobody holds is free. No condition. -/
import Derived.Test.YtamgbggpbehflaaRows
import Derived.Test.YtamgbggpbehflaaM4LockAgain
set_option linter.unusedVariables false
set_option linter.unusedSimpArgs false
set_option maxRecDepth 100000
set_option maxHeartbeats 4000000
namespace Go.Proofs.Ytamgbggpbehflaa
open Go.Sh
set_option maxRecDepth 100000
open Go.ChangeShapes Go.WideShapes Go.ChangeAt Go.RowKit
theorem LockAgain_law (x0 : Int) (x1 : Int) (x2 : List Region) (f2 : Bool) (w0 : intW .i64 x0) (w1 : intW .i64 x1) (w2 : (∀ y ∈ x2, Region.wf y)) : ACalls Try.prog tab.S 6 [.sc (.int .i64 x0), .sc (.int .i64 x1), .sl 42 (List.map Region.av x2) f2] [] (.sc (.bool true)) [] := by
  refine ACalls.facts (ent_of Try.func6 (by kernel_rfl) (by kernel_rfl)) fun hf => ?_
  have l2 : x2.length * 200 ≤ 140737488355328 := by have h := hf.2.2.1.1; rw [List.length_map] at h; exact h
  have h := LockAgain_true x0 x1 x2 w0 w1 w2 l2
  exact z6_walk x0 x1 x2 f2 true h
namespace lockAgain
theorem own : ownKnob Try.prog.godebug = none := by kernel_rfl
set_option maxRecDepth 100000 in
theorem lifted (os : Os) (started : os.Started) (H : Type) (enc : TypeId × Value → H) :
    ReturnsInHanded {} Try.checked os 6 .any (Rows.lockAgainSpec.pre6 enc Try.prog Try.f6 Rows.lockAgainRow.domain false) (Rows.lockAgainSpec.post enc Try.prog Try.f6 false true false false) := by
  refine returnsInHanded_of_change_sized (C := Try.checked) own started (by kernel_rfl) Try.func6
    (ChangeSpec.witness6 (enc := enc) (C := Try.checked) false ⟨#[], #[.int .i64 0, .int .i64 0, .slice none 0 0], []⟩ 8 (by kernel_rfl) (by kernel_rfl) (by kernel_rfl) (by kernel_rfl)) ?_
  intro W base args ds gs before hval0 hW hcnd hsz0 _
  have hsz : (DataW.weightsEach Try.prog (Try.f6.params.toList ++ Rows.lockAgainSpec.plain.varTypes Try.prog) (ds ++ gs)).all (· ≤ reachBytes) = true := hsz0
  have hval : ∀ (j : Nat) t v, Try.f6.params[j]? = some t → args[j]? = some v → Value.okWide Try.prog W .any base t v := hval0
  have hW' := hW
  obtain ⟨p, q, hA0, hV, rfl, hfz, hnd⟩ := hW
  have hA : DataW.TrodAll enc Try.prog W 0 (fun _ => true) true Try.f6.params.toList args.toList ds p := hA0
  rw [Try.params6] at hA hval hsz
  obtain ⟨v0, vs0, d0, ds0, p0, q0, hargs, rfl, rfl, h0, r0⟩ := trodAll_cons hA
  obtain ⟨v1, vs1, d1, ds1, p1, q1, rfl, rfl, rfl, h1, r1⟩ := trodAll_cons r0
  obtain ⟨v2, vs2, d2, ds2, p2, q2, rfl, rfl, rfl, h2, r2⟩ := trodAll_cons r1
  obtain ⟨rfl, rfl, rfl⟩ := trodAll_nil r2
  obtain rfl : args = #[v0, v1, v2] := by cases args; simp_all
  obtain ⟨rfl, rfl⟩ := trodVars_none hV
  obtain ⟨g0, s0, e0⟩ := open_arg tab_ok (m := 12) (by kernel_rfl) (hval 0 3 v0 rfl rfl) h0 (weights_of hsz (j := 0) rfl rfl)
  obtain ⟨x0, rfl, w0⟩ := Shaped.int_inv (k := .i64) (by kernel_rfl) s0
  obtain ⟨g1, s1, e1⟩ := open_arg tab_ok (m := 12) (by kernel_rfl) (hval 1 3 v1 rfl rfl) h1 (weights_of hsz (j := 1) rfl rfl)
  obtain ⟨x1, rfl, w1⟩ := Shaped.int_inv (k := .i64) (by kernel_rfl) s1
  obtain ⟨g2, s2, e2⟩ := open_arg tab_ok (m := 12) (by kernel_rfl) (hval 2 31 v2 rfl rfl) h2 (weights_of hsz (j := 2) rfl rfl)
  obtain ⟨q2, rfl, hq2⟩ := Shaped.slice_inv (e := 42) (by kernel_rfl) s2
  obtain ⟨x2, hx2, w2⟩ := rows_typedW (G := tab) (e := 42) (av := Region.av) (wf := fun y => Region.wf y) q2 (fun g hg => by obtain ⟨x, rfl, w⟩ := Region.shaped (hq2 g hg); exact ⟨x, (by kernel_rfl), w⟩)
  rw [hx2] at e2
  refine (law_call (vals := #[v0, v1, v2]) (LockAgain_law x0 x1 x2 false w0 w1 w2) (.cons e0 (.cons e1 (.cons e2 .nil)))).mono fun e W' ⟨he, bel⟩ => ?_
  subst he
  exact ⟨_, rfl, _, _, _, [], _, [], hW', trodAll_mk1 (shut_bool Try.underlying4 _), (trodAll_cons_mk (shut_arg (by kernel_rfl) (by kernel_rfl) (of_decide_eq_true (by kernel_rfl)) h0 bel) (trodAll_cons_mk (shut_arg (by kernel_rfl) (by kernel_rfl) (of_decide_eq_true (by kernel_rfl)) h1 bel) (trodAll_cons_mk (shut_arg (by kernel_rfl) (by kernel_rfl) (of_decide_eq_true (by kernel_rfl)) h2 bel) trodAll_mk0))), rfl, bel.frame _, fun h => by cases h⟩
theorem over : Rows.lockAgainRow.holds Try.pinned (OpenSpec.ofChange Rows.lockAgainSpec) :=
  OpenClaim.holds_of_wide 6 Try.f6 rfl rfl rfl rfl rfl rfl rfl ⟨rfl, rfl, rfl, rfl, rfl⟩ rfl rfl rfl rfl rfl (by kernel_rfl) Try.func6 (by kernel_rfl)
    (of_decide_eq_true (by kernel_rfl)) (by unfold Func.isWrapper; first | (rw [if_pos (by decide +kernel)]; kernel_rfl) | (rw [if_neg (by decide +kernel)]; exact ⟨rfl, rfl⟩))
    (fun os started H enc _ => lifted os started H enc)
end lockAgain
/-- The row, for the claim. -/
theorem lockAgain_holds : Rows.LockAgainSaid := lockAgain.over
#print axioms lockAgain_holds

end Go.Proofs.Ytamgbggpbehflaa
