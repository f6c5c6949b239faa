/- For any sequence of calls all results are as specified. No condition. -/
import Derived.Test.YtamgbggpbehflaaRows
import Derived.Test.YtamgbggpbehflaaM5LockPlays
set_option linter.unusedVariables false
set_option linter.unusedSimpArgs false
set_option maxRecDepth 100000
set_option maxHeartbeats 4000000
namespace Go.Proofs.Ytamgbggpbehflaa
open Go.Sh
set_option maxRecDepth 100000
open Go.ChangeShapes Go.WideShapes Go.ChangeAt Go.RowKit
theorem LockPlays_law (x0 : List Act) (x1 : Int) (x2 : List Int) (f0 : Bool) (w0 : (∀ y ∈ x0, Act.wf y)) (w1 : intW .i64 x1) (w2 : arrW .u64 12 x2) : ACalls Try.prog tab.S 3 [.sl 33 (List.map Act.av x0) f0, .sc (.int .i64 x1), .arr .u64 12 x2] [] (.sc (.bool true)) [] := by
  refine ACalls.facts (ent_of Try.func3 (by kernel_rfl) (by kernel_rfl)) fun hf => ?_
  have l0 : x0.length * 40 ≤ 140737488355328 := by have h := hf.1.1; rw [List.length_map] at h; exact h
  obtain ⟨q3, h⟩ := LockPlays_true x0 x1 x2 w0 w1 w2 l0
  exact z3_walk q3 x0 x1 x2 f0 true h
namespace lockPlays
theorem own : ownKnob Try.prog.godebug = none := by kernel_rfl
set_option maxRecDepth 100000 in
theorem lifted (os : Os) (started : os.Started) (H : Type) (enc : TypeId × Value → H) :
    ReturnsInHanded {} Try.checked os 3 .any (Rows.lockPlaysSpec.pre6 enc Try.prog Try.f3 Rows.lockPlaysRow.domain false) (Rows.lockPlaysSpec.post enc Try.prog Try.f3 false true false false) := by
  refine returnsInHanded_of_change_sized (C := Try.checked) own started (by kernel_rfl) Try.func3
    (ChangeSpec.witness6 (enc := enc) (C := Try.checked) false ⟨#[], #[.slice none 0 0, .int .i64 0, .agg #[.int .u64 0, .int .u64 0, .int .u64 0, .int .u64 0, .int .u64 0, .int .u64 0, .int .u64 0, .int .u64 0, .int .u64 0, .int .u64 0, .int .u64 0, .int .u64 0]], []⟩ 8 (by kernel_rfl) (by kernel_rfl) (by kernel_rfl) (by kernel_rfl)) ?_
  intro W base args ds gs before hval0 hW hcnd hsz0 _
  have hsz : (DataW.weightsEach Try.prog (Try.f3.params.toList ++ Rows.lockPlaysSpec.plain.varTypes Try.prog) (ds ++ gs)).all (· ≤ reachBytes) = true := hsz0
  have hval : ∀ (j : Nat) t v, Try.f3.params[j]? = some t → args[j]? = some v → Value.okWide Try.prog W .any base t v := hval0
  have hW' := hW
  obtain ⟨p, q, hA0, hV, rfl, hfz, hnd⟩ := hW
  have hA : DataW.TrodAll enc Try.prog W 0 (fun _ => true) true Try.f3.params.toList args.toList ds p := hA0
  rw [Try.params3] at hA hval hsz
  obtain ⟨v0, vs0, d0, ds0, p0, q0, hargs, rfl, rfl, h0, r0⟩ := trodAll_cons hA
  obtain ⟨v1, vs1, d1, ds1, p1, q1, rfl, rfl, rfl, h1, r1⟩ := trodAll_cons r0
  obtain ⟨v2, vs2, d2, ds2, p2, q2, rfl, rfl, rfl, h2, r2⟩ := trodAll_cons r1
  obtain ⟨rfl, rfl, rfl⟩ := trodAll_nil r2
  obtain rfl : args = #[v0, v1, v2] := by cases args; simp_all
  obtain ⟨rfl, rfl⟩ := trodVars_none hV
  obtain ⟨g0, s0, e0⟩ := open_arg tab_ok (m := 12) (by kernel_rfl) (hval 0 22 v0 rfl rfl) h0 (weights_of hsz (j := 0) rfl rfl)
  obtain ⟨q0, rfl, hq0⟩ := Shaped.slice_inv (e := 33) (by kernel_rfl) s0
  obtain ⟨x0, hx0, w0⟩ := rows_typedW (G := tab) (e := 33) (av := Act.av) (wf := fun y => Act.wf y) q0 (fun g hg => by obtain ⟨x, rfl, w⟩ := Act.shaped (hq0 g hg); exact ⟨x, (by kernel_rfl), w⟩)
  rw [hx0] at e0
  obtain ⟨g1, s1, e1⟩ := open_arg tab_ok (m := 12) (by kernel_rfl) (hval 1 3 v1 rfl rfl) h1 (weights_of hsz (j := 1) rfl rfl)
  obtain ⟨x1, rfl, w1⟩ := Shaped.int_inv (k := .i64) (by kernel_rfl) s1
  obtain ⟨g2, s2, e2⟩ := open_arg tab_ok (m := 12) (by kernel_rfl) (hval 2 25 v2 rfl rfl) h2 (weights_of hsz (j := 2) rfl rfl)
  obtain ⟨x2, rfl, w2⟩ := Shaped.arr_inv (n := 12) (e := 23) (k := .u64) (by kernel_rfl) (by kernel_rfl) s2
  refine (law_call (vals := #[v0, v1, v2]) (LockPlays_law x0 x1 x2 false w0 w1 w2) (.cons e0 (.cons e1 (.cons e2 .nil)))).mono fun e W' ⟨he, bel⟩ => ?_
  subst he
  exact ⟨_, rfl, _, _, _, [], _, [], hW', trodAll_mk1 (shut_bool Try.underlying4 _), (trodAll_cons_mk (shut_arg (by kernel_rfl) (by kernel_rfl) (of_decide_eq_true (by kernel_rfl)) h0 bel) (trodAll_cons_mk (shut_arg (by kernel_rfl) (by kernel_rfl) (of_decide_eq_true (by kernel_rfl)) h1 bel) (trodAll_cons_mk (shut_arg (by kernel_rfl) (by kernel_rfl) (of_decide_eq_true (by kernel_rfl)) h2 bel) trodAll_mk0))), rfl, bel.frame _, fun h => by cases h⟩
theorem over : Rows.lockPlaysRow.holds Try.pinned (OpenSpec.ofChange Rows.lockPlaysSpec) :=
  OpenClaim.holds_of_wide 3 Try.f3 rfl rfl rfl rfl rfl rfl rfl ⟨rfl, rfl, rfl, rfl, rfl⟩ rfl rfl rfl rfl rfl (by kernel_rfl) Try.func3 (by kernel_rfl)
    (of_decide_eq_true (by kernel_rfl)) (by unfold Func.isWrapper; first | (rw [if_pos (by decide +kernel)]; kernel_rfl) | (rw [if_neg (by decide +kernel)]; exact ⟨rfl, rfl⟩))
    (fun os started H enc _ => lifted os started H enc)
end lockPlays
/-- The row, for the claim. -/
theorem lockPlays_holds : Rows.LockPlaysSaid := lockPlays.over
#print axioms lockPlays_holds

end Go.Proofs.Ytamgbggpbehflaa
