/- Every change of a run without an error is sound, at a unit, and of the owner; there are at most sixteen. No condition. -/
import Derived.Test.YteioljlgcagnnaaRows
import Derived.Test.YteioljlgcagnnaaM8EvalSound
set_option linter.unusedVariables false
set_option linter.unusedSimpArgs false
set_option maxRecDepth 100000
set_option maxHeartbeats 4000000
namespace Go.Proofs.Yteioljlgcagnnaa
open Go.Sh
set_option maxRecDepth 100000
open Go.ChangeShapes Go.WideShapes Go.ChangeAt Go.RowKit
theorem EvalSound_law (x0 : ByteArray) (x1 : List Int) (x2 : Event) (x3 : Int) (f1 : Bool) (w0 : True) (w1 : (∀ y ∈ x1, intW .i64 y)) (w2 : Event.wf x2) (w3 : intW .u8 x3) : ACalls Try.prog tab.S 5 [.sc (.string x0), .sl 3 (List.map (intA .i64) x1) f1, Event.av x2, .sc (.int .u8 x3)] [] (.sc (.bool true)) [] := by
  refine ACalls.facts (ent_of Try.func5 (by kernel_rfl) (by kernel_rfl)) fun hf => ?_
  have l1 : x1.length * 8 ≤ 140737488355328 := by have h := hf.2.1.1; rw [List.length_map] at h; exact h
  have h := EvalSound_true x0 x1 x2 x3 w0 w1 w2 w3 l1
  exact z5_walk x0 x1 x2 x3 f1 true h
namespace evalSound
theorem own : ownKnob Try.prog.godebug = none := by kernel_rfl
set_option maxRecDepth 100000 in
theorem lifted (os : Os) (started : os.Started) (H : Type) (enc : TypeId × Value → H) :
    ReturnsInHanded {} Try.checked os 5 .any (Rows.evalSoundSpec.pre6 enc Try.prog Try.f5 Rows.evalSoundRow.domain false) (Rows.evalSoundSpec.post enc Try.prog Try.f5 false true false false) := by
  refine returnsInHanded_of_change_sized (C := Try.checked) own started (by kernel_rfl) Try.func5
    (ChangeSpec.witness6 (enc := enc) (C := Try.checked) false ⟨#[], #[.string ⟨#[]⟩, .slice none 0 0, .agg #[.string ⟨#[]⟩, .int .i64 0, .int .i64 0, .int .u64 0, .int .u64 0, .int .u64 0, .int .u64 0, .int .u64 0, .int .u64 0, .int .u64 0, .int .u64 0, .int .u64 0, .int .u64 0, .int .u64 0, .int .u64 0], .int .u8 0], []⟩ 8 (by kernel_rfl) (by kernel_rfl) (by kernel_rfl) (by kernel_rfl)) ?_
  intro W base args ds gs before hval0 hW hcnd hsz0 _
  have hsz : (DataW.weightsEach Try.prog (Try.f5.params.toList ++ Rows.evalSoundSpec.plain.varTypes Try.prog) (ds ++ gs)).all (· ≤ reachBytes) = true := hsz0
  have hval : ∀ (j : Nat) t v, Try.f5.params[j]? = some t → args[j]? = some v → Value.okWide Try.prog W .any base t v := hval0
  have hW' := hW
  obtain ⟨p, q, hA0, hV, rfl, hfz, hnd⟩ := hW
  have hA : DataW.TrodAll enc Try.prog W 0 (fun _ => true) true Try.f5.params.toList args.toList ds p := hA0
  rw [Try.params5] at hA hval hsz
  obtain ⟨v0, vs0, d0, ds0, p0, q0, hargs, rfl, rfl, h0, r0⟩ := trodAll_cons hA
  obtain ⟨v1, vs1, d1, ds1, p1, q1, rfl, rfl, rfl, h1, r1⟩ := trodAll_cons r0
  obtain ⟨v2, vs2, d2, ds2, p2, q2, rfl, rfl, rfl, h2, r2⟩ := trodAll_cons r1
  obtain ⟨v3, vs3, d3, ds3, p3, q3, rfl, rfl, rfl, h3, r3⟩ := trodAll_cons r2
  obtain ⟨rfl, rfl, rfl⟩ := trodAll_nil r3
  obtain rfl : args = #[v0, v1, v2, v3] := by cases args; simp_all
  obtain ⟨rfl, rfl⟩ := trodVars_none hV
  obtain ⟨g0, s0, e0⟩ := open_arg tab_ok (m := 12) (by kernel_rfl) (hval 0 9 v0 rfl rfl) h0 (weights_of hsz (j := 0) rfl rfl)
  obtain ⟨x0, rfl, w0⟩ := Shaped.str_inv (by kernel_rfl) s0
  obtain ⟨g1, s1, e1⟩ := open_arg tab_ok (m := 12) (by kernel_rfl) (hval 1 22 v1 rfl rfl) h1 (weights_of hsz (j := 1) rfl rfl)
  obtain ⟨q1, rfl, hq1⟩ := Shaped.slice_inv (e := 3) (by kernel_rfl) s1
  obtain ⟨x1, hx1, w1⟩ := rows_typedW (G := tab) (e := 3) (av := (intA .i64)) (wf := fun y => intW .i64 y) q1 (fun g hg => by obtain ⟨x, rfl, w⟩ := Shaped.int_inv (k := .i64) (by kernel_rfl) (hq1 g hg); exact ⟨x, (by kernel_rfl), w⟩)
  rw [hx1] at e1
  obtain ⟨g2, s2, e2⟩ := open_arg tab_ok (m := 12) (by kernel_rfl) (hval 2 27 v2 rfl rfl) h2 (weights_of hsz (j := 2) rfl rfl)
  obtain ⟨x2, rfl, w2⟩ := Event.shaped s2
  obtain ⟨g3, s3, e3⟩ := open_arg tab_ok (m := 12) (by kernel_rfl) (hval 3 5 v3 rfl rfl) h3 (weights_of hsz (j := 3) rfl rfl)
  obtain ⟨x3, rfl, w3⟩ := Shaped.int_inv (k := .u8) (by kernel_rfl) s3
  refine (law_call (vals := #[v0, v1, v2, v3]) (EvalSound_law x0 x1 x2 x3 false trivial w1 w2 w3) (.cons e0 (.cons e1 (.cons e2 (.cons e3 .nil))))).mono fun e W' ⟨he, bel⟩ => ?_
  subst he
  exact ⟨_, rfl, _, _, _, [], _, [], hW', trodAll_mk1 (shut_bool Try.underlying4 _), (trodAll_cons_mk (shut_arg (by kernel_rfl) (by kernel_rfl) (of_decide_eq_true (by kernel_rfl)) h0 bel) (trodAll_cons_mk (shut_arg (by kernel_rfl) (by kernel_rfl) (of_decide_eq_true (by kernel_rfl)) h1 bel) (trodAll_cons_mk (shut_arg (by kernel_rfl) (by kernel_rfl) (of_decide_eq_true (by kernel_rfl)) h2 bel) (trodAll_cons_mk (shut_arg (by kernel_rfl) (by kernel_rfl) (of_decide_eq_true (by kernel_rfl)) h3 bel) trodAll_mk0)))), rfl, bel.frame _, fun h => by cases h⟩
theorem over : Rows.evalSoundRow.holds Try.pinned (OpenSpec.ofChange Rows.evalSoundSpec) :=
  OpenClaim.holds_of_wide 5 Try.f5 rfl rfl rfl rfl rfl rfl rfl ⟨rfl, rfl, rfl, rfl, rfl⟩ rfl rfl rfl rfl rfl (by kernel_rfl) Try.func5 (by kernel_rfl)
    (of_decide_eq_true (by kernel_rfl)) (by unfold Func.isWrapper; first | (rw [if_pos (by decide +kernel)]; kernel_rfl) | (rw [if_neg (by decide +kernel)]; exact ⟨rfl, rfl⟩))
    (fun os started H enc _ => lifted os started H enc)
end evalSound
/-- The row, for the claim. -/
theorem evalSound_holds : Rows.EvalSoundSaid := evalSound.over
#print axioms evalSound_holds

end Go.Proofs.Yteioljlgcagnnaa
