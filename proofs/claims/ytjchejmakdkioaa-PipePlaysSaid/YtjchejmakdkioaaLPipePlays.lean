/- For every number and every list of numbers the statement podestalaw11.PipePlays answers true, and its arguments read as they did before. There is no condition. -/
import Derived.Test.YtjchejmakdkioaaRows
import Derived.Test.YtjchejmakdkioaaM3PipePlays
set_option linter.unusedVariables false
set_option linter.unusedSimpArgs false
set_option maxRecDepth 100000
set_option maxHeartbeats 4000000
namespace Go.Proofs.Ytjchejmakdkioaa
open Go.Sh
set_option maxRecDepth 100000
open Go.ChangeShapes Go.WideShapes Go.ChangeAt Go.RowKit
theorem PipePlays_law (x0 : Int) (x1 : List Int) (f1 : Bool) (w0 : intW .i64 x0) (w1 : (∀ y ∈ x1, intW .i64 y)) : ACalls Try.prog tab.S 8 [.sc (.int .i64 x0), .sl 3 (List.map (intA .i64) x1) f1] [] (.sc (.bool true)) [] := by
  refine ACalls.facts (ent_of Try.func8 (by kernel_rfl) (by kernel_rfl)) fun hf => ?_
  have l1 : x1.length * 8 ≤ 140737488355328 := by have h := hf.2.1.1; rw [List.length_map] at h; exact h
  have h := PipePlays_true x0 x1 w0 w1 l1
  exact podestalaw11_PipePlays_walk x0 x1 f1 true h
namespace pipePlays
theorem own : ownKnob Try.prog.godebug = none := by kernel_rfl
set_option maxRecDepth 100000 in
theorem lifted (os : Os) (started : os.Started) (H : Type) (enc : TypeId × Value → H) :
    ReturnsInHanded {} Try.checked os 8 .any (Rows.pipePlaysSpec.pre6 enc Try.prog Try.f8 Rows.pipePlaysRow.domain false) (Rows.pipePlaysSpec.post enc Try.prog Try.f8 false true false false) := by
  refine returnsInHanded_of_change_sized (C := Try.checked) own started (by kernel_rfl) Try.func8
    (ChangeSpec.witness6 (enc := enc) (C := Try.checked) false ⟨#[], #[.int .i64 0, .slice none 0 0], []⟩ 8 (by kernel_rfl) (by kernel_rfl) (by kernel_rfl) (by kernel_rfl)) ?_
  intro W base args ds gs before hval0 hW hcnd hsz0 _
  have hsz : (DataW.weightsEach Try.prog (Try.f8.params.toList ++ Rows.pipePlaysSpec.plain.varTypes Try.prog) (ds ++ gs)).all (· ≤ reachBytes) = true := hsz0
  have hval : ∀ (j : Nat) t v, Try.f8.params[j]? = some t → args[j]? = some v → Value.okWide Try.prog W .any base t v := hval0
  have hW' := hW
  obtain ⟨p, q, hA0, hV, rfl, hfz, hnd⟩ := hW
  have hA : DataW.TrodAll enc Try.prog W 0 (fun _ => true) true Try.f8.params.toList args.toList ds p := hA0
  rw [Try.params8] at hA hval hsz
  obtain ⟨v0, vs0, d0, ds0, p0, q0, hargs, rfl, rfl, h0, r0⟩ := trodAll_cons hA
  obtain ⟨v1, vs1, d1, ds1, p1, q1, rfl, rfl, rfl, h1, r1⟩ := trodAll_cons r0
  obtain ⟨rfl, rfl, rfl⟩ := trodAll_nil r1
  obtain rfl : args = #[v0, v1] := by cases args; simp_all
  obtain ⟨rfl, rfl⟩ := trodVars_none hV
  obtain ⟨g0, s0, e0⟩ := open_arg tab_ok (m := 12) (by kernel_rfl) (hval 0 3 v0 rfl rfl) h0 (weights_of hsz (j := 0) rfl rfl)
  obtain ⟨x0, rfl, w0⟩ := Shaped.int_inv (k := .i64) (by kernel_rfl) s0
  obtain ⟨g1, s1, e1⟩ := open_arg tab_ok (m := 12) (by kernel_rfl) (hval 1 31 v1 rfl rfl) h1 (weights_of hsz (j := 1) rfl rfl)
  obtain ⟨q1, rfl, hq1⟩ := Shaped.slice_inv (e := 3) (by kernel_rfl) s1
  obtain ⟨x1, hx1, w1⟩ := rows_typedW (G := tab) (e := 3) (av := (intA .i64)) (wf := fun y => intW .i64 y) q1 (fun g hg => by obtain ⟨x, rfl, w⟩ := Shaped.int_inv (k := .i64) (by kernel_rfl) (hq1 g hg); exact ⟨x, (by kernel_rfl), w⟩)
  rw [hx1] at e1
  refine (law_call (vals := #[v0, v1]) (PipePlays_law x0 x1 false w0 w1) (.cons e0 (.cons e1 .nil))).mono fun e W' ⟨he, bel⟩ => ?_
  subst he
  exact ⟨_, rfl, _, _, _, [], _, [], hW', trodAll_mk1 (shut_bool Try.underlying4 _), (trodAll_cons_mk (shut_arg (by kernel_rfl) (by kernel_rfl) (of_decide_eq_true (by kernel_rfl)) h0 bel) (trodAll_cons_mk (shut_arg (by kernel_rfl) (by kernel_rfl) (of_decide_eq_true (by kernel_rfl)) h1 bel) trodAll_mk0)), rfl, bel.frame _, fun h => by cases h⟩
theorem over : Rows.pipePlaysRow.holds Try.pinned (OpenSpec.ofChange Rows.pipePlaysSpec) :=
  OpenClaim.holds_of_wide 8 Try.f8 rfl rfl rfl rfl rfl rfl rfl ⟨rfl, rfl, rfl, rfl, rfl⟩ rfl rfl rfl rfl rfl (by kernel_rfl) Try.func8 (by kernel_rfl)
    (of_decide_eq_true (by kernel_rfl)) (by unfold Func.isWrapper; first | (rw [if_pos (by decide +kernel)]; kernel_rfl) | (rw [if_neg (by decide +kernel)]; exact ⟨rfl, rfl⟩))
    (fun os started H enc _ => lifted os started H enc)
end pipePlays
/-- The row, for the claim. -/
theorem pipePlays_holds : Rows.PipePlaysSaid := pipePlays.over
#print axioms pipePlays_holds

end Go.Proofs.Ytjchejmakdkioaa
